/-
  The engine, part 5: an interpreter over abstract memories, and the proof that the model's machine does what it reckons. Conditions: none.
-/
import Derived.Test.YtmcjihhfgmfcpaaGreatDoorEng4

/-
  THE ENGINE, 52: rules by which a run is followed with values that are not known: what is known of the temporaries and of the memory, step by step.
-/
namespace Go.Ab
set_option linter.unusedSectionVars false

/-! ### What is known of temporaries -/

abbrev Env := List (Nat × Value)

def look : Env → Nat → Option Value
  | [], _ => none
  | (t, v) :: e, u => bif Nat.beq t u then some v else look e u

structure Has (n : Nat) (ts : Tr Value) (e : Env) : Prop where
  few : n ≤ dIx
  defs : ts.get dIx = none
  at_ : ∀ t v, look e t = some v → t < n ∧ ts.get t = some v

def Sub : Env → Env → Prop
  | [], _ => True
  | (t, v) :: e, e' => look e' t = some v ∧ Sub e e'

theorem Sub.look {e' : Env} : ∀ {e : Env} {t : Nat} {v : Value}, Sub e e' → look e t = some v → look e' t = some v
  | [], _, _, _, h => by cases h
  | (u, w) :: e, t, v, hs, h => by
    unfold Ab.look at h
    cases hb : Nat.beq u t with
    | true =>
      rw [hb] at h
      cases h
      rw [nbeq, decide_eq_true_eq] at hb
      subst hb
      exact hs.1
    | false =>
      rw [hb] at h
      exact Sub.look hs.2 h

theorem Has.sub {n : Nat} {ts : Tr Value} {e e' : Env} (h : Has n ts e') (hs : Sub e e') : Has n ts e := ⟨h.few, h.defs, fun t v hl => h.at_ t v (hs.look hl)⟩

theorem Has.put {n : Nat} {ts : Tr Value} {e : Env} {t : Nat} (h : Has n ts e) (ht : Nat.blt t n = true) (v : Value) : Has n (put n ts (some t) v) ((t, v) :: e) := by
  unfold Ab.put
  simp only [ht, cond_true]
  rw [nblt, decide_eq_true_eq] at ht
  refine ⟨h.few, ?_, fun u w hl => ?_⟩
  · rw [Tr.get_set, if_neg (by have := h.few; omega)]
    exact h.defs
  · unfold look at hl
    rw [Tr.get_set]
    cases hb : Nat.beq t u with
    | true =>
      rw [hb] at hl
      cases hl
      rw [nbeq, decide_eq_true_eq] at hb
      subst hb
      exact ⟨ht, by simp⟩
    | false =>
      rw [hb] at hl
      rw [nbeq, decide_eq_false_iff_not] at hb
      rw [if_neg (fun e => hb e.symm)]
      exact h.at_ u w hl

def argsE : List Value → Nat → Env
  | [], _ => []
  | v :: vs, i => (i, v) :: argsE vs (i + 1)

theorem argsE_get : ∀ (vs : List Value) (i : Nat) (ts : Tr Value) (t : Nat) (v : Value), look (argsE vs i) t = some v → i ≤ t ∧ t < i + vs.length ∧ (argsT vs i ts).get t = some v
  | [], _, _, _, _, h => by cases h
  | x :: vs, i, ts, t, v, h => by
    unfold argsE look at h
    unfold argsT
    cases hb : Nat.beq i t with
    | true =>
      rw [hb] at h
      cases h
      rw [nbeq, decide_eq_true_eq] at hb
      subst hb
      refine ⟨Nat.le_refl _, by simp, ?_⟩
      have : ∀ (vs : List Value) (j : Nat) (ts : Tr Value), i < j → (argsT vs j ts).get i = ts.get i := by
        intro vs
        induction vs with
        | nil => intro j ts _; rfl
        | cons y ys ih =>
          intro j ts hj
          unfold argsT
          rw [ih _ _ (by omega), Tr.get_set, if_neg (by omega)]
      rw [this _ _ _ (by omega), Tr.get_set_same]
    | false =>
      rw [hb] at h
      obtain ⟨h1, h2, h3⟩ := argsE_get vs (i + 1) (ts.set i (some x)) t v h
      exact ⟨by omega, by simp; omega, h3⟩

theorem argsT_above : ∀ (vs : List Value) (i : Nat) (ts : Tr Value) (t : Nat), i + vs.length ≤ t → (argsT vs i ts).get t = ts.get t
  | [], _, _, _, _ => rfl
  | x :: vs, i, ts, t, h => by
    unfold argsT
    simp at h
    rw [argsT_above vs (i + 1) _ t (by omega), Tr.get_set, if_neg (by omega)]

theorem Has.args {n : Nat} {vs : List Value} (h1 : Nat.ble vs.length n = true) (h2 : Nat.ble n dIx = true) : Has n (argsT vs 0 .lf) (argsE vs 0) := by
  rw [nble, decide_eq_true_eq] at h1 h2
  refine ⟨h2, by rw [argsT_above _ _ _ _ (by omega)]; rfl, fun t v h => ?_⟩
  obtain ⟨_, h3, h4⟩ := argsE_get vs 0 .lf t v h
  exact ⟨by omega, h4⟩

/-! ### Operands -/

def evE (P : Program) (e : Env) : Operand → Option Value
  | .tmp t => look e t
  | .const v => bif ground v then some v else none
  | .global g => bif Nat.blt g P.globals.size then some (.pointer (some ⟨g, 0, none⟩)) else none
  | .func f => some (.func (.func f) ⟨[]⟩ ⟨[]⟩)

def evsE (P : Program) (e : Env) : List Operand → Option (List Value)
  | [] => some []
  | x :: xs => match evE P e x with
    | some v => match evsE P e xs with
      | some vs => some (v :: vs)
      | none => none
    | none => none

section
variable {P : Program} {n : Nat} {ts : Tr Value} {e : Env} (H : Has n ts e)
include H

theorem evE_ev {x : Operand} {v : Value} (h : evE P e x = some v) : ev P ts x = some v := by
  cases x with
  | tmp t =>
    obtain ⟨h1, h2⟩ := H.at_ t v h
    have hb : Nat.blt t dIx = true := by
      rw [nblt, decide_eq_true_eq]
      have := H.few
      omega
    unfold ev
    simp only [hb, h2, cond_true, Option.getD_some]
  | const c => exact h
  | global g => exact h
  | func f => exact h

theorem evsE_evs : ∀ {xs : List Operand} {vs : List Value}, evsE P e xs = some vs → evs P ts xs = some vs
  | [], vs, h => h
  | x :: xs, vs, h => by
    unfold evsE at h
    split at h
    · rename_i v hv
      split at h
      · rename_i ws hw
        cases h
        unfold evs
        rw [evE_ev H hv, evsE_evs hw]
        rfl
      · cases h
    · cases h

end

/-! ### What is known of the memory -/

abbrev Hp := List (Nat × AObj)

/-- 'm0': the memory to which all is held; of its blocks those of S alone may have changed. 'h': blocks that are known. -/
structure Knows (S : List Nat) (m0 m : AW) (h : Hp) : Prop where
  lole : m0.lo ≤ m0.next
  next : m0.next ≤ m.next
  lo : m.lo = m0.lo
  log : ∀ b, b ∈ m.log → b ∈ m0.log ∨ b ∈ S
  none_ : S = [] → m.log = m0.log
  keep : ∀ b, b < m0.next → b ∉ S → m.heap.get b = m0.heap.get b
  has : ∀ b o, (b, o) ∈ h → m.heap.get b = some o ∧ b < m.next ∧ (m0.next ≤ b ∨ b ∈ S)
  apart : (h.map Prod.fst).Nodup

/-- Nothing that was there has changed. -/
structure Ext (m m' : AW) : Prop where
  next : m.next ≤ m'.next
  lo : m'.lo = m.lo
  log : m'.log = m.log
  keep : ∀ b, b < m.next → m'.heap.get b = m.heap.get b

theorem Ext.refl (m : AW) : Ext m m := ⟨Nat.le_refl _, rfl, rfl, fun _ _ => rfl⟩
theorem Ext.trans {a b c : AW} (h : Ext a b) (k : Ext b c) : Ext a c := ⟨Nat.le_trans h.next k.next, k.lo.trans h.lo, k.log.trans h.log, fun x hx => (k.keep x (Nat.lt_of_lt_of_le hx h.next)).trans (h.keep x hx)⟩

/-- What a call may look at. -/
structure KR (S : List Nat) (m0 m : AW) (h : Hp) : Prop where
  lole : m.lo ≤ m.next
  next : m0.next ≤ m.next
  keep : ∀ b, b < m0.next → b ∉ S → m.heap.get b = m0.heap.get b
  has : ∀ b o, (b, o) ∈ h → m.heap.get b = some o ∧ b < m.next

/-- New blocks. -/
structure News (m m' : AW) (l : Hp) : Prop where
  has : ∀ b o, (b, o) ∈ l → m'.heap.get b = some o ∧ m.next ≤ b ∧ b < m'.next
  apart : (l.map Prod.fst).Nodup

theorem News.nil (m m' : AW) : News m m' [] := ⟨fun _ _ h => (by cases h), List.nodup_nil⟩

section
variable {S : List Nat} {m0 m m' : AW} {h : Hp}

theorem Knows.start (hm : m0.lo ≤ m0.next) : Knows [] m0 m0 [] := ⟨hm, Nat.le_refl _, rfl, fun _ h => .inl h, fun _ => rfl, fun _ _ _ => rfl, fun _ _ h => (by cases h), List.nodup_nil⟩

theorem Knows.lole' (k : Knows S m0 m h) : m.lo ≤ m.next := by rw [k.lo]; exact Nat.le_trans k.lole k.next

theorem Knows.ext (k : Knows [] m0 m h) : Ext m0 m := ⟨k.next, k.lo, k.none_ rfl, fun b hb => k.keep b hb (by simp)⟩

theorem Knows.of_ext (k : Knows S m0 m h) (x : Ext m m') : Knows S m0 m' h where
  lole := k.lole
  next := Nat.le_trans k.next x.next
  lo := x.lo.trans k.lo
  log := fun b hb => k.log b (by rw [← x.log]; exact hb)
  none_ := fun hs => x.log.trans (k.none_ hs)
  keep := fun b hb hs => (x.keep b (Nat.lt_of_lt_of_le hb k.next)).trans (k.keep b hb hs)
  has := fun b o hb => by
    obtain ⟨h1, h2, h3⟩ := k.has b o hb
    exact ⟨(x.keep b h2).trans h1, Nat.lt_of_lt_of_le h2 x.next, h3⟩
  apart := k.apart

theorem Knows.kr (k : Knows S m0 m h) : KR S m0 m h := ⟨k.lole', k.next, k.keep, fun b o hb => ⟨(k.has b o hb).1, (k.has b o hb).2.1⟩⟩

theorem Knows.of_news {l : Hp} (k : Knows S m0 m h) (x : Ext m m') (y : News m m' l) : Knows S m0 m' (l ++ h) where
  lole := k.lole
  next := (k.of_ext x).next
  lo := (k.of_ext x).lo
  log := (k.of_ext x).log
  none_ := (k.of_ext x).none_
  keep := (k.of_ext x).keep
  has := fun b o hb => by
    rcases List.mem_append.1 hb with hb | hb
    · obtain ⟨h1, h2, h3⟩ := y.has b o hb
      exact ⟨h1, h3, .inl (Nat.le_trans k.next h2)⟩
    · exact (k.of_ext x).has b o hb
  apart := by
    rw [List.map_append, List.nodup_append]
    refine ⟨y.apart, k.apart, fun a ha b hb => ?_⟩
    obtain ⟨⟨c, o⟩, h1, rfl⟩ := List.mem_map.1 ha
    obtain ⟨⟨c', o'⟩, h2, rfl⟩ := List.mem_map.1 hb
    have := (y.has c o h1).2.1
    have := (k.has c' o' h2).2.1
    simp only
    omega

theorem Knows.sub {h' : Hp} (k : Knows S m0 m h) (hs : h'.Sublist h) : Knows S m0 m h' :=
  ⟨k.lole, k.next, k.lo, k.log, k.none_, k.keep, fun b o hb => k.has b o (hs.subset hb), k.apart.sublist (hs.map _)⟩

/-- A new block. -/
theorem Knows.new (k : Knows S m0 m h) (o : AObj) : Knows S m0 (m.new o) ((m.next, o) :: h) where
  lole := k.lole
  next := by have := k.next; simp only [AW.new]; omega
  lo := k.lo
  log := k.log
  none_ := k.none_
  keep := fun b hb hs => by
    have := k.next
    simp only [AW.new, Tr.get_set]
    rw [if_neg (by omega)]
    exact k.keep b hb hs
  has := fun b o' hb => by
    simp only [AW.new, Tr.get_set]
    rcases List.mem_cons.1 hb with hb | hb
    · cases hb
      exact ⟨by simp, by omega, .inl k.next⟩
    · obtain ⟨h1, h2, h3⟩ := k.has b o' hb
      rw [if_neg (by omega)]
      exact ⟨h1, by omega, h3⟩
  apart := by
    simp only [List.map_cons, List.nodup_cons]
    refine ⟨fun hm => ?_, k.apart⟩
    obtain ⟨⟨b, o'⟩, hb, he⟩ := List.mem_map.1 hm
    obtain ⟨_, h2, _⟩ := k.has b o' hb
    simp only at he
    omega

inductive Upd : Hp → Nat → AObj → AObj → Hp → Prop where
  | head {h : Hp} {b : Nat} {o o' : AObj} : Upd ((b, o) :: h) b o o' ((b, o') :: h)
  | tail {h h' : Hp} {b : Nat} {o o' : AObj} {p : Nat × AObj} (u : Upd h b o o' h') : Upd (p :: h) b o o' (p :: h')

theorem Upd.spec {h h' : Hp} {b : Nat} {o o' : AObj} (u : Upd h b o o' h') : (b, o) ∈ h ∧ h'.map Prod.fst = h.map Prod.fst ∧ ((h.map Prod.fst).Nodup → ∀ c x, (c, x) ∈ h' → (c = b ∧ x = o') ∨ (c ≠ b ∧ (c, x) ∈ h)) := by
  induction u with
  | @head h b o o' =>
    refine ⟨List.mem_cons_self, rfl, fun hn c x hc => ?_⟩
    rcases List.mem_cons.1 hc with hc | hc
    · cases hc
      exact .inl ⟨rfl, rfl⟩
    · simp only [List.map_cons, List.nodup_cons] at hn
      refine .inr ⟨fun e => hn.1 ?_, List.mem_cons_of_mem _ hc⟩
      exact List.mem_map.2 ⟨_, hc, e⟩
  | @tail h h' b o o' p u ih =>
    obtain ⟨h1, h2, h3⟩ := ih
    refine ⟨List.mem_cons_of_mem _ h1, by simp [h2], fun hn c x hc => ?_⟩
    simp only [List.map_cons, List.nodup_cons] at hn
    rcases List.mem_cons.1 hc with hc | hc
    · subst hc
      refine .inr ⟨fun e => hn.1 ?_, List.mem_cons_self⟩
      exact List.mem_map.2 ⟨_, h1, e.symm⟩
    · rcases h3 hn.2 c x hc with h | ⟨h4, h5⟩
      · exact .inl h
      · exact .inr ⟨h4, List.mem_cons_of_mem _ h5⟩

theorem Knows.set {h' : Hp} {b : Nat} {o o' : AObj} (k : Knows S m0 m h) (u : Upd h b o o' h') : Knows S m0 (m.set b (some o')) h' := by
  obtain ⟨h1, h2, h3⟩ := u.spec
  obtain ⟨g1, g2, g3⟩ := k.has b o h1
  have hlog : ∀ c, c ∈ (m.set b (some o')).log → c ∈ m.log ∨ (c = b ∧ b < m.lo) := by
    intro c hc
    simp only [AW.set] at hc
    cases hb : Nat.blt b m.lo with
    | true =>
      rw [hb] at hc
      rw [nblt, decide_eq_true_eq] at hb
      rcases List.mem_cons.1 hc with hc | hc
      · exact .inr ⟨hc, hb⟩
      · exact .inl hc
    | false =>
      rw [hb] at hc
      exact .inl hc
  refine ⟨k.lole, k.next, k.lo, fun c hc => ?_, fun hs => ?_, fun c hc hs => ?_, fun c x hc => ?_, by rw [h2]; exact k.apart⟩
  · rcases hlog c hc with h | ⟨rfl, h⟩
    · exact k.log c h
    · rcases g3 with g3 | g3
      · have := k.lole
        have := k.lo
        omega
      · exact .inr g3
  · have : Nat.blt b m.lo = false := by
      rw [nblt, decide_eq_false_iff_not]
      rcases g3 with g3 | g3
      · have := k.lole
        have := k.lo
        omega
      · rw [hs] at g3
        cases g3
    simp only [AW.set, this]
    exact k.none_ hs
  · simp only [AW.set, Tr.get_set]
    rw [if_neg]
    · exact k.keep c hc hs
    · rintro rfl
      rcases g3 with g3 | g3
      · omega
      · exact hs g3
  · simp only [AW.set, Tr.get_set]
    rcases h3 k.apart c x hc with ⟨rfl, rfl⟩ | ⟨h4, h5⟩
    · exact ⟨by simp, g2, g3⟩
    · rw [if_neg h4]
      exact k.has c x h5

end
end Go.Ab

/-
  THE ENGINE, 53: the rules for code.
-/
namespace Go.Ab
set_option linter.unusedSectionVars false
variable [Vals]

/-- The run of a task comes to an end that is as Q says. -/
def Ru (P : Program) (fr : AFr) (t : Task) (m : AW) (Q : Out → Prop) : Prop := ∃ k o, irun P k fr t m = some o ∧ Q o

theorem Ru.mono {P : Program} {fr : AFr} {t : Task} {m : AW} {Q Q' : Out → Prop} (h : Ru P fr t m Q) (hq : ∀ o, Q o → Q' o) : Ru P fr t m Q' := by
  obtain ⟨k, o, h1, h2⟩ := h
  exact ⟨k, o, h1, hq o h2⟩

theorem Ru.step {P : Program} {fr : AFr} {t : Task} {m : AW} {Q : Out → Prop} {k : Nat} {o : Out} (h : istep P (irun P k) fr t m = some o) (hq : Q o) : Ru P fr t m Q := ⟨k + 1, o, h, hq⟩

def Seq (P : Program) (f n : Nat) (r : Option Nat) (b : Code) (Q : Out → Prop) : Out → Prop
  | ⟨.normal, ts, _, m⟩ => Ru P ⟨f, n, ts, r⟩ (.code b) m Q
  | o => Q o

def Blk (id : Nat) (Q : Out → Prop) : Out → Prop
  | ⟨.exit i, ts, v, m⟩ => bif Nat.beq i id then Q ⟨.normal, ts, v, m⟩ else Q ⟨.exit i, ts, v, m⟩
  | o => Q o

section
variable {P : Program} {f n : Nat} {r : Option Nat} {ts : Tr Value} {m : AW} {Q : Out → Prop}

theorem Ru.seq {a b : Code} (h : Ru P ⟨f, n, ts, r⟩ (.code a) m (Seq P f n r b Q)) : Ru P ⟨f, n, ts, r⟩ (.code (.seq a b)) m Q := by
  obtain ⟨k, ⟨ex, ts1, v, m1⟩, h1, h2⟩ := h
  cases ex with
  | normal =>
    obtain ⟨j, o, g1, g2⟩ := h2
    refine Ru.step (k := k + j) (o := o) ?_ g2
    show stSeq _ _ _ _ _ = _
    unfold stSeq
    rw [irun_le (Nat.le_add_right k j) _ _ _ _ h1]
    exact irun_le (Nat.le_add_left j k) _ _ _ _ g1
  | _ =>
    refine Ru.step (k := k) ?_ h2
    show stSeq _ _ _ _ _ = _
    unfold stSeq
    rw [h1]

theorem Ru.cond_true {x : Operand} {a b : Code} (hx : ev P ts x = some (.bool true)) (h : Ru P ⟨f, n, ts, r⟩ (.code a) m Q) : Ru P ⟨f, n, ts, r⟩ (.code (.cond x a b)) m Q := by
  obtain ⟨k, o, h1, h2⟩ := h
  refine Ru.step (k := k) (o := o) ?_ h2
  show stCond _ _ _ _ _ _ _ = _
  unfold stCond
  simp only [hx]
  exact h1

theorem Ru.cond_false {x : Operand} {a b : Code} (hx : ev P ts x = some (.bool false)) (h : Ru P ⟨f, n, ts, r⟩ (.code b) m Q) : Ru P ⟨f, n, ts, r⟩ (.code (.cond x a b)) m Q := by
  obtain ⟨k, o, h1, h2⟩ := h
  refine Ru.step (k := k) (o := o) ?_ h2
  show stCond _ _ _ _ _ _ _ = _
  unfold stCond
  simp only [hx]
  exact h1

theorem Ru.block {id : Nat} {b : Code} (h : Ru P ⟨f, n, ts, r⟩ (.code b) m (Blk id Q)) : Ru P ⟨f, n, ts, r⟩ (.code (.block id b)) m Q := by
  obtain ⟨k, ⟨ex, ts1, v, m1⟩, h1, h2⟩ := h
  have key : ∃ o, stBlock (irun P k) ⟨f, n, ts, r⟩ id b m = some o ∧ Q o := by
    unfold stBlock
    rw [h1]
    cases ex with
    | exit i =>
      simp only [Blk] at h2
      simp only
      cases hb : Nat.beq i id with
      | true => rw [hb] at h2; exact ⟨_, rfl, h2⟩
      | false => rw [hb] at h2; exact ⟨_, rfl, h2⟩
    | _ => exact ⟨_, rfl, h2⟩
  obtain ⟨o, g1, g2⟩ := key
  exact Ru.step (k := k) g1 g2

theorem Ru.loop {b : Code} (h : Ru P ⟨f, n, ts, r⟩ (.code b) m (Seq P f n r (.loop b) Q)) : Ru P ⟨f, n, ts, r⟩ (.code (.loop b)) m Q := by
  obtain ⟨k, ⟨ex, ts1, v, m1⟩, h1, h2⟩ := h
  cases ex with
  | normal =>
    obtain ⟨j, o, g1, g2⟩ := h2
    refine Ru.step (k := k + j) (o := o) ?_ g2
    show stLoop _ _ _ _ = _
    unfold stLoop
    rw [irun_le (Nat.le_add_right k j) _ _ _ _ h1]
    exact irun_le (Nat.le_add_left j k) _ _ _ _ g1
  | _ =>
    refine Ru.step (k := k) ?_ h2
    show stLoop _ _ _ _ = _
    unfold stLoop
    rw [h1]

end

/-! ### With what is known -/

structure Cx where
  P : Program
  f : Nat
  n : Nat
  r : Option Nat
  S : List Nat
  m0 : AW

def At (X : Cx) (e : Env) (h : Hp) (Q : Tr Value → AW → Prop) : Prop := ∀ ts m, Has X.n ts e → Knows X.S X.m0 m h → Q ts m

def Ce (X : Cx) (e : Env) (h : Hp) (c : Code) (Q : Out → Prop) : Prop := At X e h fun ts m => Ru X.P ⟨X.f, X.n, ts, X.r⟩ (.code c) m Q

/-- What Q asks of a normal end, of an exit, of a return. -/
def Ne (X : Cx) (e : Env) (h : Hp) (Q : Out → Prop) : Prop := At X e h fun ts m => Q ⟨.normal, ts, undef, m⟩
def Xe (X : Cx) (e : Env) (h : Hp) (i : Nat) (Q : Out → Prop) : Prop := At X e h fun ts m => Q ⟨.exit i, ts, undef, m⟩
def Re (X : Cx) (e : Env) (h : Hp) (Q : Out → Prop) : Prop := At X e h fun ts m => Q ⟨.ret, ts, undef, m⟩

abbrev SeqX (X : Cx) (b : Code) (Q : Out → Prop) : Out → Prop := Seq X.P X.f X.n X.r b Q

section
variable {X : Cx} {e : Env} {h : Hp} {Q : Out → Prop} {a b : Code}

theorem At.sub {e' : Env} {h' : Hp} {Q : Tr Value → AW → Prop} (he : Sub e' e) (hh : h'.Sublist h) (q : At X e' h' Q) : At X e h Q := fun ts m h1 h2 => q ts m (h1.sub he) (h2.sub hh)

theorem Ce.sub {c : Code} (e' : Env) (h' : Hp) (he : Sub e' e) (hh : h'.Sublist h) (q : Ce X e' h' c Q) : Ce X e h c Q := At.sub he hh q
theorem Ne.sub (e' : Env) (h' : Hp) (he : Sub e' e) (hh : h'.Sublist h) (q : Ne X e' h' Q) : Ne X e h Q := At.sub he hh q

theorem Ce.seq (q : Ce X e h a (SeqX X b Q)) : Ce X e h (.seq a b) Q := fun ts m h1 h2 => (q ts m h1 h2).seq
theorem Ce.block {id : Nat} (q : Ce X e h b (Blk id Q)) : Ce X e h (.block id b) Q := fun ts m h1 h2 => (q ts m h1 h2).block
theorem Ce.skip (q : Ne X e h Q) : Ce X e h .skip Q := fun ts m h1 h2 => Ru.step (k := 0) rfl (q ts m h1 h2)
theorem Ce.label {l : Nat} (q : Ne X e h Q) : Ce X e h (.label l) Q := fun ts m h1 h2 => Ru.step (k := 0) rfl (q ts m h1 h2)
theorem Ce.exit {i : Nat} (q : Xe X e h i Q) : Ce X e h (.exit i) Q := fun ts m h1 h2 => Ru.step (k := 0) rfl (q ts m h1 h2)
theorem Ce.ret (q : Re X e h Q) : Ce X e h .ret Q := fun ts m h1 h2 => Ru.step (k := 0) rfl (q ts m h1 h2)

theorem Ce.cond_true {x : Operand} (hx : evE X.P e x = some (.bool true)) (q : Ce X e h a Q) : Ce X e h (.cond x a b) Q := fun ts m h1 h2 => (q ts m h1 h2).cond_true (evE_ev h1 hx)
theorem Ce.cond_false {x : Operand} (hx : evE X.P e x = some (.bool false)) (q : Ce X e h b Q) : Ce X e h (.cond x a b) Q := fun ts m h1 h2 => (q ts m h1 h2).cond_false (evE_ev h1 hx)
theorem Ce.cond {x : Operand} {c : Bool} (hx : evE X.P e x = some (.bool c)) (q1 : c = true → Ce X e h a Q) (q2 : c = false → Ce X e h b Q) : Ce X e h (.cond x a b) Q := by
  cases c with
  | true => exact Ce.cond_true hx (q1 rfl)
  | false => exact Ce.cond_false hx (q2 rfl)

theorem Ne.seq (q : Ce X e h b Q) : Ne X e h (SeqX X b Q) := q
theorem Ne.blk {id : Nat} (q : Ne X e h Q) : Ne X e h (Blk id Q) := q
theorem Xe.seq {i : Nat} (q : Xe X e h i Q) : Xe X e h i (SeqX X b Q) := q
theorem Xe.here {i : Nat} (q : Ne X e h Q) : Xe X e h i (Blk i Q) := fun ts m h1 h2 => by
  have hb : Nat.beq i i = true := by rw [nbeq]; simp
  show (bif Nat.beq i i then Q ⟨.normal, ts, undef, m⟩ else Q ⟨.exit i, ts, undef, m⟩)
  rw [hb]
  exact q ts m h1 h2
theorem Xe.blk {i j : Nat} (hb : Nat.beq i j = false) (q : Xe X e h i Q) : Xe X e h i (Blk j Q) := fun ts m h1 h2 => by
  show (bif Nat.beq i j then Q ⟨.normal, ts, undef, m⟩ else Q ⟨.exit i, ts, undef, m⟩)
  rw [hb]
  exact q ts m h1 h2
theorem Re.seq (q : Re X e h Q) : Re X e h (SeqX X b Q) := q
theorem Re.blk {id : Nat} (q : Re X e h Q) : Re X e h (Blk id Q) := q

/-! A loop: 'E', 'H' what is known at its head where it stands at x; 'R' what holds of x; μ goes down. -/

section
variable {α : Type}

def Lp (X : Cx) (E : α → Env) (H : α → Hp) (R : α → Prop) (μ : α → Nat) (x : α) (Q : Out → Prop) : Out → Prop
  | ⟨.normal, ts, _, m⟩ => ∃ y, R y ∧ μ y < μ x ∧ Has X.n ts (E y) ∧ Knows X.S X.m0 m (H y)
  | o => Q o

variable {E : α → Env} {H : α → Hp} {R : α → Prop} {μ : α → Nat} {x : α}

theorem Ce.loop (E : α → Env) (H : α → Hp) (R : α → Prop) (μ : α → Nat) (x : α) (hx : R x) (he : Sub (E x) e) (hh : (H x).Sublist h) (step : ∀ x, R x → Ce X (E x) (H x) b (Lp X E H R μ x Q)) : Ce X e h (.loop b) Q := by
  refine Ce.sub _ _ he hh ?_
  have key : ∀ d x, μ x ≤ d → R x → Ce X (E x) (H x) (.loop b) Q := by
    intro d
    induction d with
    | zero =>
      intro x hd hx ts m h1 h2
      refine Ru.loop ((step x hx ts m h1 h2).mono ?_)
      rintro ⟨ex, ts1, v, m1⟩ ho
      cases ex with
      | normal =>
        obtain ⟨y, _, h3, _⟩ := ho
        omega
      | _ => exact ho
    | succ d ih =>
      intro x hd hx ts m h1 h2
      refine Ru.loop ((step x hx ts m h1 h2).mono ?_)
      rintro ⟨ex, ts1, v, m1⟩ ho
      cases ex with
      | normal =>
        obtain ⟨y, h3, h4, h5, h6⟩ := ho
        exact ih y (by omega) h3 ts1 m1 h5 h6
      | _ => exact ho
  exact key (μ x) x (Nat.le_refl _) hx

theorem Ne.loop (y : α) (hy : R y) (hm : μ y < μ x) (he : Sub (E y) e) (hh : (H y).Sublist h) : Ne X e h (Lp X E H R μ x Q) := fun _ _ h1 h2 => ⟨y, hy, hm, h1.sub he, h2.sub hh⟩
theorem Xe.loop {i : Nat} (q : Xe X e h i Q) : Xe X e h i (Lp X E H R μ x Q) := q
theorem Re.loop (q : Re X e h Q) : Re X e h (Lp X E H R μ x Q) := q

end

/-- All that was known of the memory is now held to the memory as it is. -/
theorem Ce.rebase {c : Code} (q : ∀ m, Knows X.S X.m0 m h → Ce { X with m0 := m, S := h.map Prod.fst } e h c Q) : Ce X e h c Q := fun ts m h1 h2 =>
  q m h2 ts m h1 ⟨h2.lole', Nat.le_refl _, rfl, fun _ h => .inl h, fun _ => rfl, fun _ _ _ => rfl, fun b o hb => by
    obtain ⟨g1, g2, _⟩ := h2.has b o hb
    exact ⟨g1, g2, .inr (List.mem_map.2 ⟨_, hb, rfl⟩)⟩, h2.apart⟩

end

/-! ### Functions -/

/-- A call returns, and Q holds of what it returns and of the memory behind it. -/
def Fc (P : Program) (f : FuncId) (args : List Value) (m : AW) (Q : Value → AW → Prop) : Prop := ∃ k v m', irun P k noFr (.fn f args) m = some ⟨.ret, .lf, v, m'⟩ ∧ Q v m'

theorem Fc.mono {P : Program} {f : FuncId} {args : List Value} {m : AW} {Q Q' : Value → AW → Prop} (h : Fc P f args m Q) (hq : ∀ v m', Q v m' → Q' v m') : Fc P f args m Q' := by
  obtain ⟨k, v, m', h1, h2⟩ := h
  exact ⟨k, v, m', h1, hq _ _ h2⟩

/-- The end of a function's body. -/
def End (P : Program) (fn : Func) (Q : Value → AW → Prop) : Out → Prop
  | ⟨.normal, ts, _, m⟩ => ts.get dIx = none ∧ ∃ v, resA P fn ts m = some v ∧ Q v m
  | ⟨.ret, ts, _, m⟩ => ts.get dIx = none ∧ ∃ v, resA P fn ts m = some v ∧ Q v m
  | _ => False

theorem Fc.body {P : Program} {f : FuncId} {fn : Func} {c : Code} {args : List Value} {m : AW} {Q : Value → AW → Prop} (hf : P.funcs[f]? = some fn) (hb : fn.body = some c) (hv : Vals.call f args = none) (h1 : Nat.ble args.length fn.ntmps = true) (h2 : Nat.ble fn.ntmps dIx = true) (hm : m.lo ≤ m.next)
    (q : Ce ⟨P, f, fn.ntmps, none, [], m⟩ (argsE args 0) [] c (End P fn Q)) : Fc P f args m Q := by
  obtain ⟨k, ⟨ex, ts, v, m'⟩, g1, g2⟩ := q _ m (Has.args h1 h2) (Knows.start hm)
  have hbb : (Nat.ble args.length fn.ntmps && Nat.ble fn.ntmps dIx) = true := by rw [h1, h2]; rfl
  have key : ∃ v m', stFn P (irun P k) f args m = some ⟨.ret, .lf, v, m'⟩ ∧ Q v m' := by
    unfold stFn
    simp only [hf, hb, hv]
    unfold stFb
    simp only [hbb, cond_true]
    simp only at g1
    rw [g1]
    have hd : ∀ (ts : Tr Value) (m : AW) (v : Value), ts.get dIx = none → resA P fn ts m = some v → retD P (irun P k) fn ts m = some ⟨.ret, .lf, v, m⟩ := by
      intro ts m v e1 e2
      unfold retD defsOf
      rw [e1]
      simp only [runD, retFn, e2]
    cases ex with
    | normal =>
      obtain ⟨e0, w, e1, e2⟩ := g2
      exact ⟨w, m', hd _ _ _ e0 e1, e2⟩
    | ret =>
      obtain ⟨e0, w, e1, e2⟩ := g2
      exact ⟨w, m', hd _ _ _ e0 e1, e2⟩
    | _ => exact absurd g2 (by simp [End])
  obtain ⟨w, m2, e1, e2⟩ := key
  exact ⟨k + 1, w, m2, e1, e2⟩

/-- A call that is known beforehand. -/
theorem Fc.known {P : Program} {f : FuncId} {fn : Func} {args : List Value} {m : AW} {v : Value} (hf : P.funcs[f]? = some fn) (hb : fn.body.isSome = true) (hv : Vals.call f args = some v) (hs : (scals args && scalT v) = true) (hl : (Nat.ble P.globals.size laidEnd && hasL m.heap Vals.laid) = true) : Fc P f args m fun w m' => w = v ∧ m' = m := by
  obtain ⟨c, hc⟩ := Option.isSome_iff_exists.1 hb
  refine ⟨1, v, m, ?_, rfl, rfl⟩
  show stFn P _ f args m = _
  unfold stFn
  simp only [hf, hc, hv, hs, hl, Bool.and_self, cond_true]

/-- A function's results, where they lie in temporaries. -/
def resE (e : Env) : List ResultVar → Option (List Value)
  | [] => some []
  | .tmp t :: rs => match look e t with
    | some v => match resE e rs with
      | some vs => some (v :: vs)
      | none => none
    | none => none
  | .cell _ _ :: _ => none

def tupV : List Value → Value
  | [v] => v
  | vs => .tuple ⟨vs⟩

theorem resE_spec {P : Program} {n : Nat} {ts : Tr Value} {e : Env} {m : AW} (H : Has n ts e) : ∀ {rs : List ResultVar} {vs : List Value}, resE e rs = some vs → resA.go P ts m rs = some vs
  | [], vs, h => h
  | .tmp t :: rs, vs, h => by
    unfold resE at h
    split at h
    · rename_i v hv
      split at h
      · rename_i ws hw
        cases h
        obtain ⟨h1, h2⟩ := H.at_ t v hv
        have hb : Nat.blt t dIx = true := by
          rw [nblt, decide_eq_true_eq]
          have := H.few
          omega
        unfold resA.go
        simp only [hb, cond_true, resE_spec H hw, h2]
        rfl
      · cases h
    · cases h
  | .cell _ _ :: _, _, h => by cases h

section
variable {X : Cx} {e : Env} {h : Hp} {fn : Func} {Q : Value → AW → Prop}

theorem Re.end_ {rs : List ResultVar} {vs : List Value} (hr : fn.results.toList = rs) (hv : resE e rs = some vs) (q : ∀ m, Knows X.S X.m0 m h → Q (tupV vs) m) : Re X e h (End X.P fn Q) := fun ts m h1 h2 =>
  ⟨h1.defs, tupV vs, by unfold resA; rw [hr, resE_spec h1 hv]; unfold tupV; rfl, q m h2⟩
theorem Ne.end_ {rs : List ResultVar} {vs : List Value} (hr : fn.results.toList = rs) (hv : resE e rs = some vs) (q : ∀ m, Knows X.S X.m0 m h → Q (tupV vs) m) : Ne X e h (End X.P fn Q) := fun ts m h1 h2 =>
  ⟨h1.defs, tupV vs, by unfold resA; rw [hr, resE_spec h1 hv]; unfold tupV; rfl, q m h2⟩

end
end Go.Ab

/-
  THE ENGINE, 54: the rules for operations.
-/
namespace Go.Ab
set_option linter.unusedSectionVars false
variable [Vals]

def Io (P : Program) (n : Nat) (q : Bool) (ops : Array Oper) (l : List Oper) (ts : Tr Value) (m : AW) (Q : Out → Prop) : Prop := ∃ k o, iops P (irun P k) n q ops l ts m = some o ∧ Q o

def Ie (X : Cx) (ops : Array Oper) (e : Env) (h : Hp) (l : List Oper) (Q : Out → Prop) : Prop := At X e h fun ts m => Io X.P X.n X.r.isNone ops l ts m Q

def wantE (ops : Array Oper) (e : Env) (o : Oper) : Option Bool :=
  match o.guard with
  | none => some true
  | some (j, want) => match (ops[j]?).bind (·.dst) with
    | some t => match look e t with
      | some (.bool b) => some (b == want)
      | some (.tuple _) => some false
      | _ => none
    | none => none

theorem wantE_spec {n : Nat} {ts : Tr Value} {e : Env} {ops : Array Oper} {o : Oper} {b : Bool} (H : Has n ts e) (h : wantE ops e o = some b) : wantedA ops ts o = b := by
  unfold wantE at h
  unfold wantedA
  cases hg : o.guard with
  | none => rw [hg] at h; cases h; rfl
  | some g =>
    obtain ⟨j, want⟩ := g
    rw [hg] at h
    simp only at h ⊢
    cases hj : (ops[j]?).bind (·.dst) with
    | none => rw [hj] at h; cases h
    | some t =>
      rw [hj] at h
      simp only at h ⊢
      split at h
      · rename_i c hc
        obtain ⟨h1, h2⟩ := H.at_ t _ hc
        have hb : Nat.blt t dIx = true := by
          rw [nblt, decide_eq_true_eq]
          have := H.few
          omega
        rw [hb, h2]
        cases h
        rfl
      · rename_i c hc
        obtain ⟨h1, h2⟩ := H.at_ t _ hc
        have hb : Nat.blt t dIx = true := by
          rw [nblt, decide_eq_true_eq]
          have := H.few
          omega
        rw [hb, h2]
        cases h
        rfl
      · cases h

section
variable {X : Cx} {ops : Array Oper} {e : Env} {h : Hp} {Q : Out → Prop} {o : Oper} {rest : List Oper} {t : Tmp} {v : Value}

theorem Ce.region {id : Nat} (q : Ie X ops e h ops.toList Q) : Ce X e h (.region id ops false) Q := fun ts m h1 h2 => by
  obtain ⟨k, o, g1, g2⟩ := q ts m h1 h2
  exact Ru.step (k := k) g1 g2

theorem Ie.nil (q : Ne X e h Q) : Ie X ops e h [] Q := fun ts m h1 h2 => ⟨0, _, rfl, q ts m h1 h2⟩

theorem doOp_h {P : Program} {s : Self} {ts : Tr Value} {o : Op} {m : AW} (hc : cls P o = .h) : doOp P s ts o m = opH P s ts o m := by unfold doOp; rw [hc]
theorem doOp_l {P : Program} {s : Self} {ts : Tr Value} {o : Op} {m : AW} (hc : cls P o = .l) : doOp P s ts o m = doL (opL P ts o) m := by unfold doOp; rw [hc]
theorem doOp_a {P : Program} {s : Self} {ts : Tr Value} {o : Op} {m : AW} (hc : cls P o = .a) : doOp P s ts o m = doA (opA P ts o) m := by unfold doOp; rw [hc]
theorem doOp_p {P : Program} {s : Self} {ts : Tr Value} {o : Op} {m : AW} (hc : cls P o = .p) : doOp P s ts o m = doP (opP P ts o) m := by unfold doOp; rw [hc]

/-- One operation. -/
theorem Io.op {P : Program} {n : Nat} {q : Bool} {ts : Tr Value} {m m' : AW} {k : Nat} (hw : wantedA ops ts o = true) (hs : spc o.op = .no) (hd : doOp P (irun P k) ts o.op m = some (.val v m')) (hr : Io P n q ops rest (put n ts o.dst v) m' Q) : Io P n q ops (o :: rest) ts m Q := by
  obtain ⟨j, out, g1, g2⟩ := hr
  refine ⟨k + j, out, ?_, g2⟩
  unfold iops
  rw [hw]
  simp only [cond_true, hs]
  rw [doOp_le (irun_le (Nat.le_add_right k j)) hd]
  exact iops_le (irun_le (Nat.le_add_left j k)) g1

/-- An operation that leaves a value. -/
theorem Ie.val (h' : Hp) (hd : o.dst = some t) (ht : Nat.blt t X.n = true) (hg : wantE ops e o = some true) (hs : spc o.op = .no)
    (hv : ∀ ts m, Has X.n ts e → Knows X.S X.m0 m h → ∃ k m', doOp X.P (irun X.P k) ts o.op m = some (.val v m') ∧ Knows X.S X.m0 m' h') (q : Ie X ops ((t, v) :: e) h' rest Q) : Ie X ops e h (o :: rest) Q := fun ts m h1 h2 => by
  obtain ⟨k, m', g1, g2⟩ := hv ts m h1 h2
  refine Io.op (wantE_spec h1 hg) hs g1 ?_
  rw [hd]
  exact q _ m' (h1.put ht v) g2

theorem Ie.val_ (h' : Hp) (hd : o.dst = none) (hg : wantE ops e o = some true) (hs : spc o.op = .no)
    (hv : ∀ ts m, Has X.n ts e → Knows X.S X.m0 m h → ∃ k m', doOp X.P (irun X.P k) ts o.op m = some (.val v m') ∧ Knows X.S X.m0 m' h') (q : Ie X ops e h' rest Q) : Ie X ops e h (o :: rest) Q := fun ts m h1 h2 => by
  obtain ⟨k, m', g1, g2⟩ := hv ts m h1 h2
  refine Io.op (wantE_spec h1 hg) hs g1 ?_
  rw [hd]
  exact q _ m' h1 g2

theorem Ie.off (hd : o.dst = some t) (ht : Nat.blt t X.n = true) (hg : wantE ops e o = some false) (q : Ie X ops ((t, undef) :: e) h rest Q) : Ie X ops e h (o :: rest) Q := fun ts m h1 h2 => by
  obtain ⟨k, out, g1, g2⟩ := q _ m (h1.put ht undef) h2
  refine ⟨k, out, ?_, g2⟩
  unfold iops
  rw [wantE_spec h1 hg, hd]
  exact g1

theorem Ie.off_ (hd : o.dst = none) (hg : wantE ops e o = some false) (q : Ie X ops e h rest Q) : Ie X ops e h (o :: rest) Q := fun ts m h1 h2 => by
  obtain ⟨k, out, g1, g2⟩ := q _ m h1 h2
  refine ⟨k, out, ?_, g2⟩
  unfold iops
  rw [wantE_spec h1 hg, hd]
  exact g1

theorem Ie.sub (e' : Env) (h' : Hp) (he : Sub e' e) (hh : h'.Sublist h) (q : Ie X ops e' h' rest Q) : Ie X ops e h rest Q := At.sub he hh q

end

/-! ### Operations that only reckon -/

def evPartsE (P : Program) (e : Env) : List (Nat × Operand) → Option (List (Nat × Value))
  | [] => some []
  | (i, x) :: xs => match evE P e x with
    | some v => match evPartsE P e xs with
      | some vs => some ((i, v) :: vs)
      | none => none
    | none => none

theorem evPartsE_spec {P : Program} {n : Nat} {ts : Tr Value} {e : Env} (H : Has n ts e) : ∀ {xs : List (Nat × Operand)} {vs : List (Nat × Value)}, evPartsE P e xs = some vs → evParts P ts xs = some vs
  | [], _, h => h
  | (i, x) :: xs, vs, h => by
    unfold evPartsE at h
    split at h
    · rename_i v hv
      split at h
      · rename_i ws hw
        cases h
        unfold evParts
        rw [evE_ev H hv, evPartsE_spec H hw]
        rfl
      · cases h
    · cases h

def evoE (P : Program) (e : Env) : Option Operand → Option (Option Value)
  | none => some none
  | some x => match evE P e x with
    | some v => some (some v)
    | none => none

theorem evoE_spec {P : Program} {n : Nat} {ts : Tr Value} {e : Env} (H : Has n ts e) {x : Option Operand} {v : Option Value} (h : evoE P e x = some v) : evo P ts x = some v := by
  cases x with
  | none => exact h
  | some x =>
    unfold evoE at h
    simp only at h
    cases hw : evE P e x with
    | none => rw [hw] at h; cases h
    | some w =>
      rw [hw] at h
      cases h
      unfold evo
      simp only [evE_ev H hw]

/-- The value of an operation that only reckons. -/
def opE (P : Program) (e : Env) : Op → Option Value
  | .move x => evE P e x
  | .assign x => evE P e x
  | .pick c a b => match evE P e c with
    | some (.bool true) => evE P e a
    | some (.bool false) => evE P e b
    | _ => none
  | .build t parts => match evPartsE P e parts.toList with
    | some ps => buildA P t ps
    | none => none
  | .nilCheck x => match evE P e x with
    | some v => nilCheckA P (some v)
    | none => none
  | .binOp op t x y _ => match evE P e x with
    | some a => match evE P e y with
      | some b => binS P op t x y a b
      | none => none
    | none => none
  | .unOp op _ x => match evE P e x with
    | some a => unS op a
    | none => none
  | .makeInterface t x => match evE P e x with
    | some v => ifaceA P t (some v)
    | none => none
  | .makeFunc fn first captured => match evsE P e first.toList with
    | some a => match evsE P e captured.toList with
      | some b => match fn with
        | .func f => some (.func (.func f) ⟨a⟩ ⟨b⟩)
        | .method n => some (.func (.method n) ⟨a⟩ ⟨b⟩)
        | _ => none
      | none => none
    | none => none
  | .slice t x l h m => match evE P e x with
    | some x => match evoE P e l with
      | some l => match evoE P e h with
        | some h => match evoE P e m with
          | some m => sliceA P t x l h m
          | none => none
        | none => none
      | none => none
    | none => none
  | .fieldAddr s x f => match evE P e x with
    | some v => fieldAddrA P s v f
    | none => none
  | .field t x f => match evE P e x with
    | some v => fieldA P t v f
    | none => none
  | .indexAddr t x i => match evE P e x with
    | some a => match evE P e i with
      | some b => indexAddrA P t a b
      | none => none
    | none => none
  | .index t x i => match evE P e x with
    | some a => match evE P e i with
      | some b => indexA P t a b
      | none => none
    | none => none
  | .extract t i => match evE P e t with
    | some t => extractA t i
    | none => none
  | .typeAssert x _ t ok => match evE P e x with
    | some x => assertA P x t ok
    | none => none
  | _ => none

theorem opE_spec {P : Program} {n : Nat} {ts : Tr Value} {e : Env} (H : Has n ts e) {o : Op} {v : Value} (h : opE P e o = some v) : cls P o = .p ∧ spc o = .no ∧ opP P ts o = some v := by
  cases o
  case move x => exact ⟨rfl, rfl, evE_ev H h⟩
  case assign x => exact ⟨rfl, rfl, evE_ev H h⟩
  case pick c a b =>
    refine ⟨rfl, rfl, ?_⟩
    simp only [opE] at h
    split at h
    · rename_i hc
      simp only [opP, pickA, evE_ev H hc]
      exact evE_ev H h
    · rename_i hc
      simp only [opP, pickA, evE_ev H hc]
      exact evE_ev H h
    · cases h
  case build t parts =>
    refine ⟨rfl, rfl, ?_⟩
    simp only [opE] at h
    split at h
    · rename_i ps hp
      simp only [opP, evPartsE_spec H hp]
      exact h
    · cases h
  case nilCheck x =>
    refine ⟨rfl, rfl, ?_⟩
    simp only [opE] at h
    split at h
    · rename_i w hw
      simp only [opP, evE_ev H hw]
      exact h
    · cases h
  case binOp op t x y u =>
    refine ⟨rfl, rfl, ?_⟩
    simp only [opE] at h
    split at h
    · rename_i a ha
      split at h
      · rename_i b hb
        simp only [opP, bin1, evE_ev H ha, evE_ev H hb]
        exact h
      · cases h
    · cases h
  case unOp op t x =>
    refine ⟨rfl, rfl, ?_⟩
    simp only [opE] at h
    split at h
    · rename_i w hw
      simp only [opP, evE_ev H hw]
      exact h
    · cases h
  case makeInterface t x =>
    refine ⟨rfl, rfl, ?_⟩
    simp only [opE] at h
    split at h
    · rename_i w hw
      simp only [opP, evE_ev H hw]
      exact h
    · cases h
  case makeFunc fn first captured =>
    refine ⟨rfl, rfl, ?_⟩
    simp only [opE] at h
    split at h
    · rename_i a ha
      split at h
      · rename_i b hb
        simp only [opP, funcA, evsE_evs H ha, evsE_evs H hb]
        cases fn <;> exact h
      · cases h
    · cases h
  case slice t x l hh m =>
    refine ⟨rfl, rfl, ?_⟩
    simp only [opE] at h
    split at h
    · rename_i x' hx
      split at h
      · rename_i l' hl
        split at h
        · rename_i h' hh'
          split at h
          · rename_i m' hm
            simp only [opP, slice1, evE_ev H hx, evoE_spec H hl, evoE_spec H hh', evoE_spec H hm]
            exact h
          · cases h
        · cases h
      · cases h
    · cases h
  case fieldAddr s x f =>
    refine ⟨rfl, rfl, ?_⟩
    simp only [opE] at h
    split at h
    · rename_i w hw
      simp only [opP, evE_ev H hw]
      exact h
    · cases h
  case field s x f =>
    refine ⟨rfl, rfl, ?_⟩
    simp only [opE] at h
    split at h
    · rename_i w hw
      simp only [opP, evE_ev H hw]
      exact h
    · cases h
  case indexAddr t x i =>
    refine ⟨rfl, rfl, ?_⟩
    simp only [opE] at h
    split at h
    · rename_i a ha
      split at h
      · rename_i b hb
        simp only [opP, bind2, evE_ev H ha, evE_ev H hb]
        exact h
      · cases h
    · cases h
  case index t x i =>
    refine ⟨rfl, rfl, ?_⟩
    simp only [opE] at h
    split at h
    · rename_i a ha
      split at h
      · rename_i b hb
        simp only [opP, bind2, evE_ev H ha, evE_ev H hb]
        exact h
      · cases h
    · cases h
  case extract t i =>
    refine ⟨rfl, rfl, ?_⟩
    simp only [opE] at h
    split at h
    · rename_i w hw
      simp only [opP, evE_ev H hw]
      exact h
    · cases h
  case typeAssert x s t ok =>
    refine ⟨rfl, rfl, ?_⟩
    simp only [opE] at h
    split at h
    · rename_i w hw
      simp only [opP, evE_ev H hw]
      exact h
    · cases h
  all_goals cases h

section
variable {X : Cx} {ops : Array Oper} {e : Env} {h : Hp} {Q : Out → Prop} {o : Oper} {rest : List Oper} {t : Tmp} {v : Value}

theorem Ie.p (hd : o.dst = some t) (ht : Nat.blt t X.n = true) (hg : wantE ops e o = some true) (hv : opE X.P e o.op = some v) (q : Ie X ops ((t, v) :: e) h rest Q) : Ie X ops e h (o :: rest) Q := fun ts m h1 h2 => by
  obtain ⟨c1, c2, c3⟩ := opE_spec h1 hv
  refine Ie.val h hd ht hg c2 (fun ts m h1 h2 => ?_) q ts m h1 h2
  obtain ⟨c1, c2, c3⟩ := opE_spec h1 hv
  exact ⟨0, m, by unfold doOp; rw [c1]; simp only [doP, c3], h2⟩

/-- A conversion that only reckons. -/
theorem Ie.conv {s d : TypeId} {x : Operand} {a : Value} (hd : o.dst = some t) (ht : Nat.blt t X.n = true) (hg : wantE ops e o = some true) (ho : o.op = .convert s d x) (hx : evE X.P e x = some a) (hc : cls X.P (.convert s d x) = .p) (hv : convS X.P s d a = some v) (q : Ie X ops ((t, v) :: e) h rest Q) : Ie X ops e h (o :: rest) Q := by
  refine Ie.val h hd ht hg (by rw [ho]; rfl) (fun ts m h1 h2 => ⟨0, m, ?_, h2⟩) q
  rw [ho]
  unfold doOp
  rw [hc]
  simp only [doP, opP, evE_ev h1 hx, Option.bind_some, hv]

/-! ### Calls -/

/-- A call that leaves what was there as it was, and makes new blocks. -/
theorem Ie.calln {α : Type} {fo : Operand} {as : Array Operand} {ats : Array TypeId} {vs first cap : List Value} {g : FuncId} (A : α → Prop) (V : α → Value) (N : α → Hp) (hd : o.dst = some t) (ht : Nat.blt t X.n = true) (hg : wantE ops e o = some true) (ho : o.op = .call { callee := .value fo, args := as, argTypes := ats }) (ha : evsE X.P e as.toList = some vs) (hf : evE X.P e fo = some (.func (.func g) ⟨first⟩ ⟨cap⟩))
    (hc : ∀ m, KR X.S X.m0 m h → Fc X.P g (first ++ vs ++ cap) m fun v m' => ∃ x, A x ∧ v = V x ∧ Ext m m' ∧ News m m' (N x)) (q : ∀ x, A x → Ie X ops ((t, V x) :: e) (N x ++ h) rest Q) : Ie X ops e h (o :: rest) Q := fun ts m h1 h2 => by
  obtain ⟨k, v, m', g1, x, hA, rfl, hk, hn⟩ := hc m h2.kr
  refine Io.op (k := k) (m' := m') (v := V x) (wantE_spec h1 hg) (by rw [ho]; rfl) ?_ ?_
  · rw [ho, doOp_h rfl]
    simp only [opH, callH, evsE_evs h1 ha, evE_ev h1 hf, callV, callA, g1]
  · rw [hd]
    exact q x hA _ m' (h1.put ht _) (h2.of_news hk hn)

theorem Ie.callx {α : Type} {fo : Operand} {as : Array Operand} {ats : Array TypeId} {vs first cap : List Value} {g : FuncId} (A : α → Prop) (V : α → Value) (H : α → Hp) (hd : o.dst = some t) (ht : Nat.blt t X.n = true) (hg : wantE ops e o = some true) (ho : o.op = .call { callee := .value fo, args := as, argTypes := ats }) (ha : evsE X.P e as.toList = some vs) (hf : evE X.P e fo = some (.func (.func g) ⟨first⟩ ⟨cap⟩))
    (hc : ∀ m, Knows X.S X.m0 m h → Fc X.P g (first ++ vs ++ cap) m fun v m' => ∃ x, A x ∧ v = V x ∧ Knows X.S X.m0 m' (H x)) (q : ∀ x, A x → Ie X ops ((t, V x) :: e) (H x) rest Q) : Ie X ops e h (o :: rest) Q := fun ts m h1 h2 => by
  obtain ⟨k, v, m', g1, x, hA, rfl, hk⟩ := hc m h2
  refine Io.op (k := k) (m' := m') (v := V x) (wantE_spec h1 hg) (by rw [ho]; rfl) ?_ ?_
  · rw [ho, doOp_h rfl]
    simp only [opH, callH, evsE_evs h1 ha, evE_ev h1 hf, callV, callA, g1]
  · rw [hd]
    exact q x hA _ m' (h1.put ht _) hk

theorem Ie.callx_ {α : Type} {fo : Operand} {as : Array Operand} {ats : Array TypeId} {vs first cap : List Value} {g : FuncId} (A : α → Prop) (H : α → Hp) (hd : o.dst = none) (hg : wantE ops e o = some true) (ho : o.op = .call { callee := .value fo, args := as, argTypes := ats }) (ha : evsE X.P e as.toList = some vs) (hf : evE X.P e fo = some (.func (.func g) ⟨first⟩ ⟨cap⟩))
    (hc : ∀ m, Knows X.S X.m0 m h → Fc X.P g (first ++ vs ++ cap) m fun _ m' => ∃ x, A x ∧ Knows X.S X.m0 m' (H x)) (q : ∀ x, A x → Ie X ops e (H x) rest Q) : Ie X ops e h (o :: rest) Q := fun ts m h1 h2 => by
  obtain ⟨k, v, m', g1, x, hA, hk⟩ := hc m h2
  refine Io.op (k := k) (m' := m') (v := v) (wantE_spec h1 hg) (by rw [ho]; rfl) ?_ ?_
  · rw [ho, doOp_h rfl]
    simp only [opH, callH, evsE_evs h1 ha, evE_ev h1 hf, callV, callA, g1]
  · rw [hd]
    exact q x hA _ m' h1 hk

/-- A call that leaves the memory as it was. -/
theorem Ie.call {fo : Operand} {as : Array Operand} {ats : Array TypeId} {vs first cap : List Value} {g : FuncId} (v : Value) (hd : o.dst = some t) (ht : Nat.blt t X.n = true) (hg : wantE ops e o = some true) (ho : o.op = .call { callee := .value fo, args := as, argTypes := ats }) (ha : evsE X.P e as.toList = some vs) (hf : evE X.P e fo = some (.func (.func g) ⟨first⟩ ⟨cap⟩))
    (hc : ∀ m, KR X.S X.m0 m h → Fc X.P g (first ++ vs ++ cap) m fun w m' => w = v ∧ Ext m m') (q : Ie X ops ((t, v) :: e) h rest Q) : Ie X ops e h (o :: rest) Q :=
  Ie.calln (α := Unit) (fun _ => True) (fun _ => v) (fun _ => []) hd ht hg ho ha hf (fun m hm => (hc m hm).mono fun _ _ ⟨e1, e2⟩ => ⟨(), trivial, e1, e2, News.nil _ _⟩) fun _ _ => q

/-! ### The memory -/

/-- A block that is known. -/
def Sees (X : Cx) (h : Hp) (b : Nat) (o : AObj) : Prop := ∀ m, Knows X.S X.m0 m h → m.heap.get b = some o

theorem Sees.head {b : Nat} {o : AObj} : Sees X ((b, o) :: h) b o := fun _ k => (k.has _ _ List.mem_cons_self).1
theorem Sees.tail {b : Nat} {o : AObj} {p : Nat × AObj} (s : Sees X h b o) : Sees X (p :: h) b o := fun m k => s m (k.sub (List.sublist_cons_self _ _))
theorem Sees.base {b : Nat} {o : AObj} (hb : X.m0.heap.get b = some o) (hl : b < X.m0.next) (hs : b ∉ X.S) : Sees X h b o := fun _ k => (k.keep b hl hs).trans hb

theorem Ie.load {ty : TypeId} {a : Operand} {b off : Nat} {cs : List Value} {el : TypeId} {g : Bool} {md : CMode} {mate : Option Nat} (hd : o.dst = some t) (ht : Nat.blt t X.n = true) (hg : wantE ops e o = some true) (ho : o.op = .load ty a) (ha : evE X.P e a = some (.pointer (some ⟨b, off, none⟩))) (hty : aggT X.P ty = some false) (hs : Sees X h b (.cells cs el g md mate)) (hc : cs[off]? = some v) (q : Ie X ops ((t, v) :: e) h rest Q) : Ie X ops e h (o :: rest) Q := by
  refine Ie.val h hd ht hg (by rw [ho]; rfl) (fun ts m h1 h2 => ⟨0, m, ?_, h2⟩) q
  rw [ho, doOp_l rfl]
  have : loadA X.P ty (.pointer (some ⟨b, off, none⟩)) = some (.rd b fun o => match o with | .cells cs _ _ _ _ => cs[off]? | _ => none) := by
    unfold loadA
    simp only [hty]
    rfl
  simp only [opL, evE_ev h1 ha, Option.bind_some, this, doL, hs m h2, hc]

theorem Ie.loadAgg {ty : TypeId} {a : Operand} {b off n : Nat} {cs vs : List Value} {el : TypeId} {g : Bool} {md : CMode} {mate : Option Nat} (hd : o.dst = some t) (ht : Nat.blt t X.n = true) (hg : wantE ops e o = some true) (ho : o.op = .load ty a) (ha : evE X.P e a = some (.pointer (some ⟨b, off, none⟩))) (hty : aggT X.P ty = some true) (hsz : sizeT X.P ty = some n) (hs : Sees X h b (.cells cs el g md mate)) (hl : off + n ≤ cs.length) (hc : (cs.drop off).take n = vs) (q : Ie X ops ((t, .agg ⟨vs⟩) :: e) h rest Q) : Ie X ops e h (o :: rest) Q := by
  refine Ie.val h hd ht hg (by rw [ho]; rfl) (fun ts m h1 h2 => ⟨0, m, ?_, h2⟩) q
  rw [ho, doOp_l rfl]
  have : loadA X.P ty (.pointer (some ⟨b, off, none⟩)) = some (.rd b fun o => (rdCells o off n).map fun cs => .agg ⟨cs⟩) := by
    unfold loadA
    simp only [hty, hsz]
  have h3 : rdCells (.cells cs el g md mate) off n = some vs := by
    unfold rdCells
    simp only [nble, hl, decide_true, cond_true, hc]
  simp only [opL, evE_ev h1 ha, Option.bind_some, this, doL, hs m h2, h3, Option.map_some]

theorem Ie.store {h' : Hp} {ty : TypeId} {a x : Operand} {b off n : Nat} {y : Value} {cs : List Value} {el : TypeId} {g : Bool} {md : CMode} (hd : o.dst = none) (hg : wantE ops e o = some true) (ho : o.op = .store ty a x) (ha : evE X.P e a = some (.pointer (some ⟨b, off, none⟩))) (hx : evE X.P e x = some y) (hsz : sizeT X.P ty = some (n + 1)) (hl : (cellsOfV y).length = n + 1) (hu : Upd h b (.cells cs el g md none) (.cells (putCells cs off (cellsOfV y)) el g md none) h') (hw : (md.writes && Nat.ble (off + (cellsOfV y).length) cs.length && flats (cellsOfV y)) = true) (q : Ie X ops e h' rest Q) : Ie X ops e h (o :: rest) Q := by
  refine Ie.val_ (v := undef) h' hd hg (by rw [ho]; rfl) (fun ts m h1 h2 => ⟨0, _, ?_, h2.set hu⟩) q
  rw [ho, doOp_h rfl]
  have h3 : m.heap.get b = some (.cells cs el g md none) := (h2.has _ _ hu.spec.1).1
  have h4 : storeA m b off (cellsOfV y) = some (m.set b (some (.cells (putCells cs off (cellsOfV y)) el g md none))) := by
    unfold storeA
    cases hc : cellsOfV y with
    | nil => rw [hc] at hl; simp at hl
    | cons c r =>
      rw [hc] at hw
      simp only [h3, hw, kill, cond_true]
  have h5 : Nat.beq (cellsOfV y).length (n + 1) = true := by rw [nbeq, hl]; simp
  simp only [opH, evE_ev h1 ha, evE_ev h1 hx, storeV, hsz, h5, cond_true, h4, valM]

/-- An operation that makes a block. -/
theorem Ie.made {ob : AObj} {fv : Nat → Value} (hd : o.dst = some t) (ht : Nat.blt t X.n = true) (hg : wantE ops e o = some true) (hs : spc o.op = .no) (hc : cls X.P o.op = .a) (hv : ∀ ts, Has X.n ts e → opA X.P ts o.op = some (ob, fv)) (q : ∀ b, X.m0.next ≤ b → Ie X ops ((t, fv b) :: e) ((b, ob) :: h) rest Q) : Ie X ops e h (o :: rest) Q := fun ts m h1 h2 => by
  refine Io.op (k := 0) (m' := m.new ob) (v := fv m.next) (wantE_spec h1 hg) hs ?_ ?_
  · rw [doOp_a hc, hv ts h1]
    rfl
  · rw [hd]
    exact q m.next h2.next _ _ (h1.put ht _) (h2.new ob)

theorem Ie.alloc {el : TypeId} {z : Value} (hd : o.dst = some t) (ht : Nat.blt t X.n = true) (hg : wantE ops e o = some true) (ho : o.op = .alloc el) (hz : zeroT X.P el = some z) (q : ∀ b, X.m0.next ≤ b → Ie X ops ((t, .pointer (some ⟨b, 0, none⟩)) :: e) ((b, .cells (cellsOfV z) el false .plain none) :: h) rest Q) : Ie X ops e h (o :: rest) Q :=
  Ie.made hd ht hg (by rw [ho]; rfl) (by rw [ho]; rfl) (fun ts _ => by rw [ho]; simp only [opA, hz]; rfl) q

theorem Ie.box {el : TypeId} {x : Operand} {y : Value} (hd : o.dst = some t) (ht : Nat.blt t X.n = true) (hg : wantE ops e o = some true) (ho : o.op = .box el x) (hx : evE X.P e x = some y) (q : ∀ b, X.m0.next ≤ b → Ie X ops ((t, .pointer (some ⟨b, 0, none⟩)) :: e) ((b, .cells (cellsOfV y) el false .plain none) :: h) rest Q) : Ie X ops e h (o :: rest) Q :=
  Ie.made hd ht hg (by rw [ho]; rfl) (by rw [ho]; rfl) (fun ts H => by rw [ho]; simp only [opA, evE_ev H hx]; rfl) q

theorem Ie.makeMap {ty : TypeId} (hd : o.dst = some t) (ht : Nat.blt t X.n = true) (hg : wantE ops e o = some true) (ho : o.op = .makeMap ty none) (q : ∀ b, X.m0.next ≤ b → Ie X ops ((t, .map (some b)) :: e) ((b, .map [] 0) :: h) rest Q) : Ie X ops e h (o :: rest) Q :=
  Ie.made (fv := mapTo) hd ht hg (by rw [ho]; rfl) (by rw [ho]; rfl) (fun ts _ => by rw [ho]; rfl) q

/-- 'len' of what is no map. -/
theorem Ie.len {x : Operand} {ty : TypeId} {y : Value} (hd : o.dst = some t) (ht : Nat.blt t X.n = true) (hg : wantE ops e o = some true) (ho : o.op = .call { callee := .builtin .len, args := #[x], argTypes := #[ty] }) (hx : evE X.P e x = some y) (hl : lenA X.P ty y = some (.imm v)) (q : Ie X ops ((t, v) :: e) h rest Q) : Ie X ops e h (o :: rest) Q := by
  refine Ie.val h hd ht hg (by rw [ho]; rfl) (fun ts m h1 h2 => ⟨0, m, ?_, h2⟩) q
  rw [ho, doOp_l rfl]
  have : evs X.P ts [x] = some [y] := by
    unfold evs evs
    rw [evE_ev h1 hx]
    rfl
  have h2 : (#[ty] : Array TypeId)[0]? = some ty := rfl
  simp only [opL, callL, this, h2, hl]
  rfl

/-- A part of the case that a truth value is. -/
theorem Ie.split {c : Bool} (q1 : c = true → Ie X ops e h rest Q) (q2 : c = false → Ie X ops e h rest Q) : Ie X ops e h rest Q := by
  cases c with
  | true => exact q1 rfl
  | false => exact q2 rfl

end
end Go.Ab

/-
  THE ENGINE, 55: more rules for operations: conversions, fields, elements, truth values.
-/
namespace Go.Ab
set_option linter.unusedSectionVars false
variable [Vals]

section
variable {X : Cx} {ops : Array Oper} {e : Env} {h : Hp} {Q : Out → Prop} {o : Oper} {rest : List Oper} {t : Tmp} {v : Value}

theorem Ie.convInt {s d : TypeId} {x : Operand} {k k' : IntKind} {n : Int} (hd : o.dst = some t) (ht : Nat.blt t X.n = true) (hg : wantE ops e o = some true) (ho : o.op = .convert s d x) (hs : X.P.underlying s = some (.int k)) (hd' : X.P.underlying d = some (.int k')) (hx : evE X.P e x = some (.int k n)) (q : Ie X ops ((t, .int k' (wr k' n)) :: e) h rest Q) : Ie X ops e h (o :: rest) Q :=
  Ie.conv hd ht hg ho hx (by unfold cls; simp only [hs, hd']) (by unfold convS convA; simp only [hs, hd']) q

theorem Ie.fieldAddr {s : TypeId} {x : Operand} {i b off k : Nat} (hd : o.dst = some t) (ht : Nat.blt t X.n = true) (hg : wantE ops e o = some true) (ho : o.op = .fieldAddr s x i) (hx : evE X.P e x = some (.pointer (some ⟨b, off, none⟩))) (hf : ∀ b off, fieldAddrA X.P s (.pointer (some ⟨b, off, none⟩)) i = some (.pointer (some ⟨b, off + k, none⟩))) (q : Ie X ops ((t, .pointer (some ⟨b, off + k, none⟩)) :: e) h rest Q) : Ie X ops e h (o :: rest) Q :=
  Ie.p hd ht hg (by rw [ho]; simp only [opE, hx, hf]) q

theorem Ie.indexAddr {ty el : TypeId} {x i : Operand} {b off len cap sz j : Nat} {k : IntKind} (hd : o.dst = some t) (ht : Nat.blt t X.n = true) (hg : wantE ops e o = some true) (ho : o.op = .indexAddr ty x i) (hu : X.P.underlying ty = some (.slice el)) (hs : sizeT X.P el = some sz) (hx : evE X.P e x = some (.slice (some ⟨b, off, none⟩) len cap)) (hi : evE X.P e i = some (.int k (Int.ofNat j))) (hj : j < len) (q : Ie X ops ((t, .pointer (some ⟨b, off + j * sz, none⟩)) :: e) h rest Q) : Ie X ops e h (o :: rest) Q :=
  Ie.p hd ht hg (by
    rw [ho]
    simp only [opE, hx, hi]
    unfold indexAddrA
    simp only [asInt?, hu, hs]
    rw [nblt, decide_eq_true hj]
    rfl) q

theorem indexAddrA_arr {P : Program} {ty el : TypeId} {b off n sz j : Nat} {k : IntKind} (hu : P.underlying ty = some (.array n el)) (hs : sizeT P el = some sz) (hj : j < n) : indexAddrA P ty (.pointer (some ⟨b, off, none⟩)) (.int k (Int.ofNat j)) = some (.pointer (some ⟨b, off + j * sz, none⟩)) := by
  unfold indexAddrA
  simp only [asInt?, hu, hs]
  rw [nblt, decide_eq_true hj]
  rfl

/-- An element of an array in memory. -/
theorem Ie.indexArr {ty el : TypeId} {x i : Operand} {b off n sz j : Nat} {k : IntKind} (hd : o.dst = some t) (ht : Nat.blt t X.n = true) (hg : wantE ops e o = some true) (ho : o.op = .indexAddr ty x i) (hu : X.P.underlying ty = some (.array n el)) (hs : sizeT X.P el = some sz) (hx : evE X.P e x = some (.pointer (some ⟨b, off, none⟩))) (hi : evE X.P e i = some (.int k (Int.ofNat j))) (hj : j < n) (q : Ie X ops ((t, .pointer (some ⟨b, off + j * sz, none⟩)) :: e) h rest Q) : Ie X ops e h (o :: rest) Q :=
  Ie.p hd ht hg (by
    rw [ho]
    simp only [opE, hx, hi]
    exact indexAddrA_arr hu hs hj) q

/-- '==' and '!=' of truth values. -/
theorem Ie.eqBool {ty u : TypeId} {x y : Operand} {a b : Bool} (hd : o.dst = some t) (ht : Nat.blt t X.n = true) (hg : wantE ops e o = some true) (ho : o.op = .binOp .eql ty x y u) (hu : X.P.underlying ty = some .bool) (hx : evE X.P e x = some (.bool a)) (hy : evE X.P e y = some (.bool b)) (q : Ie X ops ((t, .bool (a == b)) :: e) h rest Q) : Ie X ops e h (o :: rest) Q :=
  Ie.p hd ht hg (by
    rw [ho]
    simp only [opE, hx, hy]
    unfold binS binA binEq eqA
    simp only [guardOk, notSym, hu, eqBase, Option.map_some]
    rfl) q

theorem Ie.neqBool {ty u : TypeId} {x y : Operand} {a b : Bool} (hd : o.dst = some t) (ht : Nat.blt t X.n = true) (hg : wantE ops e o = some true) (ho : o.op = .binOp .neq ty x y u) (hu : X.P.underlying ty = some .bool) (hx : evE X.P e x = some (.bool a)) (hy : evE X.P e y = some (.bool b)) (q : Ie X ops ((t, .bool (!(a == b))) :: e) h rest Q) : Ie X ops e h (o :: rest) Q :=
  Ie.p hd ht hg (by
    rw [ho]
    simp only [opE, hx, hy]
    unfold binS binA binEq eqA
    simp only [guardOk, notSym, hu, eqBase, Option.map_some]
    rfl) q

/-- A truth value, case by case. -/
theorem Ie.splitB {c : Bool} (u : Nat) (hl : look e u = some (.bool c)) (q1 : c = true → Ie X ops ((u, .bool true) :: e) h rest Q) (q2 : c = false → Ie X ops ((u, .bool false) :: e) h rest Q) : Ie X ops e h rest Q := fun ts m h1 h2 => by
  cases c with
  | true =>
    refine q1 rfl ts m ⟨h1.few, h1.defs, fun s w hw => ?_⟩ h2
    unfold look at hw
    cases hb : Nat.beq u s with
    | true =>
      rw [hb] at hw
      cases hw
      rw [nbeq, decide_eq_true_eq] at hb
      subst hb
      exact h1.at_ _ _ hl
    | false =>
      rw [hb] at hw
      exact h1.at_ _ _ hw
  | false =>
    refine q2 rfl ts m ⟨h1.few, h1.defs, fun s w hw => ?_⟩ h2
    unfold look at hw
    cases hb : Nat.beq u s with
    | true =>
      rw [hb] at hw
      cases hw
      rw [nbeq, decide_eq_true_eq] at hb
      subst hb
      exact h1.at_ _ _ hl
    | false =>
      rw [hb] at hw
      exact h1.at_ _ _ hw

/-- A temporary's value, told in other words. -/
theorem Ie.as {w : Value} (u : Nat) (w' : Value) (hl : look e u = some w) (hw : w = w') (q : Ie X ops ((u, w') :: e) h rest Q) : Ie X ops e h rest Q := fun ts m h1 h2 => by
  subst hw
  refine q ts m ⟨h1.few, h1.defs, fun s x hx => ?_⟩ h2
  unfold look at hx
  cases hb : Nat.beq u s with
  | true =>
    rw [hb] at hx
    cases hx
    rw [nbeq, decide_eq_true_eq] at hb
    subst hb
    exact h1.at_ _ _ hl
  | false =>
    rw [hb] at hx
    exact h1.at_ _ _ hx

end
end Go.Ab

/-
  THE ENGINE, 56: the rules for operations in a region that draws its order.
-/
namespace Go.Ab
set_option linter.unusedSectionVars false
variable [Vals]

def Do (P : Program) (n : Nat) (ops : Array Oper) (base lo : Nat) (l : List (Oper × Info)) (rs : List (Nat × Nat)) (ws : List (Nat × List Nat)) (as : List (Nat × Nat)) (ts : Tr Value) (m : AW) (Q : Out → Prop) : Prop :=
  ∃ k o, dops P (irun P k) n ops base lo l rs ws as ts m = some o ∧ Q o

/-- 'rI': which operations have read; 'cl': none has written what was there before; 'as': what has been made. -/
def De (X : Cx) (ops : Array Oper) (base : Nat) (rI : List Nat) (cl : Bool) (as : List (Nat × Nat)) (e : Env) (h : Hp) (l : List (Oper × Info)) (Q : Out → Prop) : Prop :=
  ∀ ts m rs ws, Has X.n ts e → Knows X.S X.m0 m h → X.m0.next ≤ base ∧ base ≤ m.next → rs.map Prod.fst = rI → (cl = true → ∀ p ∈ ws, p.2 = []) → Do X.P X.n ops base X.m0.lo l rs ws as ts m Q

def allIn (pre : Nat) : List Nat → Bool
  | [] => true
  | j :: l => pre.testBit j && allIn pre l

theorem readOk_nil (pre b : Nat) : ∀ (ws : List (Nat × List Nat)), (∀ p ∈ ws, p.2 = []) → readOk pre b ws = true
  | [], _ => rfl
  | (h, w) :: ws, hw => by
    have : w = [] := hw (h, w) List.mem_cons_self
    subst this
    unfold readOk
    simp only [notIn, Bool.or_true, cond_true]
    exact readOk_nil pre b ws fun p hp => hw p (List.mem_cons_of_mem _ hp)

theorem writeOk_nil (pre : Nat) : ∀ (rs : List (Nat × Nat)), writeOk pre [] rs = true
  | [] => rfl
  | (i, b) :: rs => by
    unfold writeOk
    simp only [notIn, Bool.or_true, cond_true]
    exact writeOk_nil pre rs

theorem writeOk_all (pre : Nat) (w : List Nat) : ∀ (rs : List (Nat × Nat)), allIn pre (rs.map Prod.fst) = true → writeOk pre w rs = true
  | [], _ => rfl
  | (i, b) :: rs, h => by
    simp only [allIn, List.map_cons, Bool.and_eq_true] at h
    unfold writeOk
    simp only [h.1, Bool.true_or, cond_true]
    exact writeOk_all pre w rs h.2

theorem hideB_all (pre : Nat) : ∀ (as : List (Nat × Nat)) (t : Tr AObj), allIn pre (as.map Prod.fst) = true → hideB pre as t = t
  | [], _, _ => rfl
  | (j, b) :: as, t, h => by
    simp only [allIn, List.map_cons, Bool.and_eq_true] at h
    unfold hideB
    simp only [h.1, cond_true]
    exact hideB_all pre as t h.2
theorem showB_all (pre : Nat) (old : Tr AObj) : ∀ (as : List (Nat × Nat)) (t : Tr AObj), allIn pre (as.map Prod.fst) = true → showB pre old as t = t
  | [], _, _ => rfl
  | (j, b) :: as, t, h => by
    simp only [allIn, List.map_cons, Bool.and_eq_true] at h
    unfold showB
    simp only [h.1, cond_true]
    exact showB_all pre old as t h.2
theorem plainB_all (pre : Nat) (old : Tr AObj) : ∀ (as : List (Nat × Nat)), allIn pre (as.map Prod.fst) = true → plainB pre old as = true
  | [], _ => rfl
  | (j, b) :: as, h => by
    simp only [allIn, List.map_cons, Bool.and_eq_true] at h
    unfold plainB
    simp only [h.1, Bool.true_or, Bool.true_and]
    exact plainB_all pre old as h.2
theorem seenB_all (pre b : Nat) : ∀ (as : List (Nat × Nat)), allIn pre (as.map Prod.fst) = true → seenB pre b as = true
  | [], _ => rfl
  | (j, c) :: as, h => by
    simp only [allIn, List.map_cons, Bool.and_eq_true] at h
    unfold seenB
    simp only [h.1, Bool.true_or, Bool.true_and]
    exact seenB_all pre b as h.2

section
variable {X : Cx} {ops : Array Oper} {base : Nat} {rI : List Nat} {cl : Bool} {as : List (Nat × Nat)} {e : Env} {h : Hp} {Q : Out → Prop} {o : Oper} {i : Info} {rest : List (Oper × Info)} {t : Tmp} {v : Value}

theorem Ce.draw {id : Nat} (inf : List Info) (hi : infos X.P ops.toList = inf) (htm : tmpsOk (ops.toList.zip inf) ops.toList = true) (q : ∀ base, X.m0.next ≤ base → (∀ b o, (b, o) ∈ h → b < base) → De X ops base [] true [] e h (ops.toList.zip inf) Q) : Ce X e h (.region id ops true) Q := fun ts m h1 h2 => by
  obtain ⟨k, o, g1, g2⟩ := q m.next h2.next (fun b o hb => (h2.has b o hb).2.1) ts m [] [] h1 h2 ⟨h2.next, Nat.le_refl _⟩ rfl (fun _ _ hp => by cases hp)
  refine Ru.step (k := k) ?_ g2
  show drawA _ _ _ _ _ _ = _
  unfold drawA
  have hb : (Nat.ble m.lo m.next && tmpsOk (ops.toList.zip (infos X.P ops.toList)) ops.toList) = true := by
    rw [hi, htm, nble, decide_eq_true h2.lole']
    rfl
  rw [hb, hi, h2.lo]
  exact g1

theorem De.nil (q : Ne X e h Q) : De X ops base rI cl as e h [] Q := fun ts m _ _ h1 h2 _ _ _ => ⟨0, _, rfl, q ts m h1 h2⟩

theorem De.off (hd : o.dst = some t) (ht : Nat.blt t X.n = true) (hg : wantE ops e o = some false) (q : De X ops base rI cl as ((t, undef) :: e) h rest Q) : De X ops base rI cl as e h ((o, i) :: rest) Q := fun ts m rs ws h1 h2 h3 h4 h5 => by
  obtain ⟨k, out, g1, g2⟩ := q _ m rs ws (h1.put ht undef) h2 h3 h4 h5
  refine ⟨k, out, ?_, g2⟩
  unfold dops
  rw [wantE_spec h1 hg, hd]
  exact g1

theorem De.off_ (hd : o.dst = none) (hg : wantE ops e o = some false) (q : De X ops base rI cl as e h rest Q) : De X ops base rI cl as e h ((o, i) :: rest) Q := fun ts m rs ws h1 h2 h3 h4 h5 => by
  obtain ⟨k, out, g1, g2⟩ := q _ m rs ws h1 h2 h3 h4 h5
  refine ⟨k, out, ?_, g2⟩
  unfold dops
  rw [wantE_spec h1 hg, hd]
  exact g1

/-- What only reckons. -/
theorem De.pure (hi : i.cls = .p) (hd : o.dst = some t) (ht : Nat.blt t X.n = true) (hg : wantE ops e o = some true) (hv : ∀ ts, Has X.n ts e → cls X.P o.op = .p ∧ opP X.P ts o.op = some v) (q : De X ops base rI cl as ((t, v) :: e) h rest Q) : De X ops base rI cl as e h ((o, i) :: rest) Q := fun ts m rs ws h1 h2 h3 h4 h5 => by
  obtain ⟨k, out, g1, g2⟩ := q _ m rs ws (h1.put ht v) h2 h3 h4 h5
  obtain ⟨c1, c2⟩ := hv ts h1
  refine ⟨k, out, ?_, g2⟩
  unfold dops
  rw [wantE_spec h1 hg]
  simp only [cond_true, hi, doOp_p c1, doP, c2, hd]
  exact g1

theorem De.p (hi : i.cls = .p) (hd : o.dst = some t) (ht : Nat.blt t X.n = true) (hg : wantE ops e o = some true) (hv : opE X.P e o.op = some v) (q : De X ops base rI cl as ((t, v) :: e) h rest Q) : De X ops base rI cl as e h ((o, i) :: rest) Q :=
  De.pure hi hd ht hg (fun _ H => ⟨(opE_spec H hv).1, (opE_spec H hv).2.2⟩) q

theorem De.conv {s d : TypeId} {x : Operand} {a : Value} (hi : i.cls = .p) (hd : o.dst = some t) (ht : Nat.blt t X.n = true) (hg : wantE ops e o = some true) (ho : o.op = .convert s d x) (hx : evE X.P e x = some a) (hc : cls X.P (.convert s d x) = .p) (hv : convS X.P s d a = some v) (q : De X ops base rI cl as ((t, v) :: e) h rest Q) : De X ops base rI cl as e h ((o, i) :: rest) Q :=
  De.pure hi hd ht hg (fun ts H => by
    rw [ho]
    exact ⟨hc, by simp only [opP, evE_ev H hx, Option.bind_some, hv]⟩) q

theorem De.convInt {s d : TypeId} {x : Operand} {k k' : IntKind} {n : Int} (hi : i.cls = .p) (hd : o.dst = some t) (ht : Nat.blt t X.n = true) (hg : wantE ops e o = some true) (ho : o.op = .convert s d x) (hs : X.P.underlying s = some (.int k)) (hd' : X.P.underlying d = some (.int k')) (hx : evE X.P e x = some (.int k n)) (q : De X ops base rI cl as ((t, .int k' (wr k' n)) :: e) h rest Q) : De X ops base rI cl as e h ((o, i) :: rest) Q :=
  De.conv hi hd ht hg ho hx (by unfold cls; simp only [hs, hd']) (by unfold convS convA; simp only [hs, hd']) q

theorem De.fieldAddr {s : TypeId} {x : Operand} {j b off k : Nat} (hi : i.cls = .p) (hd : o.dst = some t) (ht : Nat.blt t X.n = true) (hg : wantE ops e o = some true) (ho : o.op = .fieldAddr s x j) (hx : evE X.P e x = some (.pointer (some ⟨b, off, none⟩))) (hf : ∀ b off, fieldAddrA X.P s (.pointer (some ⟨b, off, none⟩)) j = some (.pointer (some ⟨b, off + k, none⟩))) (q : De X ops base rI cl as ((t, .pointer (some ⟨b, off + k, none⟩)) :: e) h rest Q) : De X ops base rI cl as e h ((o, i) :: rest) Q :=
  De.p hi hd ht hg (by rw [ho]; simp only [opE, hx, hf]) q

theorem De.indexAddr {ty el : TypeId} {x y : Operand} {b off len cap sz j : Nat} {k : IntKind} (hi : i.cls = .p) (hd : o.dst = some t) (ht : Nat.blt t X.n = true) (hg : wantE ops e o = some true) (ho : o.op = .indexAddr ty x y) (hu : X.P.underlying ty = some (.slice el)) (hs : sizeT X.P el = some sz) (hx : evE X.P e x = some (.slice (some ⟨b, off, none⟩) len cap)) (hy : evE X.P e y = some (.int k (Int.ofNat j))) (hj : j < len) (q : De X ops base rI cl as ((t, .pointer (some ⟨b, off + j * sz, none⟩)) :: e) h rest Q) : De X ops base rI cl as e h ((o, i) :: rest) Q :=
  De.p hi hd ht hg (by
    rw [ho]
    simp only [opE, hx, hy]
    unfold indexAddrA
    simp only [asInt?, hu, hs]
    rw [nblt, decide_eq_true hj]
    rfl) q

/-- What reads nothing, though it might. -/
theorem De.imm (hi : i.cls = .l) (hd : o.dst = some t) (ht : Nat.blt t X.n = true) (hg : wantE ops e o = some true) (hv : ∀ ts, Has X.n ts e → opL X.P ts o.op = some (.imm v)) (q : De X ops base rI cl as ((t, v) :: e) h rest Q) : De X ops base rI cl as e h ((o, i) :: rest) Q := fun ts m rs ws h1 h2 h3 h4 h5 => by
  obtain ⟨k, out, g1, g2⟩ := q _ m rs ws (h1.put ht v) h2 h3 h4 h5
  refine ⟨k, out, ?_, g2⟩
  unfold dops
  rw [wantE_spec h1 hg]
  simp only [cond_true, hi, hv ts h1, hd]
  exact g1

theorem De.len {x : Operand} {ty : TypeId} {y : Value} (hi : i.cls = .l) (hd : o.dst = some t) (ht : Nat.blt t X.n = true) (hg : wantE ops e o = some true) (ho : o.op = .call { callee := .builtin .len, args := #[x], argTypes := #[ty] }) (hx : evE X.P e x = some y) (hl : lenA X.P ty y = some (.imm v)) (q : De X ops base rI cl as ((t, v) :: e) h rest Q) : De X ops base rI cl as e h ((o, i) :: rest) Q :=
  De.imm hi hd ht hg (fun ts h1 => by
    rw [ho]
    have : evs X.P ts [x] = some [y] := by
      unfold evs evs
      rw [evE_ev h1 hx]
      rfl
    have h2 : (#[ty] : Array TypeId)[0]? = some ty := rfl
    simp only [opL, callL, this, h2, hl]) q

/-- What reads a block that lay there before the region. -/
theorem De.rdOld {b : Nat} {f : AObj → Option Value} {ob : AObj} (hi : i.cls = .l) (hd : o.dst = some t) (ht : Nat.blt t X.n = true) (hg : wantE ops e o = some true) (hv : ∀ ts, Has X.n ts e → opL X.P ts o.op = some (.rd b f)) (hs : Sees X h b ob) (hf : f ob = some v) (hb : b < base) (q : De X ops base (i.i :: rI) true as ((t, v) :: e) h rest Q) (q2 : De X ops base rI true as ((t, v) :: e) h rest Q) : De X ops base rI true as e h ((o, i) :: rest) Q := fun ts m rs ws h1 h2 h3 h4 h5 => by
  have hr : (m.heap.get b).bind f = some v := by rw [hs m h2]; exact hf
  cases hfull : (i.full && seenB i.pre b as) with
  | true =>
    obtain ⟨k, out, g1, g2⟩ := q2 _ m rs ws (h1.put ht v) h2 h3 h4 h5
    refine ⟨k, out, ?_, g2⟩
    unfold dops
    rw [wantE_spec h1 hg]
    simp only [cond_true, hi, hv ts h1, hd, hr, hfull]
    exact g1
  | false =>
    obtain ⟨k, out, g1, g2⟩ := q _ m ((i.i, b) :: rs) ws (h1.put ht v) h2 h3 (by simp [h4]) h5
    refine ⟨k, out, ?_, g2⟩
    unfold dops
    rw [wantE_spec h1 hg]
    have : (Nat.blt b base && readOk i.pre b ws) = true := by
      rw [readOk_nil _ _ _ (h5 rfl), nblt, decide_eq_true hb]
      rfl
    simp only [cond_true, hi, hv ts h1, hd, hr, hfull, cond_false, this]
    exact g1

/-- What reads, and is ordered against everything that may write. -/
theorem De.rdFull {b : Nat} {f : AObj → Option Value} {ob : AObj} (hi : i.cls = .l) (hfl : i.full = true) (hin : allIn i.pre (as.map Prod.fst) = true) (hd : o.dst = some t) (ht : Nat.blt t X.n = true) (hg : wantE ops e o = some true) (hv : ∀ ts, Has X.n ts e → opL X.P ts o.op = some (.rd b f)) (hs : Sees X h b ob) (hf : f ob = some v) (q : De X ops base rI cl as ((t, v) :: e) h rest Q) : De X ops base rI cl as e h ((o, i) :: rest) Q := fun ts m rs ws h1 h2 h3 h4 h5 => by
  have hr : (m.heap.get b).bind f = some v := by rw [hs m h2]; exact hf
  obtain ⟨k, out, g1, g2⟩ := q _ m rs ws (h1.put ht v) h2 h3 h4 h5
  refine ⟨k, out, ?_, g2⟩
  unfold dops
  rw [wantE_spec h1 hg]
  have : (i.full && seenB i.pre b as) = true := by rw [hfl, seenB_all _ _ _ hin]; rfl
  simp only [cond_true, hi, hv ts h1, hd, hr, this]
  exact g1

theorem loadA_false {P : Program} {ty : TypeId} {b off : Nat} (hty : aggT P ty = some false) : loadA P ty (.pointer (some ⟨b, off, none⟩)) = some (.rd b fun o => match o with | .cells cs _ _ _ _ => cs[off]? | _ => none) := by
  unfold loadA
  simp only [hty]
  rfl
theorem loadA_true {P : Program} {ty : TypeId} {b off n : Nat} (hty : aggT P ty = some true) (hsz : sizeT P ty = some n) : loadA P ty (.pointer (some ⟨b, off, none⟩)) = some (.rd b fun o => (rdCells o off n).map fun cs => .agg ⟨cs⟩) := by
  unfold loadA
  simp only [hty, hsz]
theorem rdCells_take {cs vs : List Value} {el : TypeId} {g : Bool} {md : CMode} {mate : Option Nat} {off n : Nat} (hl : off + n ≤ cs.length) (hc : (cs.drop off).take n = vs) : rdCells (.cells cs el g md mate) off n = some vs := by
  unfold rdCells
  simp only [nble, hl, decide_true, cond_true, hc]

theorem De.load {ty : TypeId} {a : Operand} {b off : Nat} {cs : List Value} {el : TypeId} {g : Bool} {md : CMode} {mate : Option Nat} (hi : i.cls = .l) (hfl : i.full = true) (hin : allIn i.pre (as.map Prod.fst) = true) (hd : o.dst = some t) (ht : Nat.blt t X.n = true) (hg : wantE ops e o = some true) (ho : o.op = .load ty a) (ha : evE X.P e a = some (.pointer (some ⟨b, off, none⟩))) (hty : aggT X.P ty = some false) (hs : Sees X h b (.cells cs el g md mate)) (hc : cs[off]? = some v) (q : De X ops base rI cl as ((t, v) :: e) h rest Q) : De X ops base rI cl as e h ((o, i) :: rest) Q :=
  De.rdFull hi hfl hin hd ht hg (fun ts H => by rw [ho]; simp only [opL, evE_ev H ha, Option.bind_some]; exact loadA_false hty) hs hc q

theorem De.loadOld {ty : TypeId} {a : Operand} {b off : Nat} {cs : List Value} {el : TypeId} {g : Bool} {md : CMode} {mate : Option Nat} (hi : i.cls = .l) (hd : o.dst = some t) (ht : Nat.blt t X.n = true) (hg : wantE ops e o = some true) (ho : o.op = .load ty a) (ha : evE X.P e a = some (.pointer (some ⟨b, off, none⟩))) (hty : aggT X.P ty = some false) (hs : Sees X h b (.cells cs el g md mate)) (hc : cs[off]? = some v) (hb : b < base) (q : ∀ r, De X ops base r true as ((t, v) :: e) h rest Q) : De X ops base rI true as e h ((o, i) :: rest) Q :=
  De.rdOld hi hd ht hg (fun ts H => by rw [ho]; simp only [opL, evE_ev H ha, Option.bind_some]; exact loadA_false hty) hs hc hb (q _) (q _)

theorem De.loadAgg {ty : TypeId} {a : Operand} {b off n : Nat} {cs vs : List Value} {el : TypeId} {g : Bool} {md : CMode} {mate : Option Nat} (hi : i.cls = .l) (hfl : i.full = true) (hin : allIn i.pre (as.map Prod.fst) = true) (hd : o.dst = some t) (ht : Nat.blt t X.n = true) (hg : wantE ops e o = some true) (ho : o.op = .load ty a) (ha : evE X.P e a = some (.pointer (some ⟨b, off, none⟩))) (hty : aggT X.P ty = some true) (hsz : sizeT X.P ty = some n) (hs : Sees X h b (.cells cs el g md mate)) (hl : off + n ≤ cs.length) (hc : (cs.drop off).take n = vs) (q : De X ops base rI cl as ((t, .agg ⟨vs⟩) :: e) h rest Q) : De X ops base rI cl as e h ((o, i) :: rest) Q :=
  De.rdFull hi hfl hin hd ht hg (fun ts H => by rw [ho]; simp only [opL, evE_ev H ha, Option.bind_some]; exact loadA_true hty hsz) hs (by rw [rdCells_take hl hc]; rfl) q

theorem De.loadAggOld {ty : TypeId} {a : Operand} {b off n : Nat} {cs vs : List Value} {el : TypeId} {g : Bool} {md : CMode} {mate : Option Nat} (hi : i.cls = .l) (hd : o.dst = some t) (ht : Nat.blt t X.n = true) (hg : wantE ops e o = some true) (ho : o.op = .load ty a) (ha : evE X.P e a = some (.pointer (some ⟨b, off, none⟩))) (hty : aggT X.P ty = some true) (hsz : sizeT X.P ty = some n) (hs : Sees X h b (.cells cs el g md mate)) (hl : off + n ≤ cs.length) (hc : (cs.drop off).take n = vs) (hb : b < base) (q : ∀ r, De X ops base r true as ((t, .agg ⟨vs⟩) :: e) h rest Q) : De X ops base rI true as e h ((o, i) :: rest) Q :=
  De.rdOld hi hd ht hg (fun ts H => by rw [ho]; simp only [opL, evE_ev H ha, Option.bind_some]; exact loadA_true hty hsz) hs (by rw [rdCells_take hl hc]; rfl) hb (q _) (q _)

/-- What makes a block. -/
theorem De.made {ob : AObj} {fv : Nat → Value} (hi : i.cls = .a) (hd : o.dst = some t) (ht : Nat.blt t X.n = true) (hg : wantE ops e o = some true) (hc : cls X.P o.op = .a) (hv : ∀ ts, Has X.n ts e → opA X.P ts o.op = some (ob, fv)) (q : ∀ b, base ≤ b → X.m0.next ≤ b → De X ops base rI cl ((i.i, b) :: as) ((t, fv b) :: e) ((b, ob) :: h) rest Q) : De X ops base rI cl as e h ((o, i) :: rest) Q := fun ts m rs ws h1 h2 h3 h4 h5 => by
  obtain ⟨k, out, g1, g2⟩ := q m.next h3.2 h2.next _ (m.new ob) rs ws (h1.put ht (fv m.next)) (h2.new ob) ⟨h3.1, by simp only [AW.new]; have := h3.2; omega⟩ h4 h5
  refine ⟨k, out, ?_, g2⟩
  unfold dops
  rw [wantE_spec h1 hg]
  have : doOp X.P (irun X.P k) ts o.op m = some (.val (fv m.next) (m.new ob)) := by rw [doOp_a hc, hv ts h1]; rfl
  simp only [cond_true, hi, this, hd]
  exact g1

theorem De.alloc {el : TypeId} {z : Value} (hi : i.cls = .a) (hd : o.dst = some t) (ht : Nat.blt t X.n = true) (hg : wantE ops e o = some true) (ho : o.op = .alloc el) (hz : zeroT X.P el = some z) (q : ∀ b, base ≤ b → X.m0.next ≤ b → De X ops base rI cl ((i.i, b) :: as) ((t, .pointer (some ⟨b, 0, none⟩)) :: e) ((b, .cells (cellsOfV z) el false .plain none) :: h) rest Q) : De X ops base rI cl as e h ((o, i) :: rest) Q :=
  De.made hi hd ht hg (by rw [ho]; rfl) (fun ts _ => by rw [ho]; simp only [opA, hz]; rfl) q

theorem De.box {el : TypeId} {x : Operand} {y : Value} (hi : i.cls = .a) (hd : o.dst = some t) (ht : Nat.blt t X.n = true) (hg : wantE ops e o = some true) (ho : o.op = .box el x) (hx : evE X.P e x = some y) (q : ∀ b, base ≤ b → X.m0.next ≤ b → De X ops base rI cl ((i.i, b) :: as) ((t, .pointer (some ⟨b, 0, none⟩)) :: e) ((b, .cells (cellsOfV y) el false .plain none) :: h) rest Q) : De X ops base rI cl as e h ((o, i) :: rest) Q :=
  De.made hi hd ht hg (by rw [ho]; rfl) (fun ts H => by rw [ho]; simp only [opA, evE_ev H hx]; rfl) q

/-- A call that waits for all that has been made, and leaves what was there as it was. -/
theorem De.calln {α : Type} {fo : Operand} {ag : Array Operand} {ats : Array TypeId} {vs first cap : List Value} {g : FuncId} (A : α → Prop) (V : α → Value) (N : α → Hp) (hi : i.cls = .h) (hok : i.hok = true) (hin : allIn i.pre (as.map Prod.fst) = true) (hd : o.dst = some t) (ht : Nat.blt t X.n = true) (hg : wantE ops e o = some true) (ho : o.op = .call { callee := .value fo, args := ag, argTypes := ats }) (ha : evsE X.P e ag.toList = some vs) (hf : evE X.P e fo = some (.func (.func g) ⟨first⟩ ⟨cap⟩))
    (hc : ∀ m, KR X.S X.m0 m h → Fc X.P g (first ++ vs ++ cap) m fun v m' => ∃ x, A x ∧ v = V x ∧ Ext m m' ∧ News m m' (N x)) (q : ∀ x, A x → De X ops base rI cl as ((t, V x) :: e) (N x ++ h) rest Q) : De X ops base rI cl as e h ((o, i) :: rest) Q := fun ts m rs ws h1 h2 h3 h4 h5 => by
  have hkr : KR X.S X.m0 ⟨m.heap, m.next, base, []⟩ h := ⟨h3.2, h2.next, h2.keep, fun b o hb => ⟨(h2.has b o hb).1, (h2.has b o hb).2.1⟩⟩
  obtain ⟨k, v, m', g1, x, hA, rfl, hx, hn⟩ := hc _ hkr
  have hlog : m'.log = [] := hx.log
  have hext : Ext m ⟨m'.heap, m'.next, X.m0.lo, m.log⟩ := ⟨hx.next, h2.lo.symm, rfl, hx.keep⟩
  have hnew : News m ⟨m'.heap, m'.next, X.m0.lo, m.log⟩ (N x) := ⟨hn.has, hn.apart⟩
  obtain ⟨j, out, g2, g3⟩ := q x hA _ ⟨m'.heap, m'.next, X.m0.lo, m.log⟩ rs ((i.i, []) :: ws) (h1.put ht (V x)) (h2.of_news hext hnew) ⟨h3.1, Nat.le_trans h3.2 hx.next⟩ h4 (fun hcl p hp => by
    rcases List.mem_cons.1 hp with rfl | hp
    · rfl
    · exact h5 hcl p hp)
  refine ⟨k + j, out, ?_, g3⟩
  unfold dops
  rw [wantE_spec h1 hg]
  have e1 : (i.hok && plainB i.pre m.heap as) = true := by rw [hok, plainB_all _ _ _ hin]; rfl
  have e2 : doOp X.P (irun X.P (k + j)) ts o.op ⟨hideB i.pre as m.heap, m.next, base, []⟩ = some (.val (V x) m') := by
    rw [hideB_all _ _ _ hin, ho, doOp_h rfl]
    simp only [opH, callH, evsE_evs h1 ha, evE_ev h1 hf, callV, callA, irun_le (Nat.le_add_right k j) _ _ _ _ g1]
  simp only [cond_true, hi, e1, e2, hlog, writeOk_nil, showB_all _ _ _ _ hin, below, List.nil_append, hd]
  exact dops_le (irun_le (Nat.le_add_left j k)) g2

theorem De.call {fo : Operand} {ag : Array Operand} {ats : Array TypeId} {vs first cap : List Value} {g : FuncId} (v : Value) (hi : i.cls = .h) (hok : i.hok = true) (hin : allIn i.pre (as.map Prod.fst) = true) (hd : o.dst = some t) (ht : Nat.blt t X.n = true) (hg : wantE ops e o = some true) (ho : o.op = .call { callee := .value fo, args := ag, argTypes := ats }) (ha : evsE X.P e ag.toList = some vs) (hf : evE X.P e fo = some (.func (.func g) ⟨first⟩ ⟨cap⟩))
    (hc : ∀ m, KR X.S X.m0 m h → Fc X.P g (first ++ vs ++ cap) m fun w m' => w = v ∧ Ext m m') (q : De X ops base rI cl as ((t, v) :: e) h rest Q) : De X ops base rI cl as e h ((o, i) :: rest) Q :=
  De.calln (α := Unit) (fun _ => True) (fun _ => v) (fun _ => []) hi hok hin hd ht hg ho ha hf (fun m hm => (hc m hm).mono fun _ _ ⟨e1, e2⟩ => ⟨(), trivial, e1, e2, News.nil _ _⟩) fun _ _ => q

end
end Go.Ab

/-
  THE ENGINE, 57: more rules for operations in a region that draws its order.
-/
namespace Go.Ab
set_option linter.unusedSectionVars false
variable [Vals]

section
variable {X : Cx} {ops : Array Oper} {base : Nat} {rI : List Nat} {cl : Bool} {mk : List (Nat × Nat)} {e : Env} {h : Hp} {Q : Out → Prop} {o : Oper} {i : Info} {rest : List (Oper × Info)} {t : Tmp} {v : Value}

theorem has_as {n : Nat} {ts : Tr Value} {w w' : Value} (u : Nat) (hl : look e u = some w) (hw : w = w') (h1 : Has n ts e) : Has n ts ((u, w') :: e) := by
  subst hw
  refine ⟨h1.few, h1.defs, fun s x hx => ?_⟩
  unfold look at hx
  cases hb : Nat.beq u s with
  | true =>
    rw [hb] at hx
    cases hx
    rw [nbeq, decide_eq_true_eq] at hb
    subst hb
    exact h1.at_ _ _ hl
  | false =>
    rw [hb] at hx
    exact h1.at_ _ _ hx

theorem De.as {w : Value} (u : Nat) (w' : Value) (hl : look e u = some w) (hw : w = w') (q : De X ops base rI cl mk ((u, w') :: e) h rest Q) : De X ops base rI cl mk e h rest Q := fun ts m rs ws h1 h2 h3 h4 h5 => q ts m rs ws (has_as u hl hw h1) h2 h3 h4 h5

theorem De.splitB {c : Bool} (u : Nat) (hl : look e u = some (.bool c)) (q1 : c = true → De X ops base rI cl mk ((u, .bool true) :: e) h rest Q) (q2 : c = false → De X ops base rI cl mk ((u, .bool false) :: e) h rest Q) : De X ops base rI cl mk e h rest Q := by
  cases c with
  | true => exact De.as u _ hl rfl (q1 rfl)
  | false => exact De.as u _ hl rfl (q2 rfl)

theorem De.sub (e' : Env) (h' : Hp) (he : Sub e' e) (hh : h'.Sublist h) (q : De X ops base rI cl mk e' h' rest Q) : De X ops base rI cl mk e h rest Q := fun ts m rs ws h1 h2 h3 h4 h5 => q ts m rs ws (h1.sub he) (h2.sub hh) h3 h4 h5

theorem De.eqBool {ty u : TypeId} {x y : Operand} {a b : Bool} (hi : i.cls = .p) (hd : o.dst = some t) (ht : Nat.blt t X.n = true) (hg : wantE ops e o = some true) (ho : o.op = .binOp .eql ty x y u) (hu : X.P.underlying ty = some .bool) (hx : evE X.P e x = some (.bool a)) (hy : evE X.P e y = some (.bool b)) (q : De X ops base rI cl mk ((t, .bool (a == b)) :: e) h rest Q) : De X ops base rI cl mk e h ((o, i) :: rest) Q :=
  De.p hi hd ht hg (by
    rw [ho]
    simp only [opE, hx, hy]
    unfold binS binA binEq eqA
    simp only [guardOk, notSym, hu, eqBase, Option.map_some]
    rfl) q

theorem De.neqBool {ty u : TypeId} {x y : Operand} {a b : Bool} (hi : i.cls = .p) (hd : o.dst = some t) (ht : Nat.blt t X.n = true) (hg : wantE ops e o = some true) (ho : o.op = .binOp .neq ty x y u) (hu : X.P.underlying ty = some .bool) (hx : evE X.P e x = some (.bool a)) (hy : evE X.P e y = some (.bool b)) (q : De X ops base rI cl mk ((t, .bool (!(a == b))) :: e) h rest Q) : De X ops base rI cl mk e h ((o, i) :: rest) Q :=
  De.p hi hd ht hg (by
    rw [ho]
    simp only [opE, hx, hy]
    unfold binS binA binEq eqA
    simp only [guardOk, notSym, hu, eqBase, Option.map_some]
    rfl) q

theorem De.bin {op : BinOp} {ty u : TypeId} {x y : Operand} {a b : Value} (hi : i.cls = .p) (hd : o.dst = some t) (ht : Nat.blt t X.n = true) (hg : wantE ops e o = some true) (ho : o.op = .binOp op ty x y u) (hx : evE X.P e x = some a) (hy : evE X.P e y = some b) (hv : binS X.P op ty x y a b = some v) (q : De X ops base rI cl mk ((t, v) :: e) h rest Q) : De X ops base rI cl mk e h ((o, i) :: rest) Q :=
  De.p hi hd ht hg (by rw [ho]; simp only [opE, hx, hy]; exact hv) q

theorem Ie.bin {op : BinOp} {ty u : TypeId} {x y : Operand} {a b : Value} {rest : List Oper} (hd : o.dst = some t) (ht : Nat.blt t X.n = true) (hg : wantE ops e o = some true) (ho : o.op = .binOp op ty x y u) (hx : evE X.P e x = some a) (hy : evE X.P e y = some b) (hv : binS X.P op ty x y a b = some v) (q : Ie X ops ((t, v) :: e) h rest Q) : Ie X ops e h (o :: rest) Q :=
  Ie.p hd ht hg (by rw [ho]; simp only [opE, hx, hy]; exact hv) q

theorem De.indexArr {ty el : TypeId} {x y : Operand} {b off n sz j : Nat} {k : IntKind} (hi : i.cls = .p) (hd : o.dst = some t) (ht : Nat.blt t X.n = true) (hg : wantE ops e o = some true) (ho : o.op = .indexAddr ty x y) (hu : X.P.underlying ty = some (.array n el)) (hs : sizeT X.P el = some sz) (hx : evE X.P e x = some (.pointer (some ⟨b, off, none⟩))) (hy : evE X.P e y = some (.int k (Int.ofNat j))) (hj : j < n) (q : De X ops base rI cl mk ((t, .pointer (some ⟨b, off + j * sz, none⟩)) :: e) h rest Q) : De X ops base rI cl mk e h ((o, i) :: rest) Q :=
  De.p hi hd ht hg (by
    rw [ho]
    simp only [opE, hx, hy]
    exact indexAddrA_arr hu hs hj) q

theorem binS_eql {P : Program} {ty : TypeId} {x y : Operand} {k : IntKind} {a b : Int} (h : a = b) : binS P .eql ty x y (.int k a) (.int k b) = some (.bool true) := by
  have : binS P .eql ty x y (.int k a) (.int k b) = some (.bool (eqI a b)) := by
    unfold binS
    have h : binA P .eql ty x y (.int k a) (.int k b) = some (.bool (eqI a b)) := by
      show (bif decide (k = k) then arithI .eql k a b else none) = _
      simp only [decide_true, cond_true, arithI, cmpInt, Option.map_some]
    rw [h]
  rw [this, eqI_eq, decide_eq_true h]
theorem binS_neql {P : Program} {ty : TypeId} {x y : Operand} {k : IntKind} {a b : Int} (h : a ≠ b) : binS P .eql ty x y (.int k a) (.int k b) = some (.bool false) := by
  have : binS P .eql ty x y (.int k a) (.int k b) = some (.bool (eqI a b)) := by
    unfold binS
    have h : binA P .eql ty x y (.int k a) (.int k b) = some (.bool (eqI a b)) := by
      show (bif decide (k = k) then arithI .eql k a b else none) = _
      simp only [decide_true, cond_true, arithI, cmpInt, Option.map_some]
    rw [h]
  rw [this, eqI_eq, decide_eq_false h]
theorem binS_neq {P : Program} {ty : TypeId} {x y : Operand} {k : IntKind} {a b : Int} (h : a = b) : binS P .neq ty x y (.int k a) (.int k b) = some (.bool false) := by
  have : binS P .neq ty x y (.int k a) (.int k b) = some (.bool (!eqI a b)) := by
    unfold binS
    have h : binA P .neq ty x y (.int k a) (.int k b) = some (.bool (!eqI a b)) := by
      show (bif decide (k = k) then arithI .neq k a b else none) = _
      simp only [decide_true, cond_true, arithI, cmpInt, Option.map_some]
    rw [h]
  rw [this, eqI_eq, decide_eq_true h]
  rfl

theorem binS_nneq {P : Program} {ty : TypeId} {x y : Operand} {k : IntKind} {a b : Int} (h : a ≠ b) : binS P .neq ty x y (.int k a) (.int k b) = some (.bool true) := by
  have : binS P .neq ty x y (.int k a) (.int k b) = some (.bool (!eqI a b)) := by
    unfold binS
    have h : binA P .neq ty x y (.int k a) (.int k b) = some (.bool (!eqI a b)) := by
      show (bif decide (k = k) then arithI .neq k a b else none) = _
      simp only [decide_true, cond_true, arithI, cmpInt, Option.map_some]
    rw [h]
  rw [this, eqI_eq, decide_eq_false h]
  rfl

theorem binS_geq {P : Program} {ty : TypeId} {x y : Operand} {k : IntKind} {a b : Int} (h : b ≤ a) : binS P .geq ty x y (.int k a) (.int k b) = some (.bool true) := by
  have : binS P .geq ty x y (.int k a) (.int k b) = some (.bool (!ltI a b)) := by
    unfold binS
    have h : binA P .geq ty x y (.int k a) (.int k b) = some (.bool (!ltI a b)) := by
      show (bif decide (k = k) then arithI .geq k a b else none) = _
      simp only [decide_true, cond_true, arithI, cmpInt, Option.map_some]
    rw [h]
  rw [this, ltI_eq, decide_eq_false (by omega)]
  rfl
theorem binS_ngeq {P : Program} {ty : TypeId} {x y : Operand} {k : IntKind} {a b : Int} (h : a < b) : binS P .geq ty x y (.int k a) (.int k b) = some (.bool false) := by
  have : binS P .geq ty x y (.int k a) (.int k b) = some (.bool (!ltI a b)) := by
    unfold binS
    have h : binA P .geq ty x y (.int k a) (.int k b) = some (.bool (!ltI a b)) := by
      show (bif decide (k = k) then arithI .geq k a b else none) = _
      simp only [decide_true, cond_true, arithI, cmpInt, Option.map_some]
    rw [h]
  rw [this, ltI_eq, decide_eq_true h]
  rfl
theorem binS_leq {P : Program} {ty : TypeId} {x y : Operand} {k : IntKind} {a b : Int} (h : a ≤ b) : binS P .leq ty x y (.int k a) (.int k b) = some (.bool true) := by
  have : binS P .leq ty x y (.int k a) (.int k b) = some (.bool (!ltI b a)) := by
    unfold binS
    have h : binA P .leq ty x y (.int k a) (.int k b) = some (.bool (!ltI b a)) := by
      show (bif decide (k = k) then arithI .leq k a b else none) = _
      simp only [decide_true, cond_true, arithI, cmpInt, Option.map_some]
    rw [h]
  rw [this, ltI_eq, decide_eq_false (by omega)]
  rfl
theorem binS_nleq {P : Program} {ty : TypeId} {x y : Operand} {k : IntKind} {a b : Int} (h : b < a) : binS P .leq ty x y (.int k a) (.int k b) = some (.bool false) := by
  have : binS P .leq ty x y (.int k a) (.int k b) = some (.bool (!ltI b a)) := by
    unfold binS
    have h : binA P .leq ty x y (.int k a) (.int k b) = some (.bool (!ltI b a)) := by
      show (bif decide (k = k) then arithI .leq k a b else none) = _
      simp only [decide_true, cond_true, arithI, cmpInt, Option.map_some]
    rw [h]
  rw [this, ltI_eq, decide_eq_true h]
  rfl

theorem binS_quo {P : Program} {ty : TypeId} {x y : Operand} {k : IntKind} {a b : Int} (hb : b ≠ 0) : binS P .quo ty x y (.int k a) (.int k b) = some (.int k (wr k (a.tdiv b))) := by
  have h : binA P .quo ty x y (.int k a) (.int k b) = some (.int k (wr k (a.tdiv b))) := by
    show (bif decide (k = k) then arithI .quo k a b else none) = _
    simp only [decide_true, cond_true, arithI, eqI_eq, hb, decide_false, cond_false]
  unfold binS
  rw [h]

theorem binS_rem {P : Program} {ty : TypeId} {x y : Operand} {k : IntKind} {a b : Int} (hb : b ≠ 0) : binS P .rem ty x y (.int k a) (.int k b) = some (.int k (a.tmod b)) := by
  have h : binA P .rem ty x y (.int k a) (.int k b) = some (.int k (a.tmod b)) := by
    show (bif decide (k = k) then arithI .rem k a b else none) = _
    simp only [decide_true, cond_true, arithI, eqI_eq, hb, decide_false, cond_false]
  unfold binS
  rw [h]

theorem binS_shl {P : Program} {ty : TypeId} {x y : Operand} {k k' : IntKind} {a : Int} {j : Nat} (hj : j ≤ k.bits) : binS P .shl ty x y (.int k a) (.int k' (Int.ofNat j)) = some (.int k (wr k (a * 2 ^ j))) := by
  have h : binA P .shl ty x y (.int k a) (.int k' (Int.ofNat j)) = some (.int k (wr k (a * 2 ^ j))) := by
    show (shiftA .shl k a (Int.ofNat j)).map (Value.int k) = _
    unfold shiftA
    simp only [nble, hj, decide_true, cond_true, Option.map_some]
  unfold binS
  rw [h]

theorem binS_shr {P : Program} {ty : TypeId} {x y : Operand} {k k' : IntKind} {a : Int} {j : Nat} (hj : j ≤ k.bits) : binS P .shr ty x y (.int k a) (.int k' (Int.ofNat j)) = some (.int k (a.fdiv (2 ^ j))) := by
  have h : binA P .shr ty x y (.int k a) (.int k' (Int.ofNat j)) = some (.int k (a.fdiv (2 ^ j))) := by
    show (shiftA .shr k a (Int.ofNat j)).map (Value.int k) = _
    unfold shiftA
    simp only [nble, hj, decide_true, cond_true, Option.map_some]
  unfold binS
  rw [h]

/-- A store that waits for all that has been read and made. -/
theorem De.store {h' : Hp} {ty : TypeId} {a x : Operand} {b off n : Nat} {y : Value} {cs : List Value} {el : TypeId} {g : Bool} {md : CMode} (hi : i.cls = .h) (hok : i.hok = true) (hin : allIn i.pre (mk.map Prod.fst) = true) (hri : allIn i.pre rI = true) (hd : o.dst = none) (hg : wantE ops e o = some true) (ho : o.op = .store ty a x) (ha : evE X.P e a = some (.pointer (some ⟨b, off, none⟩))) (hx : evE X.P e x = some y) (hsz : sizeT X.P ty = some (n + 1)) (hl : (cellsOfV y).length = n + 1) (hu : Upd h b (.cells cs el g md none) (.cells (putCells cs off (cellsOfV y)) el g md none) h') (hw : (md.writes && Nat.ble (off + (cellsOfV y).length) cs.length && flats (cellsOfV y)) = true) (q : De X ops base rI false mk e h' rest Q) : De X ops base rI cl mk e h ((o, i) :: rest) Q := fun ts m rs ws h1 h2 h3 h4 h5 => by
  have hn : m.next = (m.set b (some (.cells (putCells cs off (cellsOfV y)) el g md none))).next := rfl
  obtain ⟨k, out, g1, g2⟩ := q ts (m.set b (some (.cells (putCells cs off (cellsOfV y)) el g md none))) rs ((i.i, bif Nat.blt b base then [b] else []) :: ws) h1 (h2.set hu) h3 h4 (fun hf => by cases hf)
  refine ⟨k, out, ?_, g2⟩
  have hb : m.heap.get b = some (.cells cs el g md none) := (h2.has _ _ hu.spec.1).1
  have e2 : doOp X.P (irun X.P k) ts o.op ⟨hideB i.pre mk m.heap, m.next, base, []⟩ = some (.val undef (AW.set ⟨m.heap, m.next, base, []⟩ b (some (.cells (putCells cs off (cellsOfV y)) el g md none)))) := by
    rw [hideB_all _ _ _ hin, ho, doOp_h rfl]
    have h4 : storeA ⟨m.heap, m.next, base, []⟩ b off (cellsOfV y) = some (AW.set ⟨m.heap, m.next, base, []⟩ b (some (.cells (putCells cs off (cellsOfV y)) el g md none))) := by
      unfold storeA
      cases hc : cellsOfV y with
      | nil => rw [hc] at hl; simp at hl
      | cons c r =>
        rw [hc] at hw
        simp only [hb, hw, kill, cond_true]
    have h5 : Nat.beq (cellsOfV y).length (n + 1) = true := by rw [nbeq, hl]; simp
    simp only [opH, evE_ev h1 ha, evE_ev h1 hx, storeV, hsz, h5, cond_true, h4, valM]
  have e1 : (i.hok && plainB i.pre m.heap mk) = true := by rw [hok, plainB_all _ _ _ hin]; rfl
  have e3 : ∀ w, writeOk i.pre w rs = true := fun w => writeOk_all _ _ _ (by rw [h4]; exact hri)
  unfold dops
  rw [wantE_spec h1 hg]
  simp only [cond_true, hi, e1, e2, e3, showB_all _ _ _ _ hin, hd]
  have hlog : below X.m0.lo (AW.set ⟨m.heap, m.next, base, []⟩ b (some (.cells (putCells cs off (cellsOfV y)) el g md none))).log ++ m.log = (m.set b (some (.cells (putCells cs off (cellsOfV y)) el g md none))).log := by
    simp only [AW.set, h2.lo]
    cases hbb : Nat.blt b base with
    | true =>
      simp only [cond_true, below]
      cases Nat.blt b X.m0.lo <;> rfl
    | false =>
      simp only [cond_false, below, List.nil_append]
      have : Nat.blt b X.m0.lo = false := by
        rw [nblt, decide_eq_false_iff_not] at hbb ⊢
        have := h2.lole
        have := h3.1
        omega
      rw [this]
      rfl
  rw [hlog]
  have hput : put X.n ts none undef = ts := rfl
  have hheap : (⟨(AW.set ⟨m.heap, m.next, base, []⟩ b (some (.cells (putCells cs off (cellsOfV y)) el g md none))).heap, (AW.set ⟨m.heap, m.next, base, []⟩ b (some (.cells (putCells cs off (cellsOfV y)) el g md none))).next, X.m0.lo, (m.set b (some (.cells (putCells cs off (cellsOfV y)) el g md none))).log⟩ : AW) = m.set b (some (.cells (putCells cs off (cellsOfV y)) el g md none)) := by
    simp only [AW.set, h2.lo]
  rw [hheap, hput]
  exact g1

end
end Go.Ab

/-
  THE ENGINE, 58: results that lie in cells; functions without a body; new blocks.
-/
namespace Go.Ab
set_option linter.unusedSectionVars false
variable [Vals]

theorem Knows.news {m0 m : AW} {h l : Hp} (k : Knows [] m0 m h) (hl : l.Sublist h) : News m0 m l where
  has := fun b o hb => by
    obtain ⟨h1, h2, h3⟩ := k.has b o (hl.subset hb)
    refine ⟨h1, ?_, h2⟩
    rcases h3 with h3 | h3
    · exact h3
    · cases h3
  apart := k.apart.sublist (hl.map _)

inductive ResH (X : Cx) (e : Env) (h : Hp) : List ResultVar → List Value → Prop where
  | nil : ResH X e h [] []
  | tmp {t : Nat} {v : Value} {rs : List ResultVar} {vs : List Value} (hl : look e t = some v) (r : ResH X e h rs vs) : ResH X e h (.tmp t :: rs) (v :: vs)
  | agg {a t b off n : Nat} {cs ws : List Value} {el : TypeId} {g : Bool} {md : CMode} {mate : Option Nat} {rs : List ResultVar} {vs : List Value} (hl : look e a = some (.pointer (some ⟨b, off, none⟩))) (hty : aggT X.P t = some true) (hsz : sizeT X.P t = some n) (hs : Sees X h b (.cells cs el g md mate)) (hn : off + n ≤ cs.length) (hc : (cs.drop off).take n = ws) (r : ResH X e h rs vs) : ResH X e h (.cell a t :: rs) (.agg ⟨ws⟩ :: vs)
  | cell {a t b off : Nat} {v : Value} {cs : List Value} {el : TypeId} {g : Bool} {md : CMode} {mate : Option Nat} {rs : List ResultVar} {vs : List Value} (hl : look e a = some (.pointer (some ⟨b, off, none⟩))) (hty : aggT X.P t = some false) (hs : Sees X h b (.cells cs el g md mate)) (hc : cs[off]? = some v) (r : ResH X e h rs vs) : ResH X e h (.cell a t :: rs) (v :: vs)

theorem ResH.spec {X : Cx} {e : Env} {h : Hp} {rs : List ResultVar} {vs : List Value} (r : ResH X e h rs vs) {ts : Tr Value} {m : AW} (H : Has X.n ts e) (K : Knows X.S X.m0 m h) : resA.go X.P ts m rs = some vs := by
  have hlt : ∀ {t : Nat}, t < X.n → Nat.blt t dIx = true := fun {t} ht => by
    rw [nblt, decide_eq_true_eq]
    have := H.few
    omega
  induction r with
  | nil => rfl
  | tmp hl r ih =>
    obtain ⟨h1, h2⟩ := H.at_ _ _ hl
    unfold resA.go
    simp only [hlt h1, cond_true, ih, h2]
    rfl
  | agg hl hty hsz hs hn hc r ih =>
    obtain ⟨h1, h2⟩ := H.at_ _ _ hl
    unfold resA.go
    simp only [hlt h1, cond_true, ih, h2, Option.getD_some, loadA_true hty hsz, hs m K, Option.bind_some, rdCells_take hn hc, Option.map_some]
  | cell hl hty hs hc r ih =>
    obtain ⟨h1, h2⟩ := H.at_ _ _ hl
    unfold resA.go
    simp only [hlt h1, cond_true, ih, h2, Option.getD_some, loadA_false hty, hs m K, Option.bind_some, hc, Option.map_some]

section
variable {X : Cx} {e : Env} {h : Hp} {fn : Func} {Q : Value → AW → Prop}

theorem Re.endH {rs : List ResultVar} {vs : List Value} (hr : fn.results.toList = rs) (hv : ResH X e h rs vs) (q : ∀ m, Knows X.S X.m0 m h → Q (tupV vs) m) : Re X e h (End X.P fn Q) := fun ts m h1 h2 =>
  ⟨h1.defs, tupV vs, by unfold resA; rw [hr, hv.spec h1 h2]; unfold tupV; rfl, q m h2⟩
theorem Ne.endH {rs : List ResultVar} {vs : List Value} (hr : fn.results.toList = rs) (hv : ResH X e h rs vs) (q : ∀ m, Knows X.S X.m0 m h → Q (tupV vs) m) : Ne X e h (End X.P fn Q) := fun ts m h1 h2 =>
  ⟨h1.defs, tupV vs, by unfold resA; rw [hr, hv.spec h1 h2]; unfold tupV; rfl, q m h2⟩

end

theorem Fc.extern {P : Program} {f : FuncId} {fn : Func} {args : List Value} {m : AW} {v : Value} (hf : P.funcs[f]? = some fn) (hb : fn.body = none) (he : externA fn args = some v) : Fc P f args m fun w m' => w = v ∧ Ext m m' := by
  refine ⟨1, v, m, ?_, rfl, .refl _⟩
  show stFn P _ f args m = _
  unfold stFn
  simp only [hf, hb, he]

theorem hasL_congr {h h' : Tr AObj} : ∀ {l : List (Nat × Bool × List Value)}, (∀ p ∈ l, h'.get p.1 = h.get p.1) → hasL h' l = hasL h l
  | [], _ => rfl
  | (b, g, vs) :: l, hp => by
    unfold hasL
    have e1 : h'.get b = h.get b := hp (b, g, vs) List.mem_cons_self
    rw [e1, hasL_congr fun p hm => hp p (List.mem_cons_of_mem _ hm)]

/-- The laid blocks lie so at the start. -/
def LaidAt (l : List (Nat × Bool × List Value)) (m : AW) : Prop := hasL m.heap l = true ∧ ∀ p ∈ l, p.1 < m.next

theorem LaidAt.kr {l : List (Nat × Bool × List Value)} {m0 m : AW} {h : Hp} (x : LaidAt l m0) (k : KR [] m0 m h) : LaidAt l m :=
  ⟨(hasL_congr fun p hp => k.keep p.1 (x.2 p hp) (by simp)).trans x.1, fun p hp => Nat.lt_of_lt_of_le (x.2 p hp) k.next⟩

/-- A call that is known beforehand, in a memory in which the laid blocks lie. -/
theorem Fc.said {P : Program} {f : FuncId} {fn : Func} {args : List Value} {m : AW} {v : Value} (hf : P.funcs[f]? = some fn) (hb : fn.body.isSome = true) (hv : Vals.call f args = some v) (hs : (scals args && scalT v) = true) (hg : Nat.ble P.globals.size laidEnd = true) (hl : LaidAt Vals.laid m) : Fc P f args m fun w m' => w = v ∧ Ext m m' :=
  (Fc.known hf hb hv hs (by rw [hg, hl.1]; rfl)).mono fun _ _ ⟨e1, e2⟩ => ⟨e1, by rw [e2]; exact .refl _⟩

/-- A truth value, in a world with laid blocks, of which the run is told by the rules. -/
theorem calls_fc {P : Program} [FactsOk P] (hP : PlainNames P) (hmx : P.follows .mixedOrders = true) {f : FuncId} {args args' : List Value} {l : List (Nat × Bool × List Value)} {nx lo : Nat} {b : Bool} (h : ∀ tt, Fc P f args ⟨laidT tt l, nx, lo, []⟩ fun v _ => v = .bool b) {fn : Func} (hf : P.funcs[f]? = some fn) (hb : fn.body.isSome = true)
    {W : World} (hl : LiesBy P W l) (hnx : Nat.ble laidEnd nx = true) (ha : ∀ ρ, VsRel ρ args args') :
    Calls P f ⟨args'⟩ W fun e W' => e = .returned (.bool b) ∧ Still W W' := by
  obtain ⟨tt, ρ, hr, hn⟩ := relLaid (nx := nx) (lo := lo) (lg := []) hl
  obtain ⟨k, v, m', h1, rfl⟩ := h tt
  rw [nble, decide_eq_true_eq] at hnx
  refine (calls_of_irun hP hmx h1 rfl hf hb hr (fun i hi _ => hn i (Nat.le_trans hnx hi)) (ha ρ)).mono fun e W' ⟨v', ρ', q1, q2, _, q4⟩ => ?_
  cases q2
  refine ⟨q1, q4.rest, q4.size, fun B hB => q4.keep B hB ?_⟩
  rintro ⟨c, o, s, g1, g2, _⟩
  obtain ⟨t, vs, _, rfl⟩ := laidT_get g1
  cases g2

theorem Ce.unroll {X : Cx} {e : Env} {h : Hp} {b : Code} {Q : Out → Prop} (q : Ce X e h b (SeqX X (.loop b) Q)) : Ce X e h (.loop b) Q := fun ts m h1 h2 => (q ts m h1 h2).loop

/-! Whole numbers of a kind. -/

theorem wr_if (k : IntKind) (n : Int) : wr k n = if k.signed = true ∧ (2 : Int) ^ (k.bits - 1) ≤ n % (2 : Int) ^ k.bits then n % (2 : Int) ^ k.bits - (2 : Int) ^ k.bits else n % (2 : Int) ^ k.bits := by
  rw [wr_eq]
  unfold IntKind.wrap
  simp only [Bool.and_eq_true, decide_eq_true_eq, ge_iff_le]

theorem wr_mod (k : IntKind) (n : Int) : (wr k n) % (2 : Int) ^ k.bits = n % (2 : Int) ^ k.bits := by
  rw [wr_if]
  cases k <;> simp only [IntKind.bits, IntKind.signed, true_and, false_and, Bool.false_eq_true, if_false, Nat.reduceSub, Int.reducePow] <;> first | omega | (split <;> omega)

theorem wr_of_mod {k : IntKind} {a b : Int} (h : a % (2 : Int) ^ k.bits = b % (2 : Int) ^ k.bits) : wr k a = wr k b := by
  rw [wr_if, wr_if, h]

theorem wr_range (k : IntKind) (n : Int) : k.min ≤ wr k n ∧ wr k n ≤ k.max := by
  rw [wr_if]
  cases k <;> simp only [IntKind.bits, IntKind.signed, IntKind.min, IntKind.max, true_and, false_and, Bool.false_eq_true, if_false, if_true, Nat.reduceSub, Int.reducePow, Int.reduceNeg, Int.reduceSub] <;> first | omega | (split <;> omega)

theorem wr_in {k : IntKind} {n : Int} (h1 : k.min ≤ n) (h2 : n ≤ k.max) : wr k n = n := by
  rw [wr_if]
  cases k <;> simp only [IntKind.bits, IntKind.signed, IntKind.min, IntKind.max, true_and, false_and, Bool.false_eq_true, if_false, if_true, Nat.reduceSub, Int.reducePow, Int.reduceNeg, Int.reduceSub] at * <;> first | omega | (split <;> omega)

end Go.Ab

/-
  THE ENGINE, 59: plain data, as cells: what a laid variable's cells are.
-/
namespace Go.Ab
set_option linter.unusedSectionVars false

mutual
/-- The cells of plain data. -/
def dcells {H : Type} : DataW H → List Value
  | .lit (.int k n) => [.int k n]
  | .lit (.bool b) => [.bool b]
  | .lit (.float k b) => [.float k b]
  | .lit (.string l) => [.string ⟨⟨l⟩⟩]
  | .agg l => dcellss l
  | _ => []
def dcellss {H : Type} : List (DataW H) → List Value
  | [] => []
  | x :: xs => dcells x ++ dcellss xs
end

def contig (P : Program) (n : Nat) : Nat → List Field → Bool
  | off, [] => Nat.beq off n
  | off, f :: fs => Nat.beq f.offset off && contig P n (off + P.cellsOf f.type) fs

/-- Types of plain data. -/
def plainT (P : Program) : Nat → TypeId → Bool
  | 0, _ => false
  | d + 1, t => match P.underlying t with
    | some .bool | some (.int _) | some (.float _) | some .string => true
    | some (.struct fs) => (fs.toList.all fun f => plainT P d f.type) && contig P (P.cellsOf t) 0 fs.toList
    | some (.array n e) => plainT P d e && Nat.beq (P.cellsOf t) (n * P.cellsOf e)
    | _ => false

section
variable {H : Type} {enc : TypeId × Value → H} {P : Program} {w : World} {base : Nat} {spare : Nat → Bool} {held : Bool}

theorem struct_cells {cs : List Value} {n : Nat} (hn : cs.length = n) : ∀ (fs : List Field) (xs : List (DataW H)) (off : Nat), contig P n off fs = true → off ≤ n → xs.length = fs.length → (∀ (i : Nat) (f : Field) (x : DataW H), fs[i]? = some f → xs[i]? = some x → (cs.drop f.offset).take (P.cellsOf f.type) = dcells x ∧ f.offset + P.cellsOf f.type ≤ n) → cs.drop off = dcellss xs
  | [], xs, off, hc, _, hx, _ => by
    cases xs with
    | nil =>
      unfold contig at hc
      rw [nbeq, decide_eq_true_eq] at hc
      rw [List.drop_of_length_le (by omega)]
      rfl
    | cons x xs => simp at hx
  | f :: fs, xs, off, hc, ho, hx, h => by
    cases xs with
    | nil => simp at hx
    | cons x xs =>
      unfold contig at hc
      rw [Bool.and_eq_true, nbeq, decide_eq_true_eq] at hc
      obtain ⟨h1, h2⟩ := h 0 f x rfl rfl
      rw [hc.1] at h1 h2
      have ih := struct_cells hn fs xs (off + P.cellsOf f.type) hc.2 h2 (by simpa using hx) fun i g y hg hy => h (i + 1) g y (by simpa using hg) (by simpa using hy)
      show cs.drop off = dcells x ++ dcellss xs
      rw [← h1, ← ih, ← List.drop_drop, List.take_append_drop]

theorem array_cells {cs : List Value} {n k : Nat} (hn : cs.length = n * k) : ∀ (xs : List (DataW H)) (j : Nat), j + xs.length = n → (∀ (i : Nat) (x : DataW H), xs[i]? = some x → (cs.drop ((j + i) * k)).take k = dcells x) → cs.drop (j * k) = dcellss xs
  | [], j, hj, _ => by
    have : j = n := by simpa using hj
    rw [List.drop_of_length_le (by rw [hn, this]; exact Nat.le_refl _)]
    rfl
  | x :: xs, j, hj, h => by
    simp only [List.length_cons] at hj
    have h1 := h 0 x rfl
    have ih := array_cells hn xs (j + 1) (by omega) fun i y hy => by
      have := h (i + 1) y (by simpa using hy)
      rw [show j + 1 + i = j + (i + 1) by omega]
      exact this
    show cs.drop (j * k) = dcells x ++ dcellss xs
    rw [← h1, ← ih, Nat.add_zero, Nat.succ_mul, ← List.drop_drop, List.take_append_drop]

theorem contig_le {n : Nat} : ∀ {fs : List Field} {off : Nat}, contig P n off fs = true → off ≤ n ∧ ∀ (i : Nat) (f : Field), fs[i]? = some f → f.offset + P.cellsOf f.type ≤ n
  | [], off, h => by
    unfold contig at h
    rw [nbeq, decide_eq_true_eq] at h
    exact ⟨by omega, fun i f hf => by simp at hf⟩
  | g :: fs, off, h => by
    unfold contig at h
    rw [Bool.and_eq_true, nbeq, decide_eq_true_eq] at h
    obtain ⟨h1, h2⟩ := contig_le h.2
    refine ⟨by omega, fun i f hf => ?_⟩
    cases i with
    | zero =>
      simp only [List.getElem?_cons_zero, Option.some.injEq] at hf
      subst hf
      omega
    | succ i => exact h2 i f (by simpa using hf)

theorem trod_plain : ∀ (d : Nat) (t : TypeId), plainT P d t = true → ∀ (fuel : Nat) (cs : List Value) (x : DataW H × List MemPlace), DataW.trod enc P w base spare held fuel t cs = some x → cs = dcells x.1 := by
  intro d
  induction d with
  | zero => intro t h; cases h
  | succ d ih =>
    intro t h fuel cs x hx
    unfold plainT at h
    split at h
    · rename_i ht
      obtain ⟨b, rfl, rfl⟩ := DataW.trod_bool ht hx
      rfl
    · rename_i k ht
      obtain ⟨n, rfl, rfl, _⟩ := DataW.trod_int ht hx
      rfl
    · rename_i k ht
      cases fuel with
      | zero => cases hx
      | succ m =>
        unfold DataW.trod at hx
        rw [ht] at hx
        split at hx <;> simp_all
        obtain ⟨⟨rfl, _⟩, rfl⟩ := hx
        rfl
    · rename_i ht
      obtain ⟨s, rfl, rfl, _⟩ := DataW.trod_string ht hx
      rfl
    · rename_i fs ht
      obtain ⟨xs, m, rfl, rfl, hl, hlen, hf⟩ := DataW.trod_struct ht hx
      rw [Bool.and_eq_true, List.all_eq_true] at h
      have := struct_cells (P := P) hl fs.toList (xs.map (·.1)) 0 h.2 (Nat.zero_le _) (by simp [hlen]) fun i f y hi hy => by
        rw [List.getElem?_map, Option.map_eq_some_iff] at hy
        obtain ⟨z, hz, rfl⟩ := hy
        have h1 := hf i f (by simpa using hi)
        rw [hz] at h1
        exact ⟨ih _ (h.1 f (List.mem_of_getElem? hi)) _ _ _ h1, (contig_le h.2).2 i f hi⟩
      have h9 : cs = dcellss (xs.map (·.1)) := by simpa using this
      exact h9
    · rename_i n e ht
      obtain ⟨xs, m, rfl, rfl, hl, hlen, hf⟩ := DataW.trod_array ht hx
      rw [Bool.and_eq_true, nbeq, decide_eq_true_eq] at h
      have := array_cells (n := n) (k := P.cellsOf e) (by rw [hl, h.2]) (xs.map (·.1)) 0 (by simp [hlen]) fun i y hy => by
        rw [List.getElem?_map, Option.map_eq_some_iff] at hy
        obtain ⟨z, hz, rfl⟩ := hy
        have hi : i < n := by
          have := (List.getElem?_eq_some_iff.1 hz).1
          omega
        have h1 := hf i hi
        rw [hz] at h1
        rw [Nat.zero_add]
        exact ih _ h.1 _ _ _ h1
      have h9 : cs = dcellss (xs.map (·.1)) := by simpa using this
      exact h9
    · cases h

theorem mapM_congr {α β : Type} {f g : α → Option β} : ∀ {l : List α}, (∀ a ∈ l, f a = g a) → l.mapM f = l.mapM g
  | [], _ => rfl
  | a :: l, h => by
    rw [List.mapM_cons, List.mapM_cons, h a List.mem_cons_self, mapM_congr fun b hb => h b (List.mem_cons_of_mem _ hb)]

/-- Plain data read alike in every world. -/
theorem trod_plain_same {w' : World} {base' : Nat} {spare' : Nat → Bool} {held' : Bool} : ∀ (d : Nat) (t : TypeId), plainT P d t = true → ∀ (fuel : Nat) (cs : List Value), DataW.trod enc P w base spare held fuel t cs = DataW.trod enc P w' base' spare' held' fuel t cs := by
  intro d
  induction d with
  | zero => intro t h; cases h
  | succ d ih =>
    intro t h fuel cs
    cases fuel with
    | zero => rfl
    | succ m =>
      unfold plainT at h
      unfold DataW.trod
      split at h
      · rename_i ht; rw [ht]; split <;> simp_all
      · rename_i ht; rw [ht]; split <;> simp_all
      · rename_i ht; rw [ht]; split <;> simp_all
      · rename_i ht; rw [ht]; split <;> simp_all
      · rename_i fs ht
        rw [ht]
        rw [Bool.and_eq_true, List.all_eq_true] at h
        simp only
        rw [mapM_congr fun f hf => ih _ (h.1 f hf) m ((cs.drop f.offset).take (P.cellsOf f.type))]
      · rename_i n e ht
        rw [ht]
        rw [Bool.and_eq_true] at h
        simp only
        rw [mapM_congr fun i _ => ih _ h.1 m ((cs.drop (i * P.cellsOf e)).take (P.cellsOf e))]
      · cases h

/-- Cells that are read, one by one. -/
theorem cells?_get {a : Addr} {n : Nat} {cs : List Value} (h : w.cells? base a n = some cs) : base ≤ a.block ∧ cs.length = n ∧ ∀ i, i < n → w.cell? (a.add i) = cs[i]? := by
  unfold World.cells? at h
  split at h
  · rename_i hb
    exact ⟨hb, by simpa using mapM_some_length h, fun i hi => mapM_some_get h i i (by simp [hi])⟩
  · cases h

theorem add_eq (b off n : Nat) : Addr.add ⟨b, off, none⟩ n = ⟨b, off + n, none⟩ := by
  unfold Addr.add
  split
  · simp_all
  · rfl

theorem spot_none {a : Addr} {v : Value} (h : w.cell? a = some v) : a = ⟨a.block, a.off, none⟩ := by
  obtain ⟨b, off, spot⟩ := a
  cases spot with
  | none => rfl
  | some s =>
    unfold World.cell? at h
    split at h <;> simp at h

/-- A slice of plain data. -/
theorem trod_slice_plain {t e : TypeId} {d fuel : Nat} {cs : List Value} {ds : List (DataW H)} {p : List MemPlace} (ht : P.underlying t = some (.slice e)) (hp : plainT P d e = true) (hk : 0 < P.cellsOf e) (hs : ∀ b, spare b = true) (hne : 0 < ds.length) (h : DataW.trod enc P w base spare held fuel t cs = some (.slice ds [], p)) :
    ∃ b off, cs = [.slice (some ⟨b, off, none⟩) ds.length ds.length] ∧ ds.length ≤ maxLen ∧ (∀ i : Nat, i < ds.length * P.cellsOf e → w.cell? ⟨b, off + i, none⟩ = (dcellss ds)[i]?) ∧ (dcellss ds).length = ds.length * P.cellsOf e := by
  rcases DataW.trod_slice ht h with ⟨_, h2⟩ | ⟨a, len, cap, elems, rest, n, rfl, rfl, hx, _, h3, h4, h5, h6, h7, _⟩
  · cases h2
  · simp only [Prod.mk.injEq, DataW.slice.injEq] at hx
    obtain ⟨⟨rfl, hr⟩, _⟩ := hx
    have hrest : rest = [] := by
      cases rest with
      | nil => rfl
      | cons r rs => simp at hr
    have hcap : cap = len := by
      have := (h7 (hs _)).1
      rw [hrest] at this
      simp at this
      omega
    subst hcap
    simp only [List.length_map] at hne
    have ha : a = ⟨a.block, a.off, none⟩ := by
      have h0 := h6 0 (by omega)
      rw [List.getElem?_eq_getElem hne] at h0
      obtain ⟨cs, h8, _⟩ := Option.bind_eq_some_iff.1 h0
      obtain ⟨_, h11, h12⟩ := cells?_get h8
      have h13 := h12 0 hk
      rw [List.getElem?_eq_getElem (by omega)] at h13
      have : (a.add (0 * P.cellsOf e)).add 0 = a := by simp [Addr.add]
      rw [this] at h13
      exact spot_none h13
    obtain ⟨b, off, spot⟩ := a
    simp only [Addr.mk.injEq, true_and] at ha
    subst ha
    have key : ∀ (xs : List (DataW H × List MemPlace)) (j : Nat), (∀ (i : Nat) (x : DataW H × List MemPlace), xs[i]? = some x → (w.cells? base (Addr.add ⟨b, off, none⟩ ((j + i) * P.cellsOf e)) (P.cellsOf e)).bind (DataW.trod enc P w base spare held n e) = some x) →
        (dcellss (xs.map (·.1))).length = xs.length * P.cellsOf e ∧ ∀ i, i < xs.length * P.cellsOf e → w.cell? ⟨b, off + (j * P.cellsOf e + i), none⟩ = (dcellss (xs.map (·.1)))[i]? := by
      intro xs
      induction xs with
      | nil => intro j _; exact ⟨by simp [dcellss], fun i hi => by simp at hi⟩
      | cons x xs ih =>
        intro j hx
        obtain ⟨cs, h8, h9⟩ := Option.bind_eq_some_iff.1 (hx 0 x rfl)
        have h10 := trod_plain d e hp _ _ _ h9
        obtain ⟨_, h11, h12⟩ := cells?_get h8
        obtain ⟨i1, i2⟩ := ih (j + 1) fun i y hy => by
          have := hx (i + 1) y (by simpa using hy)
          rw [show j + 1 + i = j + (i + 1) by omega]
          exact this
        have hlen : (dcells x.1).length = P.cellsOf e := by rw [← h10]; exact h11
        refine ⟨by simp only [List.map_cons, dcellss, List.length_append, hlen, i1, List.length_cons, Nat.succ_mul]; omega, fun i hi => ?_⟩
        show _ = (dcells x.1 ++ dcellss (xs.map (·.1)))[i]?
        by_cases hlt : i < P.cellsOf e
        · rw [List.getElem?_append_left (by omega), ← h10, ← h12 i hlt, add_eq, add_eq, Nat.add_zero, Nat.add_assoc]
        · rw [List.getElem?_append_right (by omega), hlen]
          have := i2 (i - P.cellsOf e) (by simp only [List.length_cons, Nat.succ_mul] at hi; omega)
          rw [← this, show off + (j * P.cellsOf e + i) = off + ((j + 1) * P.cellsOf e + (i - P.cellsOf e)) by rw [Nat.succ_mul]; omega]
    have hk2 := key elems 0 fun i x hi => by
      have hlt := (List.getElem?_eq_some_iff.1 hi).1
      rw [Nat.zero_add, h6 i (by omega)]
      exact hi
    refine ⟨b, off, by simp [h5], by simp [h5]; exact h4, fun i hi => ?_, by simpa using hk2.1⟩
    have := hk2.2 i (by simpa using hi)
    simpa using this

end
end Go.Ab

/-
  THE ENGINE, 60: laid variables of plain data, in the world.
-/
namespace Go.Ab
set_option linter.unusedSectionVars false

theorem laidVars_get {P : Program} {w : World} : ∀ {l : List (String × DataW Unit)} {ps : List MemPlace}, DataW.LaidVars P w l ps → ∀ {n : String} {d : DataW Unit}, (n, d) ∈ l → ∃ g t cs fuel p, P.globalNamed n = some g ∧ (P.globals[g]?).map (·.type) = some t ∧ w.var? P n = some cs ∧ DataW.trod (fun _ => ()) P w 0 (fun _ => true) false fuel t cs.toList = some (d, p)
  | [], _, _, _, _, hm => by cases hm
  | (n', d') :: r, ps, h, n, d, hm => by
    obtain ⟨g, t, cs, fuel, p, q, h1, h2, h3, h4, h5, _⟩ := h
    cases hm with
    | head => exact ⟨g, t, cs, fuel, p, h1, h2, h3, h4⟩
    | tail _ hm => exact laidVars_get h5 hm

section
variable {P : Program} {W : World} {l : List (String × DataW Unit)} {n : String} {d : DataW Unit} {g t k : Nat}

theorem plainVar (hsh : W.ShapedOpen P) (hL : laidMet P l W) (hm : (n, d) ∈ l) (hg : P.globalNamed n = some g) (ht : (P.globals[g]?).map (·.type) = some t) (hlt : Nat.blt g P.globals.size = true)
    (hz : ((begin P (fun _ _ => 0) default).world.heap[g]?).bind (fun o => o.row?.map fun x => (x.1.size, x.2)) = some (k, t)) (hp : plainT P 10 t = true) : ∃ fr, W.heap[g]? = some (.cells ⟨dcells d⟩ t fr) := by
  obtain ⟨_, hL, _⟩ := hL
  obtain ⟨g', t', cs, fuel, p, h1, h2, h3, h4⟩ := laidVars_get hL hm
  obtain rfl := Option.some.inj (hg.symm.trans h1)
  obtain rfl := Option.some.inj (ht.symm.trans h2)
  obtain ⟨fr, hb⟩ := block_of_var hsh hg hlt h3 hz
  have h5 : cs.toList = dcells d := trod_plain 10 t hp _ _ _ h4
  exact ⟨fr, by rw [hb]; congr 2; exact Array.ext' h5⟩

theorem sliceVar {e : TypeId} {ds : List (DataW Unit)} (hsh : W.ShapedOpen P) (hL : laidMet P l W) (hm : (n, DataW.slice ds []) ∈ l) (hg : P.globalNamed n = some g) (ht : (P.globals[g]?).map (·.type) = some t) (hlt : Nat.blt g P.globals.size = true)
    (hz : ((begin P (fun _ _ => 0) default).world.heap[g]?).bind (fun o => o.row?.map fun x => (x.1.size, x.2)) = some (k, t)) (hu : P.underlying t = some (.slice e)) (hp : plainT P 10 e = true) (hk : 0 < P.cellsOf e) (hne : 0 < ds.length) (hle : 0 < (dcellss ds).length) :
    ∃ b off, (∃ fr, W.heap[g]? = some (.cells #[.slice (some ⟨b, off, none⟩) ds.length ds.length] t fr)) ∧ b < W.heap.size ∧ ∃ c u fr, W.heap[b]? = some (.cells c u fr) ∧ off + (dcellss ds).length ≤ c.size ∧ ∀ (i : Nat) v, (dcellss ds)[i]? = some v → c[off + i]? = some v := by
  obtain ⟨_, hL, _⟩ := hL
  obtain ⟨g', t', cs, fuel, p, h1, h2, h3, h4⟩ := laidVars_get hL hm
  obtain rfl := Option.some.inj (hg.symm.trans h1)
  obtain rfl := Option.some.inj (ht.symm.trans h2)
  obtain ⟨fr, hb⟩ := block_of_var hsh hg hlt h3 hz
  obtain ⟨b, off, h5, _, h6, h7⟩ := trod_slice_plain hu hp hk (fun _ => rfl) hne h4
  have hcell : ∀ i, i < (dcellss ds).length → ∃ c u fr', W.heap[b]? = some (.cells c u fr') ∧ c[off + i]? = (dcellss ds)[i]? := by
    intro i hi
    have := h6 i (by omega)
    unfold World.cell? at this
    split at this
    · rename_i c u fr' hc
      exact ⟨c, u, fr', hc, by simpa using this⟩
    · rw [List.getElem?_eq_getElem hi] at this
      cases this
  obtain ⟨c, u, fr', hc, _⟩ := hcell 0 hle
  have hall : ∀ i, i < (dcellss ds).length → c[off + i]? = (dcellss ds)[i]? := by
    intro i hi
    obtain ⟨c2, u2, fr2, hc2, h8⟩ := hcell i hi
    rw [hc] at hc2
    cases hc2
    exact h8
  refine ⟨b, off, ⟨fr, by rw [hb]; congr 2; exact Array.ext' h5⟩, (Array.getElem?_eq_some_iff.1 hc).1, c, u, fr', hc, ?_, fun i v hv => ?_⟩
  · have h8 := hall ((dcellss ds).length - 1) (by omega)
    rw [List.getElem?_eq_getElem (by omega)] at h8
    have := (Array.getElem?_eq_some_iff.1 h8).1
    omega
  · rw [hall i (List.getElem?_eq_some_iff.1 hv).1]
    exact hv

end

theorem lrel_at {ρ : Ren} {vs : List Value} (hg : ground.go vs = true) : ∀ v ∈ vs, LRel ρ v v := by
  have hgr : ∀ (vs : List Value), ground.go vs = true → ∀ v ∈ vs, ground v = true := by
    intro vs
    induction vs with
    | nil => intro _ v hv; cases hv
    | cons x xs ih =>
      intro h v hv
      simp only [ground.go, Bool.and_eq_true] at h
      cases hv with
      | head => exact h.1
      | tail _ hv => exact ih h.2 v hv
  intro v hv
  have h := hgr vs hg v hv
  unfold LRel
  split
  · simp [ground] at h
  · simp [ground] at h
  · exact ⟨h, rfl⟩

/-- What a laid block asks of the world. -/
def LaidOk (P : Program) (W : World) (ρ : Ren) (b : Nat) (g : Bool) (vs : List Value) : Prop :=
  ∃ s c t fr, ρ b = some s ∧ W.heap[s.blk]? = some (.cells c t fr) ∧ s.off + vs.length ≤ c.size ∧ (∀ (i : Nat) v, vs[i]? = some v → ∃ v', c[s.off + i]? = some v' ∧ LRel ρ v v') ∧ (g = false → s.off = 0 ∧ c.size = vs.length) ∧ (g = true → s.cap < big ∧ s.off + s.cap * P.cellsOf t ≤ c.size)

theorem laidOk_plain {P : Program} {W : World} {ρ : Ren} {b t : Nat} {vs : List Value} {fr : Nat × Nat} (hρ : ρ b = some ⟨b, 0, 0⟩) (hW : W.heap[b]? = some (.cells ⟨vs⟩ t fr)) (hg : ground.go vs = true) : LaidOk P W ρ b false vs :=
  ⟨⟨b, 0, 0⟩, ⟨vs⟩, t, fr, hρ, hW, by simp, fun i v hv => ⟨v, by simpa using hv, lrel_at hg v (List.mem_of_getElem? hv)⟩, fun _ => ⟨rfl, rfl⟩, fun h => by cases h⟩

theorem laidOk_slice {P : Program} {W : World} {ρ : Ren} {b t b2 B off n : Nat} {fr : Nat × Nat} (hρ : ρ b = some ⟨b, 0, 0⟩) (hρ2 : ρ b2 = some ⟨B, off, 0⟩) (hn : n < big) (hW : W.heap[b]? = some (.cells #[.slice (some ⟨B, off, none⟩) n n] t fr)) : LaidOk P W ρ b false [.slice (some ⟨b2, 0, none⟩) n n] :=
  ⟨⟨b, 0, 0⟩, _, t, fr, hρ, hW, by simp, fun i v hv => by
    cases i with
    | zero =>
      simp only [List.getElem?_cons_zero, Option.some.injEq] at hv
      subst hv
      exact ⟨_, rfl, rfl, hn, _, hρ2, rfl⟩
    | succ i => simp at hv, fun _ => ⟨rfl, rfl⟩, fun h => by cases h⟩

theorem laidOk_elems {P : Program} {W : World} {ρ : Ren} {b2 B off u : Nat} {c : Array Value} {vs : List Value} {fr : Nat × Nat} (hρ2 : ρ b2 = some ⟨B, off, 0⟩) (hW : W.heap[B]? = some (.cells c u fr)) (hle : off + vs.length ≤ c.size) (hv : ∀ (i : Nat) v, vs[i]? = some v → c[off + i]? = some v) (hg : ground.go vs = true) : LaidOk P W ρ b2 true vs :=
  ⟨⟨B, off, 0⟩, c, u, fr, hρ2, hW, hle, fun i v h => ⟨v, hv i v h, lrel_at hg v (List.mem_of_getElem? h)⟩, (fun h => by cases h), fun _ => ⟨by simp [big], by simp; omega⟩⟩

end Go.Ab
