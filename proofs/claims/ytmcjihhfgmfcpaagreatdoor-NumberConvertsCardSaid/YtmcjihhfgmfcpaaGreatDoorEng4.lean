/-
  The engine, part 4: an interpreter over abstract memories, and the proof that the model's machine does what it reckons. Conditions: none.
-/
import Derived.Test.YtmcjihhfgmfcpaaGreatDoorEng3
import Derived.Orders
import Derived.ChangeSame
import Derived.Handed
import Derived.OpenShut
import Derived.FnData
import Derived.ChangeArms

set_option autoImplicit true
set_option relaxedAutoImplicit true
set_option linter.unusedSectionVars false
set_option linter.unusedVariables false
set_option linter.unusedSimpArgs false
namespace Go.Ab
variable [Vals]
theorem dstsOf_mem : ∀ {os : List Oper} {i0 k : Nat} {o : Oper} {d : Tmp}, os[k]? = some o → o.dst = some d → (d, i0 + k) ∈ dstsOf os i0
 | [], _, _, _, _, h, _ => by simp at h
 | o :: os, i0, 0, o', d, h, hd => by
  simp only [List.getElem?_cons_zero, Option.some.injEq] at h
  subst h
  unfold dstsOf
  rw [hd]
  exact List.mem_cons_self
 | o :: os, i0, k + 1, o', d, h, hd => by
  have := dstsOf_mem (i0 := i0 + 1) (by simpa using h : os[k]? = some o') hd
  rw [show i0 + (k + 1) = i0 + 1 + k by omega]
  unfold dstsOf
  split
  ·exact List.mem_cons_of_mem _ this
  exact this
theorem apartT_spec : ∀ {ds : List (Tmp × Nat)} {d : Tmp} {i j : Nat}, apartT ds = true → (d, i) ∈ ds → (d, j) ∈ ds → i = j
 | [], _, _, _, _, h, _ => by cases h
 | (e, k) :: ds, d, i, j, h, h1, h2 => by
  simp only [apartT, Bool.and_eq_true, List.all_eq_true, Bool.not_eq_true', nbeq, decide_eq_false_iff_not] at h
  cases h1 with
  | head =>
   cases h2 with
   | head => rfl
   | tail _ h2 => exact absurd rfl (h.1 _ h2)
  | tail _ h1 =>
   cases h2 with
   | head => exact absurd rfl (h.1 _ h1)
   | tail _ h2 => exact apartT_spec h.2 h1 h2
theorem looksAll_spec {ds : List (Tmp × Nat)} {ps : List Nat} : ∀ {l : List (Oper × Info)} {k : Nat} {o : Oper} {inf : Info}, looksAll ds ps l = true → l[k]? = some (o, inf) → inf.pre < 2 ^ inf.i ∧ looksOk ds ps inf.i inf.pre o = true
 | [], _, _, _, _, h => by simp at h
 | (o, inf) :: l, 0, o', inf', h, hk => by
  simp only [List.getElem?_cons_zero, Option.some.injEq, Prod.mk.injEq] at hk
  obtain ⟨rfl, rfl⟩ := hk
  simp only [looksAll, Bool.and_eq_true, nblt, decide_eq_true_eq] at h
  exact h.1
 | (o, inf) :: l, k + 1, o', inf', h, hk => by
  simp only [looksAll, Bool.and_eq_true] at h
  exact looksAll_spec h.2 (by simpa using hk)
theorem looksOk_spec (h : looksOk ds ps i pre o = true) (hm : (d, j) ∈ ds) : pre.testBit j = true ∨ ((Operand.tmp d ∉ opsOf o.op ∨ (ps.getD j 0).testBit i = true) ∧ ∀ g w, o.guard = some (g, w) → g ≠ j) := by
 have := List.all_eq_true.1 h _ hm
 simp only [Bool.or_eq_true, Bool.and_eq_true, Bool.not_eq_true', List.any_eq_false] at this
 refine this.imp id fun ⟨h1, h2⟩ => ⟨h1.imp (fun h1 hin => ?_) id, fun g w hg => ?_⟩
 ·have := h1 _ hin
  simp [isTmp, nbeq] at this
 rw [hg] at h2
 simpa [nbeq] using h2
theorem opsOf_mem [FactsOk P] (h : doOp P self ts o m = some r) (hx : x ∈ o.operands) : x ∈ opsOf o := by
 cases o <;> simp only [Op.operands, Call.operands] at hx <;> simp only [opsOf, callOps]
 case call c =>
  cases hc : c.callee <;> rw [hc] at hx <;> simpa using hx
 all_goals first
  | (simp at hx; done)
  | (simp [doOp, cls, opH] at h; done)
  | (simpa [or_assoc] using hx; done)
structure TmpsOk (ops : Array Oper) (pre : Nat → Nat) : Prop where
 one : ∀ (i j : Nat) (oi oj : Oper) (d : Tmp), ops[i]? = some oi → ops[j]? = some oj → oi.dst = some d → oj.dst = some d → i = j
 below : ∀ (i j : Nat), i < ops.size → (pre i).testBit j = true → j < i
 looks : ∀ (i j : Nat) (oi oj : Oper) (d : Tmp), ops[i]? = some oi → ops[j]? = some oj → oj.dst = some d → Operand.tmp d ∈ opsOf oi.op → (pre i).testBit j = true ∨ (pre j).testBit i = true
 guards : ∀ (i g : Nat) (w : Bool) (oi og : Oper) (d : Tmp), ops[i]? = some oi → oi.guard = some (g, w) → ops[g]? = some og → og.dst = some d → (pre i).testBit g = true
theorem tmps_ok [FactsOk P] (h : tmpsOk (ops.toList.zip (infos P ops.toList)) ops.toList = true) : TmpsOk ops (fun i => (preds ops.toList).getD i 0) := by
 simp only [tmpsOk, Bool.and_eq_true] at h
 obtain ⟨h1, h2⟩ := h
 have mem : ∀ {i : Nat} {o : Oper} {d : Tmp}, ops[i]? = some o → o.dst = some d → (d, i) ∈ dstsOf ops.toList 0 := by
  intro i o d ho hd
  have := dstsOf_mem (os := ops.toList) (i0 := 0) (k := i) (by simpa using ho) hd
  rwa [Nat.zero_add] at this
 have at_ : ∀ {i : Nat} {o : Oper}, ops[i]? = some o → ∃ inf, (ops.toList.zip (infos P ops.toList))[i]? = some (o, inf) ∧ InfoOk P ops i o inf := by
  intro i o ho
  have hlt : i < ops.size := (Array.getElem?_eq_some_iff.1 ho).1
  have hl : i < (ops.toList.zip (infos P ops.toList)).length := by simp [infos, hlt]
  have hget := List.getElem?_eq_getElem hl
  have hinf := infos_ok (P := P) (ops := ops) (i := i) (o := (ops.toList.zip (infos P ops.toList))[i].1) (inf := (ops.toList.zip (infos P ops.toList))[i].2) hget
  have : (ops.toList.zip (infos P ops.toList))[i].1 = o := by
   have := hinf.at_
   rw [ho] at this
   exact (Option.some.inj this).symm
  exact ⟨_, by rw [hget, ← this], by rw [← this]; exact hinf⟩
 have pres : ∀ {j : Nat} {o : Oper}, ops[j]? = some o → ((ops.toList.zip (infos P ops.toList)).map fun x => x.2.pre).getD j 0 = (preds ops.toList).getD j 0 := by
  intro j o ho
  obtain ⟨inf, q1, q2⟩ := at_ ho
  rw [List.getD_eq_getElem?_getD, List.getElem?_map, q1]
  simp only [Option.map_some, Option.getD_some]
  exact q2.prec
 refine ⟨fun i j oi oj d hi hj hd1 hd2 => apartT_spec h1 (mem hi hd1) (mem hj hd2), fun i j hi hb => ?_, fun i j oi oj d hi hj hd hin => ?_, fun i g w oi og d hi hg ho hd => ?_⟩
 ·obtain ⟨inf, q1, q2⟩ := at_ (Array.getElem?_eq_getElem hi)
  have := (looksAll_spec h2 q1).1
  rw [q2.num, q2.prec] at this
  exact Nat.lt_of_not_le fun hle => by
   have := Nat.testBit_lt_two_pow (Nat.lt_of_lt_of_le this (Nat.pow_le_pow_right (by omega) hle))
   have hb2 : ((preds ops.toList).getD i 0).testBit j = true := hb
   rw [this] at hb2
   cases hb2
 ·obtain ⟨inf, q1, q2⟩ := at_ hi
  have := (looksAll_spec h2 q1).2
  rw [q2.prec, q2.num] at this
  rcases looksOk_spec this (mem hj hd) with h3 | ⟨h3 | h3, _⟩
  ·exact .inl h3
  ·exact absurd hin h3
  rw [pres hj] at h3
  exact .inr h3
 obtain ⟨inf, q1, q2⟩ := at_ hi
 have := (looksAll_spec h2 q1).2
 rw [q2.prec] at this
 rcases looksOk_spec this (mem ho hd) with h3 | ⟨_, h3⟩
 ·exact h3
 exact absurd rfl (h3 g w hg)
end Go.Ab
namespace Go.Ab
variable [Vals]
theorem infos_at [FactsOk P] (ho : ops[i]? = some o) : ∃ inf, (ops.toList.zip (infos P ops.toList))[i]? = some (o, inf) ∧ InfoOk P ops i o inf := by
 have hlt : i < ops.size := (Array.getElem?_eq_some_iff.1 ho).1
 have hl : i < (ops.toList.zip (infos P ops.toList)).length := by simp [infos, hlt]
 have hget := List.getElem?_eq_getElem hl
 have hinf := infos_ok (P := P) (ops := ops) (i := i) (o := (ops.toList.zip (infos P ops.toList))[i].1) (inf := (ops.toList.zip (infos P ops.toList))[i].2) hget
 have : (ops.toList.zip (infos P ops.toList))[i].1 = o := by
  have := hinf.at_
  rw [ho] at this
  exact (Option.some.inj this).symm
 exact ⟨_, by rw [hget, ← this], by rw [← this]; exact hinf⟩
abbrev preAt (ops : Array Oper) (i : Nat) : Nat := (preds ops.toList).getD i 0
structure Ctx (P : Program) (slf : Self) (n base lo : Nat) (ops : Array Oper) (T : Nat → Tr Value) (M : Nat → AW) (L : Nat → List Nat) (R : Nat → Option Nat) (A : Nat → List (Nat × Nat)) : Prop where
 mono : ∀ fr t m out, slf fr t m = some out → Mono m out.m
 sound : ∀ fr t m out, slf fr t m = some out → Sound P fr t m out
 tr : DTrace P slf n ops base lo 0 (ops.toList.zip (infos P ops.toList)) T M L R A
 a0 : A 0 = []
 tm : TmpsOk ops (preAt ops)
 nj : ∀ k b, k ≤ ops.size → (M k).next ≤ b → b < (M ops.size).next → (M k).heap.get b = none
 low : base = (M 0).next
def Amk (P : Program) (ops : Array Oper) (T : Nat → Tr Value) (i : Nat) (x : AObj) : Prop := ∃ o f, ops[i]? = some o ∧ wantedA ops (T i) o = true ∧ cls P o.op = .a ∧ opA P (T i) o.op = some (x, f)
def Hst (P : Program) (ops : Array Oper) (T : Nat → Tr Value) (i : Nat) : Prop := ∃ o, ops[i]? = some o ∧ wantedA ops (T i) o = true ∧ cls P o.op = .h
section
variable {P : Program} [FactsOk P] {slf : Self} {n base lo : Nat} {ops : Array Oper} {T : Nat → Tr Value} {M : Nat → AW} {L : Nat → List Nat} {R : Nat → Option Nat} {A : Nat → List (Nat × Nat)}
theorem Amk.lt (h : Amk P ops T i x) : i < ops.size := by
 obtain ⟨o, f, h1, _⟩ := h
 exact (Array.getElem?_eq_some_iff.1 h1).1
theorem Amk.uniq (h : Amk P ops T i x) (k : Amk P ops T i y) : x = y := by
 obtain ⟨o, f, h1, _, _, h4⟩ := h
 obtain ⟨o2, f2, k1, _, _, k4⟩ := k
 rw [h1] at k1
 cases k1
 rw [h4] at k4
 cases k4
 rfl
namespace Ctx
variable (C : Ctx P slf n base lo ops T M L R A)
include C
theorem len : (ops.toList.zip (infos P ops.toList)).length = ops.size := by
 have _ := C
 simp [infos]
theorem step (ho : ops[i]? = some o) : ∃ inf, InfoOk P ops i o inf ∧ (ops.toList.zip (infos P ops.toList))[i]? = some (o, inf) ∧ DStep P slf n ops base lo o inf (T i) (M i) (A i) (T (i + 1)) (M (i + 1)) (L i) (R i) (A (i + 1)) := by
 obtain ⟨inf, h1, h2⟩ := infos_at (P := P) ho
 exact ⟨inf, h2, h1, C.tr.1 i o inf (Nat.zero_le _) (by rw [Nat.sub_zero]; exact h1)⟩
theorem nextLe (hij : i ≤ j) (hj : j ≤ ops.size) : (M i).next ≤ (M j).next := by
 have := trace_next C.mono C.tr (j - i) i (by rw [C.len]; omega)
 rwa [show i + (j - i) = j by omega] at this
theorem made (h : Amk P ops T i x) : (M (i + 1)).heap.get (M i).next = some x ∧ (M (i + 1)).next = (M i).next + 1 ∧ ∀ b, b ≠ (M i).next → (M (i + 1)).heap.get b = (M i).heap.get b := by
 obtain ⟨o, f, h1, h2, h3, h4⟩ := h
 obtain ⟨inf, _, _, hs⟩ := C.step h1
 generalize M (i + 1) = m' at hs ⊢
 generalize T (i + 1) = t' at hs
 generalize L i = lg at hs
 generalize R i = rd at hs
 generalize A (i + 1) = as' at hs
 cases hs with
 | skip hw => rw [h2] at hw; cases hw
 | pure hw hc h => rw [h3] at hc; cases hc
 | imm hw hc h => rw [h3] at hc; cases hc
 | full hw hc h hv hf hsn => rw [h3] at hc; cases hc
 | read hw hc h hv hb => rw [h3] at hc; cases hc
 | make hw hc h =>
  rw [h4] at h
  cases h
  exact ⟨by rw [AW.new_get, if_pos rfl], rfl, fun b hb => by rw [AW.new_get, if_neg hb]⟩
 | call hw hc hk hp h => rw [h3] at hc; cases hc
theorem same (hi : i < ops.size) (hh : ¬ Hst P ops T i) (ha : ∀ x, ¬ Amk P ops T i x) : (M (i + 1)).heap = (M i).heap := by
 have h1 : ops[i]? = some ops[i] := Array.getElem?_eq_getElem hi
 obtain ⟨inf, _, _, hs⟩ := C.step h1
 generalize M (i + 1) = m' at hs ⊢
 generalize T (i + 1) = t' at hs
 generalize L i = lg at hs
 generalize R i = rd at hs
 generalize A (i + 1) = as' at hs
 cases hs with
 | skip hw => rfl
 | pure hw hc h => rfl
 | imm hw hc h => rfl
 | full hw hc h hv hf hsn => rfl
 | read hw hc h hv hb => rfl
 | make hw hc h => exact absurd ⟨_, _, h1, hw, hc, h⟩ (ha _)
 | call hw hc hk hp h => exact absurd ⟨_, h1, hw, hc⟩ hh
theorem keeps (hi : i < ops.size) (hh : ¬ Hst P ops T i) (ha : ∀ x, Amk P ops T i x → b ≠ (M i).next) : (M (i + 1)).heap.get b = (M i).heap.get b := by
 by_cases h : ∃ x, Amk P ops T i x
 ·obtain ⟨x, hx⟩ := h
  exact (C.made hx).2.2 b (ha x hx)
 rw [C.same hi hh fun x hx => h ⟨x, hx⟩]
theorem asSpec : ∀ i, i ≤ ops.size → ∀ j c, (j, c) ∈ A i ↔ (j < i ∧ c = (M j).next ∧ ∃ x, Amk P ops T j x)
 | 0, _, j, c => by
  rw [C.a0]
  simp
 | i + 1, hi, j, c => by
  have ih := asSpec i (by omega) j c
  have h1 : ops[i]? = some ops[i] := Array.getElem?_eq_getElem hi
  obtain ⟨inf, hinf, _, hs⟩ := C.step h1
  have keep : (∀ x, ¬ Amk P ops T i x) → ((j < i ∧ c = (M j).next ∧ ∃ x, Amk P ops T j x) ↔ (j < i + 1 ∧ c = (M j).next ∧ ∃ x, Amk P ops T j x)) := by
   intro hno
   constructor
   ·rintro ⟨a, b⟩
    exact ⟨by omega, b⟩
   rintro ⟨a, b, x, hx⟩
   refine ⟨?_, b, x, hx⟩
   have : j ≠ i := fun e => hno x (e ▸ hx)
   omega
  have kind : ∀ {k : Cls}, k ≠ .a → cls P ops[i].op = k → ∀ x, ¬ Amk P ops T i x := by
   rintro k hk hcl x ⟨o, f, e1, _, e3, _⟩
   rw [h1] at e1
   cases e1
   exact hk (hcl.symm.trans e3)
  generalize M (i + 1) = m' at hs
  generalize T (i + 1) = t' at hs
  generalize L i = lg at hs
  generalize R i = rd at hs
  generalize hA : A (i + 1) = as' at hs ⊢
  cases hs with
  | skip hw =>
   rw [ih]
   refine keep ?_
   rintro x ⟨o, f, e1, e2, _⟩
   rw [h1] at e1
   cases e1
   rw [hw] at e2
   cases e2
  | pure hw hc h => rw [ih]; exact keep (kind (by simp) hc)
  | imm hw hc h => rw [ih]; exact keep (kind (by simp) hc)
  | full hw hc h hv hf hsn => rw [ih]; exact keep (kind (by simp) hc)
  | read hw hc h hv hb => rw [ih]; exact keep (kind (by simp) hc)
  | call hw hc hk hp h => rw [ih]; exact keep (kind (by simp) hc)
  | make hw hc h =>
   have hA : Amk P ops T i _ := ⟨_, _, h1, hw, hc, h⟩
   rw [List.mem_cons, Prod.mk.injEq, hinf.num, ih]
   constructor
   ·rintro (⟨rfl, rfl⟩ | ⟨a, b⟩)
    ·exact ⟨by omega, rfl, _, hA⟩
    exact ⟨by omega, b⟩
   rintro ⟨a, b, x, hx⟩
   by_cases e : j = i
   ·subst e
    exact .inl ⟨rfl, b⟩
   exact .inr ⟨by omega, b, x, hx⟩
theorem unlogged (hi : i < ops.size) (hb : b < base) (hl : b ∉ L i) : (M (i + 1)).heap.get b = (M i).heap.get b := by
 by_cases hh : Hst P ops T i
 ·obtain ⟨o, h1, h2, h3⟩ := hh
  have hnx : base ≤ (M i).next := by rw [C.low]; exact C.nextLe (Nat.zero_le _) (by omega)
  obtain ⟨inf, _, _, hs⟩ := C.step h1
  generalize M (i + 1) = m' at hs ⊢
  generalize T (i + 1) = t' at hs
  generalize L i = lg at hs hl
  generalize R i = rd at hs
  generalize A (i + 1) = as' at hs
  cases hs with
  | skip hw => rfl
  | pure hw hc h => rfl
  | imm hw hc h => rfl
  | full hw hc h hv hf hsn => rfl
  | read hw hc h hv hb => rfl
  | make hw hc h => rw [h3] at hc; cases hc
  | call hw hc hk hp h =>
   have hout : ∀ j, (j, b) ∈ A i → inf.pre.testBit j = true := fun j hj => by
    have := ((C.asSpec i (by omega) j b).1 hj).2.1
    have := C.nextLe (Nat.zero_le j) (by have := ((C.asSpec i (by omega) j b).1 hj).1; omega)
    rw [← C.low] at this
    omega
   show (showB inf.pre (M i).heap (A i) _).get b = _
   rw [show_out hout]
   have := (doOp_mono C.mono h).same hnx b hb hl
   refine Eq.trans this ?_
   exact hide_out hout
 refine C.keeps hi hh fun x hx => ?_
 have : base ≤ (M i).next := by rw [C.low]; exact C.nextLe (Nat.zero_le _) (by omega)
 omega
theorem seg {b p : Nat} : ∀ (d : Nat), p + d ≤ ops.size → (∀ j, p ≤ j → j < p + d → ¬ Hst P ops T j) → (∀ j x, p ≤ j → j < p + d → Amk P ops T j x → b ≠ (M j).next) → (M (p + d)).heap.get b = (M p).heap.get b
 | 0, _, _, _ => rfl
 | d + 1, hd, hh, ha => by
  rw [← seg d (by omega) (fun j h1 h2 => hh j h1 (by omega)) (fun j x h1 h2 => ha j x h1 (by omega))]
  exact C.keeps (i := p + d) (by omega) (hh (p + d) (by omega) (by omega)) fun x hx => ha (p + d) x (by omega) (by omega) hx
theorem segLog {b p : Nat} (hb : b < base) : ∀ (d : Nat), p + d ≤ ops.size → (∀ j, p ≤ j → j < p + d → b ∉ L j) → (M (p + d)).heap.get b = (M p).heap.get b
 | 0, _, _ => rfl
 | d + 1, hd, hh => by
  rw [← segLog hb d (by omega) (fun j h1 h2 => hh j h1 (by omega))]
  exact C.unlogged (i := p + d) (by omega) hb (hh (p + d) (by omega) (by omega))
theorem apartIds (h : Amk P ops T i x) (k : Amk P ops T j y) (e : (M i).next = (M j).next) : i = j := by
 rcases Nat.lt_trichotomy i j with hl | he | hl
 ·have h1 := (C.made h).2.1
  have := C.nextLe (i := i + 1) (j := j) hl (Nat.le_of_lt k.lt)
  omega
 ·exact he
 have h1 := (C.made k).2.1
 have := C.nextLe (i := j + 1) (j := i) hl (Nat.le_of_lt h.lt)
 omega
theorem segMade (hd : p + d ≤ ops.size) (hh : ∀ j, p ≤ j → j < p + d → ¬ Hst P ops T j) (h1 : p ≤ j) (h2 : j < p + d) (h : Amk P ops T j x) : (M (p + d)).heap.get (M j).next = some x := by
 have := C.seg (b := (M j).next) (p := j + 1) (p + d - (j + 1)) (by omega) (fun i a b => hh i (by omega) (by omega)) (fun i y a b hy e => by
  have := C.apartIds h hy e
  omega)
 rw [show j + 1 + (p + d - (j + 1)) = p + d by omega] at this
 rw [this]
 exact (C.made h).1
end Ctx
end
end Go.Ab
namespace Go.Ab
variable [Vals]
def keepT (ts : Tr Value) : List Operand → Tr Value
 | [] => .lf
 | .tmp t :: xs => (keepT ts xs).set t (ts.get t)
 | _ :: xs => keepT ts xs
theorem keepT_in (ts : Tr Value) : ∀ {xs : List Operand} {t : Tmp}, Operand.tmp t ∈ xs → (keepT ts xs).get t = ts.get t
 | [], _, h => by cases h
 | x :: xs, t, h => by
  cases x with
  | tmp u =>
   simp only [keepT, Tr.get_set]
   by_cases e : t = u
   ·subst e; simp
   rw [if_neg e]
   cases h with
   | head => exact absurd rfl e
   | tail _ h => exact keepT_in ts h
  | _ =>
   simp only [keepT]
   cases h with
   | tail _ h => exact keepT_in ts h
theorem keepT_out (ts : Tr Value) : ∀ {xs : List Operand} {t : Tmp}, Operand.tmp t ∉ xs → (keepT ts xs).get t = none
 | [], _, _ => rfl
 | x :: xs, t, h => by
  simp only [List.mem_cons, not_or] at h
  cases x with
  | tmp u =>
   simp only [keepT, Tr.get_set]
   have e : t ≠ u := fun e => h.1 (by rw [e])
   rw [if_neg e]
   exact keepT_out ts h.2
  | const _ => simp only [keepT]; exact keepT_out ts h.2
  | global _ => simp only [keepT]; exact keepT_out ts h.2
  | func _ => simp only [keepT]; exact keepT_out ts h.2
section
variable {P : Program} [FactsOk P] {ρ ρ' : Ren} {m m' : AW} {w w' : World} {ts : Tr Value} {slf : Self}
open Classical in
noncomputable def keepE (a : Act) (xs : List Operand) (x : Operand) : Value :=
 match x with
 | .tmp t => if Operand.tmp t ∈ xs then a.eval (.tmp t) else undef
 | x => a.eval x
theorem keepE_in (h : x ∈ xs) : keepE a xs x = a.eval x := by
 cases x <;> simp [keepE]
 intro h2
 exact absurd h h2
theorem keep_rel (hg : ∀ g, g < P.globals.size → ∃ c, ρ g = some ⟨g, 0, c⟩) (hl : ∀ t, t < dIx → Operand.tmp t ∈ xs → VRel ρ ((ts.get t).getD undef) (a.tmps.getD t undef)) : ERel P ρ (keepT ts xs) (keepE a xs) := by
 intro x v hx
 cases x with
 | tmp t =>
  simp only [ev] at hx
  obtain ⟨hlt, hx⟩ := bif_some hx
  rw [nblt, decide_eq_true_eq] at hlt
  cases hx
  by_cases h : Operand.tmp t ∈ xs
  ·rw [keepT_in ts h, keepE_in h]
   exact hl t hlt h
  rw [keepT_out ts h]
  simp only [keepE, if_neg h]
  exact undef_rel ρ
 | const c =>
  simp only [ev] at hx
  obtain ⟨hgr, hx⟩ := bif_some hx
  cases hx
  exact ground_rel ρ _ hgr
 | global g =>
  simp only [ev] at hx
  obtain ⟨hlt, hx⟩ := bif_some hx
  simp only [nblt, decide_eq_true_eq] at hlt
  cases hx
  obtain ⟨c, hc⟩ := hg g hlt
  exact .ptr hc
 | func f =>
  simp only [ev, Option.some.injEq] at hx
  subst hx
  exact .func .nil .nil
theorem keep_ev (h : x ∈ xs) : ev P ts x = ev P (keepT ts xs) x := by
 cases x with
 | tmp t =>
  simp only [ev]
  rw [keepT_in ts h]
 | _ => rfl
theorem wanted_at (ops : Array Oper) (o : Oper) (hsz : tmps.size ≤ dIx) (h : ∀ g want t, t < dIx → o.guard = some (g, want) → (ops[g]?).bind (·.dst) = some t → VRel ρ ((ts.get t).getD undef) (tmps.getD t undef)) : wantedA ops ts o = Region.wanted o (yielded ops tmps) := by
 unfold wantedA Region.wanted
 cases hg : o.guard with
 | none => rfl
 | some jw =>
  obtain ⟨j, want⟩ := jw
  simp only [yielded]
  cases hd : (ops[j]?).bind (·.dst) with
  | none => simp
  | some t =>
   simp only [Option.bind_some]
   cases hb : Nat.blt t dIx with
   | true =>
    rw [nblt, decide_eq_true_eq] at hb
    have h2 := h j want t hb hg hd
    rw [Array.getD_eq_getD_getElem?] at h2
    exact guard_rel h2 want
   | false =>
    have : ¬ t < dIx := fun hlt => by
     have : Nat.blt t dIx = true := by rw [nblt]; simpa using hlt
     rw [this] at hb
     cases hb
    have : tmps[t]? = none := Array.getElem?_eq_none (Nat.le_trans hsz (Nat.le_of_not_lt this))
    rw [this]
    rfl
theorem Grow.glue (g : Grow ρ0 ρ m0 mS w0 w) (k : Grow ρ ρ' mA mB w w') (hA : ∀ b o, mA.heap.get b = some o → mS.heap.get b = some o) (hlo : m0.next ≤ mA.next) (hhi : mB.next ≤ mS.next) (hn : mT.next = mS.next)
  (own : ∀ B, Own ρ' mT B → Own ρ' mB B ∨ Own ρ mS B) (occ : ∀ B, Occ ρ' mT B → Occ ρ' mB B ∨ Occ ρ mS B) : Grow ρ0 ρ' m0 mT w0 w' where
 le := g.le.trans k.le
 only := fun i hi => by
  rw [hn] at hi
  rw [k.only i (by omega), g.only i hi]
 rest := g.rest.trans k.rest
 size := Nat.le_trans g.size k.size
 keep := fun B hB hno => by
  rw [k.keep B (Nat.lt_of_lt_of_le hB g.size) ?_, g.keep B hB hno]
  rintro ⟨b, o, s, h1, h2, h3, h4⟩
  rcases g.own B ⟨b, o, s, hA _ _ h1, h2, h3, h4⟩ with h5 | h5
  ·exact hno h5
  omega
 own := fun B hB => by
  have up : Own ρ mS B → Own ρ0 m0 B ∨ w0.heap.size ≤ B := g.own B
  rcases own B hB with h | h
  ·rcases k.own B h with ⟨b, o, s, h1, h2⟩ | h1
   ·exact up ⟨b, o, s, hA _ _ h1, h2⟩
   exact .inr (Nat.le_trans g.size h1)
  exact up h
 next := by rw [hn]; exact g.next
 occ := fun B hB => by
  rcases occ B hB with h | h
  ·rcases k.occ B h with ⟨b, o, s, h1, h2⟩ | h1
   ·exact g.occ B ⟨b, o, s, hA _ _ h1, h2⟩
   exact .inr (Nat.le_trans g.size h1)
  exact g.occ B h
theorem Grow.of_get (h : Grow ρ ρ' m m' w w') (hh : ∀ b o, m2.heap.get b = some o → m'.heap.get b = some o) (hn : m2.next = m'.next) : Grow ρ ρ' m m2 w w' :=
 ⟨h.le, fun i hi => h.only i (by rw [← hn]; exact hi), h.rest, h.size, h.keep, fun B ⟨b, o, s, h1, h2⟩ => h.own B ⟨b, o, s, hh _ _ h1, h2⟩, by rw [hn]; exact h.next, fun B ⟨b, o, s, h1, h2⟩ => h.occ B ⟨b, o, s, hh _ _ h1, h2⟩⟩
end
section
variable {P : Program} [FactsOk P] {slf : Self} {n base lo : Nat} {ops : Array Oper} {T : Nat → Tr Value} {M : Nat → AW} {L : Nat → List Nat} {R : Nat → Option Nat} {A : Nat → List (Nat × Nat)}
theorem DStep.put (h : DStep P slf n ops base lo o inf ts m as ts' m' lg rd as') : ∃ v, ts' = Ab.put n ts o.dst v := by
 rcases h.does with ⟨_, h, _⟩ | ⟨_, v, _, _, _, _, _, h, _⟩
 ·exact ⟨_, h⟩
 exact ⟨_, h⟩
theorem put_get (h : d ≠ some t ∨ n ≤ t) : (put n ts d v).get t = ts.get t := by
 unfold Ab.put
 cases d with
 | none => rfl
 | some d =>
  simp only
  by_cases hd : d < n
  ·have : Nat.blt d n = true := by rw [nblt]; simpa using hd
   rw [this]
   simp only [cond_true, Tr.get_set]
   rw [if_neg ?_]
   rintro rfl
   rcases h with h | h
   ·exact h rfl
   exact Nat.not_lt.2 h hd
  have : Nat.blt d n = false := by rw [nblt]; simpa using hd
  rw [this]
  rfl
theorem put_same (h : t < n) : (put n ts (some t) v).get t = some v := by
 unfold Ab.put
 have : Nat.blt t n = true := by rw [nblt]; simpa using h
 simp only [this, cond_true, Tr.get_set, if_true]
namespace Ctx
variable (C : Ctx P slf n base lo ops T M L R A)
include C
theorem tmpKeeps {t p : Nat} : ∀ (d : Nat), p + d ≤ ops.size → (n ≤ t ∨ ∀ j o, p ≤ j → j < p + d → ops[j]? = some o → o.dst ≠ some t) → (T (p + d)).get t = (T p).get t
 | 0, _, _ => rfl
 | d + 1, hd, h => by
  rw [← tmpKeeps d (by omega) (h.imp id fun h j o h1 h2 => h j o h1 (by omega))]
  have ho : ops[p + d]? = some ops[p + d] := Array.getElem?_eq_getElem (by omega)
  obtain ⟨inf, _, _, hs⟩ := C.step ho
  obtain ⟨v, hv⟩ := hs.put
  rw [show p + (d + 1) = p + d + 1 by omega, hv]
  refine put_get (h.symm.imp (fun h => h (p + d) _ (by omega) (by omega) ho) id)
end Ctx
end
end Go.Ab
namespace Go.Ab
variable [Vals]
section
variable {P : Program} [FactsOk P] {slf : Self} {n base lo : Nat} {ops : Array Oper} {T : Nat → Tr Value} {M : Nat → AW} {L : Nat → List Nat} {R : Nat → Option Nat} {A : Nat → List (Nat × Nat)}
structure Inv (P : Program) (n : Nat) (ops : Array Oper) (T : Nat → Tr Value) (M : Nat → AW) (ρ0 : Ren) (w0 : World) (ds : List Deferred) (S : Nat → Prop) (H : Nat) (mS : AW) (ρ : Ren) (w : World) (a : Act) : Prop where
 closed : ∀ i j, S i → (preAt ops i).testBit j = true → S j
 hle : H ≤ ops.size
 hst : ∀ j, Hst P ops T j → (S j ↔ j < H)
 late : ∀ j x, j < H → Amk P ops T j x → ¬ S j → mS.heap.get (M j).next = none ∧ (M H).heap.get (M j).next = some x
 rel : Rel P ρ mS w
 nx : mS.next = (M ops.size).next
 extra : ∀ j x, H ≤ j → Amk P ops T j x → S j → mS.heap.get (M j).next = some x
 rest : ∀ b, (∀ j x, Amk P ops T j x → (H ≤ j ∧ S j) ∨ (j < H ∧ ¬ S j) → b ≠ (M j).next) → mS.heap.get b = (M H).heap.get b
 free : ∀ j b, j < ops.size → ¬ S j → (M j).next ≤ b → b < (M (j + 1)).next → ρ b = none
 size : a.tmps.size = n
 nle : n ≤ dIx
 tmp : ∀ t, t < dIx → (t < n ∧ ∃ j o, ops[j]? = some o ∧ ¬ S j ∧ o.dst = some t) ∨ VRel ρ (((T ops.size).get t).getD undef) (a.tmps.getD t undef)
 tmp0 : ∀ t, t < dIx → (∀ j o, S j → ops[j]? = some o → o.dst ≠ some t) → VRel ρ (((T 0).get t).getD undef) (a.tmps.getD t undef)
 grow : Grow ρ0 ρ (M 0) mS w0 w
 defers : a.defers = ds
theorem act_put_get (a : Act) (d : Option Tmp) (v : Value) (t : Tmp) : (a.put d v).tmps.getD t undef = if d = some t ∧ t < a.tmps.size then v else a.tmps.getD t undef := by
 cases d with
 | none => simp [Act.put]
 | some d =>
  simp only [Act.put]
  by_cases hd : d = t
  ·subst hd
   by_cases hs : d < a.tmps.size
   ·rw [if_pos ⟨rfl, hs⟩, Array.getD_eq_getD_getElem?, Array.getElem?_setIfInBounds_self_of_lt hs]
    rfl
   rw [if_neg (fun h => hs h.2), Array.setIfInBounds_eq_of_size_le (Nat.le_of_not_lt hs)]
  rw [if_neg (fun h => hd (Option.some.inj h.1)), Array.getD_eq_getD_getElem?, Array.getElem?_setIfInBounds_ne hd, ← Array.getD_eq_getD_getElem?]
theorem act_put_size (a : Act) (d : Option Tmp) (v : Value) : (a.put d v).tmps.size = a.tmps.size := by
 cases d <;> simp [Act.put]
section
variable (C : Ctx P slf n base lo ops T M L R A) {ρ0 ρ ρ' : Ren} {w0 w w' : World} {ds : List Deferred} {S : Nat → Prop} {H : Nat} {mS mA m1 : AW} {a : Act} (I : Inv P n ops T M ρ0 w0 ds S H mS ρ w a)
 {i : Nat} {o : Oper} (ho : ops[i]? = some o)
include C I ho
theorem Inv.looked (hns : ¬ S i) (hrdy : ∀ j, (preAt ops i).testBit j = true → S j) (htd : t < dIx) (h : ∀ j oj, ops[j]? = some oj → oj.dst = some t → (preAt ops i).testBit j = true ∨ (preAt ops j).testBit i = true) : VRel ρ (((T i).get t).getD undef) (a.tmps.getD t undef) := by
 have hi : i < ops.size := (Array.getElem?_eq_some_iff.1 ho).1
 by_cases hlate : ∃ j oj, ops[j]? = some oj ∧ oj.dst = some t ∧ (preAt ops j).testBit i = true
 ·obtain ⟨j, oj, hj, hd, hb⟩ := hlate
  have hjl : j < ops.size := (Array.getElem?_eq_some_iff.1 hj).1
  have hij := C.tm.below j i hjl hb
  have hone : ∀ l ol, ops[l]? = some ol → ol.dst = some t → l = j := fun l ol hl hdl => C.tm.one l j ol oj t hl hj hdl hd
  have h0 := I.tmp0 t htd fun l ol hS hl hdl => by
   have := hone l ol hl hdl
   subst this
   exact hns (I.closed l i hS hb)
  have := C.tmpKeeps (t := t) (p := 0) i (by omega) (.inr fun l ol _ h2 hl hdl => by
   have := hone l ol hl hdl
   omega)
  rw [Nat.zero_add] at this
  rw [this]
  exact h0
 have h : ∀ j oj, ops[j]? = some oj → oj.dst = some t → (preAt ops i).testBit j = true := fun j oj hj hd => (h j oj hj hd).resolve_right fun hb => hlate ⟨j, oj, hj, hd, hb⟩
 rcases I.tmp t htd with ⟨_, j, oj, hj, hns, hd⟩ | h1
 ·exact absurd (hrdy j (h j oj hj hd)) hns
 have := C.tmpKeeps (t := t) (p := i) (ops.size - i) (by omega) (.inr fun j oj h2 h3 hj hd => by
  have := C.tm.below i j hi (h j oj hj hd)
  omega)
 rw [show i + (ops.size - i) = ops.size by omega] at this
 rw [← this]
 exact h1
theorem Inv.wants (hns : ¬ S i) (hrdy : ∀ j, (preAt ops i).testBit j = true → S j) : wantedA ops (T i) o = Region.wanted o (yielded ops a.tmps) := by
 refine wanted_at (ρ := ρ) ops o (by rw [I.size]; exact I.nle) fun g want t htd hg hd => I.looked C ho hns hrdy htd fun j oj hj hdj => ?_
 obtain ⟨og, hog, hdg⟩ := Option.bind_eq_some_iff.1 hd
 have := C.tm.one g j og oj t hog hj hdg hdj
 subst this
 exact .inl (C.tm.guards i g want o og t ho hg hog hdg)
theorem Inv.run (hns : ¬ S i) (hrdy : ∀ j, (preAt ops i).testBit j = true → S j) (hw : wantedA ops (T i) o = true) (h : doOp P slf (T i) o.op mA = some (.val v m1)) (hr : Rel P ρ mA w) (hf : Fresh ρ mA m1) {rest : List Nat} :
  ∃ ρ' w' v', Steps P (lone (on b a (.inRegion ops (i :: rest) :: k)) cs w) (lone (on b (a.put o.dst v') (.inRegion ops rest :: k)) cs w') ∧ Rel P ρ' m1 w' ∧ Grow ρ ρ' mA m1 w w' ∧ VRel ρ' v v' := by
 have hE : ERel P ρ (keepT (T i) o.op.operands.toList) (keepE a o.op.operands.toList) := keep_rel hr.glob fun t htd ht => by
  refine I.looked C ho hns hrdy htd fun j oj hj hd => C.tm.looks i j o oj t ho hj hd (opsOf_mem h (by simpa using ht))
 have hsel : ∀ cs b, o.op ≠ .select cs b := by
  intro cs b e
  rw [e] at h
  simp [doOp, cls, opH] at h
 have hx : execOp a.eval o = execOp (keepE a o.op.operands.toList) o := execOp_congr o hsel fun x hx => (keepE_in (by simpa using hx)).symm
 rw [doOp_congr (ts2 := keepT (T i) o.op.operands.toList) fun x hx => keep_ev (by simpa using hx)] at h
 exact op_follows (b := b) (k := k) (cs := cs) (rest := rest) C.sound ho (by rw [← I.wants C ho hns hrdy]; exact hw) hx hE hr h hf
theorem Inv.tmps_step (hns : ¬ S i) (hT : T (i + 1) = put n (T i) o.dst v) (hle : ρ.le ρ') (hv : VRel ρ' v v') (t : Tmp) (htd : t < dIx) :
  (t < n ∧ ∃ j oj, ops[j]? = some oj ∧ ¬ (S j ∨ j = i) ∧ oj.dst = some t) ∨ VRel ρ' (((T ops.size).get t).getD undef) ((a.put o.dst v').tmps.getD t undef) := by
 have hi : i < ops.size := (Array.getElem?_eq_some_iff.1 ho).1
 rw [act_put_get]
 by_cases h : o.dst = some t ∧ t < a.tmps.size
 ·rw [if_pos h]
  have hk := C.tmpKeeps (t := t) (p := i + 1) (ops.size - (i + 1)) (by omega) (.inr fun j oj h2 h3 hj hd => by
   have := C.tm.one i j o oj t ho hj h.1 hd
   omega)
  rw [show i + 1 + (ops.size - (i + 1)) = ops.size by omega, hT, h.1, put_same (by rw [← I.size]; exact h.2)] at hk
  rw [hk]
  exact .inr hv
 rw [if_neg h]
 rcases I.tmp t htd with ⟨h1, j, oj, hj, hnj, hd⟩ | h1
 ·refine .inl ⟨h1, j, oj, hj, ?_, hd⟩
  rintro (h2 | rfl)
  ·exact hnj h2
  rw [ho] at hj
  cases hj
  exact h ⟨hd, by rw [I.size]; exact h1⟩
 exact .inr (h1.mono hle)
theorem Inv.tmp0_step (hle : ρ.le ρ') (t : Tmp) (htd : t < dIx) (h : ∀ j oj, (S j ∨ j = i) → ops[j]? = some oj → oj.dst ≠ some t) : VRel ρ' (((T 0).get t).getD undef) ((a.put o.dst v').tmps.getD t undef) := by
 have _ := C
 rw [act_put_get, if_neg fun e => h i o (.inr rfl) ho e.1]
 exact (I.tmp0 t htd fun j oj hS => h j oj (.inl hS)).mono hle
theorem Inv.still (hns : ¬ S i) (hrdy : ∀ j, (preAt ops i).testBit j = true → S j) (hT : T (i + 1) = put n (T i) o.dst v) (hr : Rel P ρ' mS w') (hg : Grow ρ ρ' mS mS w w') (hv : VRel ρ' v v') (hh : ¬ Hst P ops T i) (ha : ∀ x, ¬ Amk P ops T i x) :
  Inv P n ops T M ρ0 w0 ds (fun j => S j ∨ j = i) H mS ρ' w' (a.put o.dst v') where
 closed := fun j l hj hb => by
  rcases hj with hj | rfl
  ·exact .inl (I.closed j l hj hb)
  exact .inl (hrdy l hb)
 hle := I.hle
 hst := fun j hj => by
  rw [← I.hst j hj]
  exact ⟨fun h => h.resolve_right fun e => hh (e ▸ hj), .inl⟩
 late := fun j x h1 h2 h3 => I.late j x h1 h2 fun h => h3 (.inl h)
 rel := hr
 nx := I.nx
 extra := fun j x h1 h2 h3 => I.extra j x h1 h2 (h3.resolve_right fun e => ha x (e ▸ h2))
 rest := fun b hb => I.rest b fun j x h1 h2 => hb j x h1 (h2.imp (fun h => ⟨h.1, .inl h.2⟩) fun h => ⟨h.1, fun h3 => h3.elim h.2 fun e => ha x (e ▸ h1)⟩)
 free := fun j b h1 h2 h3 h4 => by
  rw [hg.only b (Nat.lt_or_ge _ _)]
  exact I.free j b h1 (fun h => h2 (.inl h)) h3 h4
 size := by rw [act_put_size]; exact I.size
 nle := I.nle
 tmp := I.tmps_step C ho hns hT hg.le hv
 tmp0 := I.tmp0_step C ho hg.le
 grow := I.grow.glue hg (fun _ _ h => h) (by rw [I.nx]; exact C.nextLe (Nat.zero_le _) (Nat.le_refl _)) (Nat.le_refl _) rfl (fun _ h => .inl h) (fun _ h => .inl h)
 defers := by rw [Act.put_defers']; exact I.defers
end
end
end Go.Ab
namespace Go.Ab
variable [Vals]
theorem add_blocks (h : Tr AObj) (A : Nat → Option AObj → Prop) (id : Nat → Nat) (hu : ∀ j x y, A j x → A j y → x = y) (hj : ∀ i j x y, A i x → A j y → id i = id j → i = j) :
  ∀ N : Nat, ∃ h' : Tr AObj, (∀ j x, j < N → A j x → h'.get (id j) = x) ∧ (∀ b, (∀ j x, j < N → A j x → b ≠ id j) → h'.get b = h.get b)
 | 0 => ⟨h, fun j x hl => by omega, fun _ _ => rfl⟩
 | N + 1 => by
  obtain ⟨h', q1, q2⟩ := add_blocks h A id hu hj N
  by_cases e : ∃ x, A N x
  ·obtain ⟨x, hx⟩ := e
   refine ⟨h'.set (id N) x, fun j y hl hy => ?_, fun b hb => ?_⟩
   ·rw [Tr.get_set]
    by_cases e : id j = id N
    ·have := hj _ _ _ _ hy hx e
     subst this
     rw [if_pos rfl, hu _ _ _ hx hy]
    rw [if_neg e]
    refine q1 j y ?_ hy
    have : j ≠ N := fun e2 => e (by rw [e2])
    omega
   rw [Tr.get_set, if_neg (hb N x (by omega) hx)]
   exact q2 b fun j y hl hy => hb j y (by omega) hy
  refine ⟨h', fun j y hl hy => ?_, fun b hb => q2 b fun j y hl hy => hb j y (by omega) hy⟩
  refine q1 j y ?_ hy
  have : j ≠ N := fun e2 => e ⟨y, e2 ▸ hy⟩
  omega
section
variable {P : Program} [FactsOk P] {slf : Self} {n base lo : Nat} {ops : Array Oper} {T : Nat → Tr Value} {M : Nat → AW} {L : Nat → List Nat} {R : Nat → Option Nat} {A : Nat → List (Nat × Nat)}
theorem Amk.plain (h : Amk P ops T i x) (hE : ERel P ρ (T i) e) : mateOf x = none ∧ isRo x = false := by
 obtain ⟨o, f, h1, h2, h3, h4⟩ := h
 obtain ⟨s, _, q1, q2, _⟩ := opA_rel hE h4
 exact ⟨q1, q2⟩
namespace Ctx
variable (C : Ctx P slf n base lo ops T M L R A)
include C
theorem logNil (hj : j < ops.size) (hh : ¬ Hst P ops T j) : L j = [] := by
 have h1 : ops[j]? = some ops[j] := Array.getElem?_eq_getElem hj
 obtain ⟨inf, _, _, hs⟩ := C.step h1
 generalize M (j + 1) = m' at hs
 generalize T (j + 1) = t' at hs
 generalize hl : L j = lg at hs
 generalize R j = rd at hs
 generalize A (j + 1) = as' at hs
 cases hs with
 | call hw hc hk hp h => exact absurd ⟨_, h1, hw, hc⟩ hh
 | _ => rfl
theorem idBelow (h : Amk P ops T j x) : (M j).next < (M ops.size).next := by
 have h1 := (C.made h).2.1
 have := C.nextLe (i := j + 1) (j := ops.size) h.lt (Nat.le_refl _)
 omega
theorem notYet (h : Amk P ops T j x) (hp : p ≤ j) : (M p).heap.get (M j).next = none :=
 C.nj p _ (by have := h.lt; omega) (C.nextLe hp (Nat.le_of_lt h.lt)) (C.idBelow h)
variable {ρ0 ρ ρ' : Ren} {w0 w w' : World} {ds : List Deferred} {S : Nat → Prop} {H : Nat} {mS mA m1 : AW} {a : Act} (I : Inv P n ops T M ρ0 w0 ds S H mS ρ w a)
 {i : Nat} {o : Oper} (ho : ops[i]? = some o) (hns : ¬ S i) (hrdy : ∀ j, (preAt ops i).testBit j = true → S j)
include I ho hns hrdy
theorem sees (hno : ∀ j, H ≤ j → j < i → ¬ Hst P ops T j) (hno2 : ∀ j, i ≤ j → j < H → ¬ Hst P ops T j) (hb : (M i).heap.get b = some x) (hall : ∀ j y, j < i → Amk P ops T j y → b = (M j).next → S j) : mS.heap.get b = some x := by
 have hi : i < ops.size := (Array.getElem?_eq_some_iff.1 ho).1
 have hH := I.hle
 rcases Nat.le_total H i with hle | hle
 ·have hseg : i = H + (i - H) := by omega
  by_cases hx : ∃ j y, H ≤ j ∧ Amk P ops T j y ∧ S j ∧ b = (M j).next
  ·obtain ⟨j, y, h1, h2, h3, rfl⟩ := hx
   rcases Nat.lt_or_ge j i with hji | hji
   ·have := C.segMade (p := H) (d := i - H) (j := j) (x := y) (by omega) (fun j a b => hno j a (by omega)) h1 (by omega) h2
    rw [← hseg, hb] at this
    rw [I.extra j y h1 h2 h3]
    exact this.symm
   rw [C.notYet h2 hji] at hb
   cases hb
  rw [I.rest b fun j y h1 h2 e => by
   rcases h2 with h2 | h2
   ·exact hx ⟨j, y, h2.1, h1, h2.2, e⟩
   exact h2.2 (hall j y (by omega) h1 e)]
  have := C.seg (b := b) (p := H) (i - H) (by omega) (fun j a b => hno j a (by omega)) (fun j y a b2 hy e => hx ⟨j, y, a, hy, hall j y (by omega) hy e, e⟩)
  rw [← hseg] at this
  rw [← this]
  exact hb
 have hseg : H = i + (H - i) := by omega
 rw [I.rest b fun j y h1 h2 e => by
  rcases h2 with h2 | h2
  ·rw [e, C.notYet h1 (by omega)] at hb
   cases hb
  rcases Nat.lt_or_ge j i with hji | hji
  ·exact h2.2 (hall j y hji h1 e)
  rw [e, C.notYet h1 hji] at hb
  cases hb]
 have := C.seg (b := b) (p := i) (H - i) (by omega) (fun j a b => hno2 j a (by omega)) (fun j y a b2 hy e => by
  rw [e, C.notYet hy a] at hb
  cases hb)
 rw [← hseg] at this
 rw [this]
 exact hb
theorem sees_full (_hc : cls P o.op = .l) (hi : InfoOk P ops i o inf) (hf : inf.full = true) (hsn : seenB inf.pre b (A i) = true) (hb : (M i).heap.get b = some x) : mS.heap.get b = some x := by
 have hlt : i < ops.size := (Array.getElem?_eq_some_iff.1 ho).1
 have hH := I.hle
 refine C.sees I ho hns hrdy (fun j h1 h2 hh => ?_) (fun j h1 h2 hh => ?_) hb (fun j y h1 hy he => ?_)
 ·obtain ⟨oj, q1, q2, q3⟩ := hh
  rcases hi.fullOk hf j oj q1 q3 with h | h | h
  ·omega
  ·have := (I.hst j ⟨oj, q1, q2, q3⟩).1 (hrdy j h)
   omega
  have := C.tm.below j i (by omega) h
  omega
 ·obtain ⟨oj, q1, q2, q3⟩ := hh
  have hSj := (I.hst j ⟨oj, q1, q2, q3⟩).2 h2
  rcases hi.fullOk hf j oj q1 q3 with h | h | h
  ·exact hns (h ▸ hSj)
  ·have := C.tm.below i j hlt h
   omega
  exact hns (I.closed j i hSj h)
 have := seen_spec hsn ((C.asSpec i (Nat.le_of_lt hlt) j b).2 ⟨h1, he, y, hy⟩)
 exact hrdy j (by unfold preAt; rw [← hi.prec]; exact this)
theorem sees_low (hc : cls P o.op = .l) (hR : R i = some b) (hb : b < base) : mS.heap.get b = (M i).heap.get b := by
 have hlt : i < ops.size := (Array.getElem?_eq_some_iff.1 ho).1
 have hH := I.hle
 have hold : ∀ j, j ≤ ops.size → b < (M j).next := fun j hj => by
  have := C.nextLe (Nat.zero_le j) hj
  rw [← C.low] at this
  omega
 rw [I.rest b fun j y h1 _ e => by
  have := hold j (Nat.le_of_lt h1.lt)
  omega]
 have log : ∀ j, j < ops.size → (j < i → (preAt ops i).testBit j = false → b ∉ L j) ∧ (i < j → (preAt ops j).testBit i = false → b ∉ L j) := by
  intro j hj
  refine ⟨fun h1 h2 => ?_, fun h1 h2 => ?_⟩
  ·obtain ⟨inf, q1, q2, _⟩ := C.step ho
   exact (C.tr.2 i j o inf (Nat.zero_le _) h1 (by rw [Nat.sub_zero]; exact q2) (by rw [q1.prec]; exact h2)).1 b hR
  obtain ⟨inf, q1, q2, _⟩ := C.step (Array.getElem?_eq_getElem hj)
  exact (C.tr.2 j i _ inf (Nat.zero_le _) h1 (by rw [Nat.sub_zero]; exact q2) (by rw [q1.prec]; exact h2)).2 b hR
 rcases Nat.le_total H i with hle | hle
 ·have := C.segLog (b := b) (p := H) hb (i - H) (by omega) (fun j h1 h2 => by
   by_cases hh : Hst P ops T j
   ·cases hp : (preAt ops i).testBit j with
    | true =>
     have := (I.hst j hh).1 (hrdy j hp)
     omega
    | false => exact (log j (by omega)).1 (by omega) hp
   rw [C.logNil (by omega) hh]
   simp)
  rw [show H + (i - H) = i by omega] at this
  exact this.symm
 have := C.segLog (b := b) (p := i) hb (H - i) (by omega) (fun j h1 h2 => by
  by_cases hh : Hst P ops T j
  ·by_cases hji : j = i
   ·subst hji
    obtain ⟨oj, q1, _, q3⟩ := hh
    rw [ho] at q1
    cases q1
    rw [hc] at q3
    cases q3
   cases hp : (preAt ops j).testBit i with
   | true => exact absurd (I.closed j i ((I.hst j hh).2 (by omega)) hp) hns
   | false => exact (log j (by omega)).2 (by omega) hp
  rw [C.logNil (by omega) hh]
  simp)
 rw [show i + (H - i) = H by omega] at this
 exact this
theorem makes (hw : wantedA ops (T i) o = true) (hc : cls P o.op = .a) (h : opA P (T i) o.op = some (x, f)) (hT : T (i + 1) = put n (T i) o.dst (f (M i).next)) :
  ∃ mS' ρ' w' a', Steps P (lone (on b a (.inRegion ops (i :: rest) :: k)) cs w) (lone (on b a' (.inRegion ops rest :: k)) cs w') ∧ Inv P n ops T M ρ0 w0 ds (fun j => S j ∨ j = i) H mS' ρ' w' a' := by
 have hlt : i < ops.size := (Array.getElem?_eq_some_iff.1 ho).1
 have hA : Amk P ops T i x := ⟨o, f, ho, hw, hc, h⟩
 have hnx := (C.made hA).2.1
 have hd : doOp P slf (T i) o.op ⟨mS.heap, (M i).next, lo, []⟩ = some (.val (f (M i).next) ((⟨mS.heap, (M i).next, lo, []⟩ : AW).new x)) := by
  unfold doOp
  rw [hc]
  simp only [doA, h]
 have hrA : Rel P ρ ⟨mS.heap, (M i).next, lo, []⟩ w := I.rel.of_heap rfl rfl
 have hfr : Fresh ρ ⟨mS.heap, (M i).next, lo, []⟩ ((⟨mS.heap, (M i).next, lo, []⟩ : AW).new x) := fun q h1 h2 => I.free i q hlt hns h1 (by rw [hnx]; exact h2)
 obtain ⟨ρ', w', v', q1, q2, q3, q4⟩ := I.run C ho hns hrdy hw hd hrA hfr (b := b) (k := k) (cs := cs) (rest := rest)
 have hget : ∀ c, ((⟨mS.heap, (M i).next, lo, []⟩ : AW).new x).heap.get c = if c = (M i).next then some x else mS.heap.get c := fun c => AW.new_get _ _ _
 have hcls : ¬ Hst P ops T i := by
  rintro ⟨oj, e1, _, e3⟩
  rw [ho] at e1
  cases e1
  rw [hc] at e3
  cases e3
 refine ⟨⟨((⟨mS.heap, (M i).next, lo, []⟩ : AW).new x).heap, mS.next, lo, []⟩, ρ', w', a.put o.dst v', q1, ?_⟩
 refine { closed := ?_, hle := I.hle, hst := ?_, late := ?_, rel := q2.of_heap rfl rfl, nx := I.nx, extra := ?_, rest := ?_, free := ?_, size := ?_, nle := I.nle, tmp := I.tmps_step C ho hns hT q3.le q4, tmp0 := I.tmp0_step C ho q3.le, grow := ?_, defers := ?_ }
 ·intro j l hj hb
  rcases hj with hj | rfl
  ·exact .inl (I.closed j l hj hb)
  exact .inl (hrdy l hb)
 ·intro j hj
  rw [← I.hst j hj]
  exact ⟨fun h => h.resolve_right fun e => hcls (e ▸ hj), .inl⟩
 ·intro j y h1 h2 h3
  have e : j ≠ i := fun e => h3 (.inr e)
  show (AW.new _ x).heap.get _ = none ∧ _
  rw [hget, if_neg fun e2 => e (C.apartIds h2 hA e2)]
  exact I.late j y h1 h2 fun h => h3 (.inl h)
 ·intro j y h1 h2 h3
  show (AW.new _ x).heap.get _ = _
  rw [hget]
  by_cases e : j = i
  ·subst e
   rw [if_pos rfl, hA.uniq h2]
  rw [if_neg fun e2 => e (C.apartIds h2 hA e2)]
  exact I.extra j y h1 h2 (h3.resolve_right e)
 ·intro c hcc
  show (AW.new _ x).heap.get _ = _
  rw [hget]
  by_cases ec : c = (M i).next
  ·subst ec
   rw [if_pos rfl]
   rcases Nat.lt_or_ge i H with hl | hl
   ·exact (I.late i x hl hA hns).2.symm
   exact absurd rfl (hcc i x hA (.inl ⟨hl, .inr rfl⟩))
  rw [if_neg ec]
  refine I.rest c fun j y h1 h2 => ?_
  by_cases e : j = i
  ·subst e
   exact ec
  exact hcc j y h1 (h2.imp (fun h => ⟨h.1, .inl h.2⟩) fun h => ⟨h.1, fun h3 => h3.elim h.2 e⟩)
 ·intro j c h1 h2 h3 h4
  have hne : j ≠ i := fun e => h2 (.inr e)
  rw [q3.only c ?_]
  ·exact I.free j c h1 (fun h => h2 (.inl h)) h3 h4
  show c < (M i).next ∨ (M i).next + 1 ≤ c
  rcases Nat.lt_or_ge j i with hl | hl
  ·have := C.nextLe (i := j + 1) (j := i) hl (Nat.le_of_lt hlt)
   omega
  have := C.nextLe (i := i + 1) (j := j) (by omega) (Nat.le_of_lt h1)
  omega
 ·rw [act_put_size]; exact I.size
 ·refine I.grow.glue q3 (fun _ _ h => h) (C.nextLe (Nat.zero_le _) (Nat.le_of_lt hlt)) ?_ rfl (fun _ h => .inl h) (fun _ h => .inl h)
  rw [I.nx]
  show (M i).next + 1 ≤ _
  exact C.idBelow hA
 rw [Act.put_defers']; exact I.defers
end Ctx
end
end Go.Ab
namespace Go.Ab
variable [Vals]
section
variable {P : Program} [FactsOk P] {slf : Self} {n base lo : Nat} {ops : Array Oper} {T : Nat → Tr Value} {M : Nat → AW} {L : Nat → List Nat} {R : Nat → Option Nat} {A : Nat → List (Nat × Nat)}
namespace Ctx
variable (C : Ctx P slf n base lo ops T M L R A)
variable {ρ0 ρ ρ' : Ren} {w0 w w' : World} {ds : List Deferred} {S : Nat → Prop} {H : Nat} {mS mA m1 : AW} {a : Act} (I : Inv P n ops T M ρ0 w0 ds S H mS ρ w a)
 {i : Nat} {o : Oper} (ho : ops[i]? = some o) (hns : ¬ S i) (hrdy : ∀ j, (preAt ops i).testBit j = true → S j)
include C I ho hns hrdy
theorem calls (hpl : ∀ j x, Amk P ops T j x → mateOf x = none ∧ isRo x = false) (hi : InfoOk P ops i o inf) (hk : inf.hok = true) (hpB : plainB inf.pre (M i).heap (A i) = true) (hw : wantedA ops (T i) o = true) (hc : cls P o.op = .h)
  (h : doOp P slf (T i) o.op ⟨hideB inf.pre (A i) (M i).heap, (M i).next, base, []⟩ = some (.val v m1))
  (hT : T (i + 1) = put n (T i) o.dst v) (hM1 : (M (i + 1)).heap = showB inf.pre (M i).heap (A i) m1.heap) (hM2 : (M (i + 1)).next = m1.next) :
  ∃ mS' H' ρ' w' a', Steps P (lone (on b a (.inRegion ops (i :: rest) :: k)) cs w) (lone (on b a' (.inRegion ops rest :: k)) cs w') ∧ Inv P n ops T M ρ0 w0 ds (fun j => S j ∨ j = i) H' mS' ρ' w' a' := by
 have hlt : i < ops.size := (Array.getElem?_eq_some_iff.1 ho).1
 have hH : Hst P ops T i := ⟨o, ho, hw, hc⟩
 have hHi : H ≤ i := Nat.le_of_not_lt fun hl => hns ((I.hst i hH).2 hl)
 have hnA : ∀ x, ¬ Amk P ops T i x := by
  rintro x ⟨oj, f, e1, _, e3, _⟩
  rw [ho] at e1
  cases e1
  rw [hc] at e3
  cases e3
 have hnoH : ∀ j, H ≤ j → j < i → ¬ Hst P ops T j := fun j h1 h2 hh => by
  obtain ⟨oj, q1, q2, q3⟩ := hh
  have := (I.hst j ⟨oj, q1, q2, q3⟩).1 (hrdy j (hi.hokOk hk j oj h2 q1 q3))
  omega
 -- what the call does not see
 let hid : Nat → Prop := fun c => ∃ j x, j < i ∧ Amk P ops T j x ∧ c = (M j).next ∧ inf.pre.testBit j = false
 have hidA : ∀ c, hid c → ∃ j, (j, c) ∈ A i ∧ inf.pre.testBit j = false := fun c ⟨j, x, h1, h2, h3, h4⟩ => ⟨j, (C.asSpec i (by omega) j c).2 ⟨h1, h3, x, h2⟩, h4⟩
 have hidB : ∀ c, ¬ hid c → ∀ j, (j, c) ∈ A i → inf.pre.testBit j = true := fun c hn j hj => by
  obtain ⟨h1, h3, x, h2⟩ := (C.asSpec i (by omega) j c).1 hj
  cases hp : inf.pre.testBit j with
  | true => rfl
  | false => exact absurd ⟨j, x, h1, h2, h3, hp⟩ hn
 have hAin : ∀ c, hid c → (hideB inf.pre (A i) (M i).heap).get c = none := fun c hc2 => by
  obtain ⟨j, h1, h2⟩ := hidA c hc2
  exact hide_in h1 h2
 have hAout : ∀ c, ¬ hid c → (hideB inf.pre (A i) (M i).heap).get c = (M i).heap.get c := fun c hc2 => hide_out (hidB c hc2)
 have hMin : ∀ c, hid c → (M (i + 1)).heap.get c = (M i).heap.get c := fun c hc2 => by
  obtain ⟨j, h1, h2⟩ := hidA c hc2
  rw [hM1]
  exact show_in h1 h2
 have hMout : ∀ c, ¬ hid c → (M (i + 1)).heap.get c = m1.heap.get c := fun c hc2 => by
  rw [hM1]
  exact show_out (hidB c hc2)
 have hsub : ∀ c y, (hideB inf.pre (A i) (M i).heap).get c = some y → mS.heap.get c = some y := fun c y hy => by
  by_cases hx : hid c
  ·rw [hAin c hx] at hy
   cases hy
  rw [hAout c hx] at hy
  refine C.sees I ho hns hrdy hnoH (fun j h1 h2 => by omega) hy fun j z h1 h2 h3 => ?_
  cases hp : inf.pre.testBit j with
  | true => exact hrdy j (by unfold preAt; rw [← hi.prec]; exact hp)
  | false => exact absurd ⟨j, z, h1, h2, h3, hp⟩ hx
 -- a block made before that has been made: it lies as in the order of the text
 have hidVal : ∀ j x, j < i → Amk P ops T j x → S j → mS.heap.get (M j).next = (M i).heap.get (M j).next := by
  intro j x h1 h2 h3
  rcases Nat.lt_or_ge j H with hl | hl
  ·rw [I.rest _ fun l y hy hor e => by
    have := C.apartIds h2 hy e
    subst this
    rcases hor with hor | hor
    ·omega
    exact hor.2 h3]
   have := C.seg (b := (M j).next) (p := H) (i - H) (by omega) (fun l a b => hnoH l a (by omega)) (fun l y a b hy e => by
    have := C.apartIds h2 hy e
    omega)
   rw [show H + (i - H) = i by omega] at this
   exact this.symm
  rw [I.extra j x hl h2 h3]
  have := C.segMade (p := H) (d := i - H) (j := j) (x := x) (by omega) (fun l a b => hnoH l a (by omega)) hl (by omega) h2
  rw [show H + (i - H) = i by omega] at this
  exact this.symm
 have hrA : Rel P ρ ⟨hideB inf.pre (A i) (M i).heap, (M i).next, base, []⟩ w := I.rel.sub hsub
 have hfr : Fresh ρ ⟨hideB inf.pre (A i) (M i).heap, (M i).next, base, []⟩ m1 := fun q h1 h2 => I.free i q hlt hns h1 (by rw [hM2]; exact h2)
 obtain ⟨ρ', w', v', q1, q2, q3, q4⟩ := I.run C ho hns hrdy hw h hrA hfr (b := b) (k := k) (cs := cs) (rest := rest)
 have hextra : ∀ j x, i < j → S j → Amk P ops T j x → mS.heap.get (M j).next = some x := fun j x h1 h2 h3 => I.extra j x (by omega) h3 h2
 -- the memory behind the call
 obtain ⟨hp, p1, p2⟩ := add_blocks m1.heap (fun j y => ∃ x, Amk P ops T j x ∧ ((i < j ∧ S j ∧ y = some x) ∨ (j < i ∧ inf.pre.testBit j = false ∧ S j ∧ y = mS.heap.get (M j).next) ∨ (j < i ∧ inf.pre.testBit j = false ∧ ¬ S j ∧ y = none)))
  (fun j => (M j).next)
  (fun j y z ⟨x1, a1, a2⟩ ⟨x2, b1, b2⟩ => by
   have := a1.uniq b1
   subst this
   rcases a2 with ⟨e1, e2, rfl⟩ | ⟨e1, _, e2, rfl⟩ | ⟨e1, _, e2, rfl⟩ <;> rcases b2 with ⟨f1, f2, rfl⟩ | ⟨f1, _, f2, rfl⟩ | ⟨f1, _, f2, rfl⟩ <;> first | rfl | omega | exact absurd e2 f2 | exact absurd f2 e2)
  (fun j l y z ⟨x1, a1, _⟩ ⟨x2, b1, _⟩ e => C.apartIds a1 b1 e) ops.size
 let X : Nat → Prop := fun c => ∃ j x, Amk P ops T j x ∧ c = (M j).next ∧ S j ∧ (i < j ∨ (j < i ∧ inf.pre.testBit j = false))
 have hXn : ∀ c, X c → (hideB inf.pre (A i) (M i).heap).get c = none := by
  rintro c ⟨j, x, h1, h2, h3, h4⟩
  by_cases hx : hid c
  ·exact hAin c hx
  rw [hAout c hx]
  rcases h4 with h4 | h4
  ·rw [h2]
   exact C.notYet h1 (by omega)
  exact absurd ⟨j, x, h4.1, h1, h2, h4.2⟩ hx
 have hXp : ∀ c y, X c → mS.heap.get c = some y → mateOf y = none ∧ isRo y = false := by
  rintro c y ⟨j, x, h1, h2, h3, h4⟩ hy
  rcases h4 with h4 | h4
  ·rw [h2, hextra j x h4 h3 h1] at hy
   cases hy
   exact hpl j _ h1
  obtain ⟨l, g1, g2⟩ := hidA c ⟨j, x, h4.1, h1, h2, h4.2⟩
  have := plain_in hpB g1 g2
  rw [h2, ← hidVal j x h4.1 h1 h3, ← h2, hy] at this
  exact plainO_spec this
 have hX' : ∀ c y, (⟨hp, mS.next, lo, []⟩ : AW).heap.get c = some y → (X c ∧ mS.heap.get c = some y) ∨ (¬ X c ∧ m1.heap.get c = some y) := by
  intro c y hy
  by_cases e : ∃ j z, (∃ x, Amk P ops T j x ∧ ((i < j ∧ S j ∧ z = some x) ∨ (j < i ∧ inf.pre.testBit j = false ∧ S j ∧ z = mS.heap.get (M j).next) ∨ (j < i ∧ inf.pre.testBit j = false ∧ ¬ S j ∧ z = none))) ∧ c = (M j).next
  ·obtain ⟨j, z, ⟨x, e1, e2⟩, rfl⟩ := e
   have := p1 j z e1.lt ⟨x, e1, e2⟩
   rw [show hp.get (M j).next = some y from hy] at this
   subst this
   rcases e2 with ⟨f1, f2, f3⟩ | ⟨f1, f2, f3, f4⟩ | ⟨_, _, _, f4⟩
   ·cases f3
    exact .inl ⟨⟨j, _, e1, rfl, f2, .inl f1⟩, hextra j _ f1 f2 e1⟩
   ·exact .inl ⟨⟨j, x, e1, rfl, f3, .inr ⟨f1, f2⟩⟩, f4.symm⟩
   cases f4
  have := p2 c fun j z _ h2 h3 => e ⟨j, z, h2, h3⟩
  rw [show hp.get c = some y from hy] at this
  refine .inr ⟨?_, this.symm⟩
  rintro ⟨j, x, h1, h2, h3, h4⟩
  rcases h4 with h4 | h4
  ·exact e ⟨j, some x, ⟨x, h1, .inl ⟨h4, h3, rfl⟩⟩, h2⟩
  exact e ⟨j, mS.heap.get (M j).next, ⟨x, h1, .inr (.inl ⟨h4.1, h4.2, h3, rfl⟩)⟩, h2⟩
 obtain ⟨hrel, hown, hocc⟩ := Rel.beside (m' := ⟨hp, mS.next, lo, []⟩) I.rel hsub q2 q3 X hXn hXp hX'
 refine ⟨⟨hp, mS.next, lo, []⟩, i + 1, ρ', w', a.put o.dst v', q1, ?_⟩
 refine { closed := ?_, hle := hlt, hst := ?_, late := ?_, rel := hrel, nx := I.nx, extra := ?_, rest := ?_, free := ?_, size := ?_, nle := I.nle, tmp := I.tmps_step C ho hns hT q3.le q4, tmp0 := I.tmp0_step C ho q3.le, grow := ?_, defers := ?_ }
 ·intro j l hj hb
  rcases hj with hj | rfl
  ·exact .inl (I.closed j l hj hb)
  exact .inl (hrdy l hb)
 ·intro j hj
  constructor
  ·rintro (h1 | rfl)
   ·have := (I.hst j hj).1 h1
    omega
   omega
  intro h1
  by_cases e : j = i
  ·exact .inr e
  refine .inl ((I.hst j hj).2 ?_)
  exact Nat.lt_of_not_le fun hle => hnoH j hle (by omega) hj
 ·intro j x h1 h2 h3
  have hne : j ≠ i := fun e => h3 (.inr e)
  have hji : j < i := by omega
  have hnS : ¬ S j := fun h => h3 (.inl h)
  have hbit : inf.pre.testBit j = false := by
   cases hb : inf.pre.testBit j with
   | false => rfl
   | true => exact absurd (hrdy j (by unfold preAt; rw [← hi.prec]; exact hb)) hnS
  refine ⟨p1 j none h2.lt ⟨x, h2, .inr (.inr ⟨hji, hbit, hnS, rfl⟩)⟩, ?_⟩
  rw [hMin _ ⟨j, x, hji, h2, rfl, hbit⟩]
  rcases Nat.lt_or_ge j H with hl | hl
  ·have := C.seg (b := (M j).next) (p := H) (i - H) (by omega) (fun l a b => hnoH l a (by omega)) (fun l y a b hy e => by
    have := C.apartIds h2 hy e
    omega)
   rw [show H + (i - H) = i by omega] at this
   rw [this]
   exact (I.late j x hl h2 hnS).2
  have := C.segMade (p := H) (d := i - H) (j := j) (x := x) (by omega) (fun l a b => hnoH l a (by omega)) hl (by omega) h2
  rw [show H + (i - H) = i by omega] at this
  exact this
 ·intro j x h1 h2 h3
  exact p1 j (some x) h2.lt ⟨x, h2, .inl ⟨by omega, h3.resolve_right (by omega), rfl⟩⟩
 ·intro c hcc
  by_cases hx : hid c
  ·obtain ⟨j, x, h1, h2, h3, h4⟩ := hx
   have hSj : S j := by
    by_cases hs : S j
    ·exact hs
    refine absurd h3 (hcc j x h2 (.inr ⟨by omega, fun hor => ?_⟩))
    rcases hor with hor | hor
    ·exact hs hor
    omega
   rw [hMin c ⟨j, x, h1, h2, h3, h4⟩, h3]
   have := p1 j _ h2.lt ⟨x, h2, .inr (.inl ⟨h1, h4, hSj, rfl⟩)⟩
   rw [show (⟨hp, mS.next, lo, []⟩ : AW).heap.get (M j).next = hp.get (M j).next from rfl, this]
   exact hidVal j x h1 h2 hSj
  rw [hMout c hx]
  refine p2 c fun j y h1 h2 e => ?_
  obtain ⟨x, e1, e2⟩ := h2
  rcases e2 with ⟨f1, f2, _⟩ | ⟨f1, f2, _⟩ | ⟨f1, f2, _⟩
  ·exact hcc j x e1 (.inl ⟨f1, .inl f2⟩) e
  ·exact hx ⟨j, x, f1, e1, e, f2⟩
  exact hx ⟨j, x, f1, e1, e, f2⟩
 ·intro j c h1 h2 h3 h4
  have hne : j ≠ i := fun e => h2 (.inr e)
  rw [q3.only c ?_]
  ·exact I.free j c h1 (fun h => h2 (.inl h)) h3 h4
  rw [← hM2]
  show c < (M i).next ∨ _
  rcases Nat.lt_or_ge j i with hl | hl
  ·have := C.nextLe (i := j + 1) (j := i) hl (Nat.le_of_lt hlt)
   omega
  have := C.nextLe (i := i + 1) (j := j) (by omega) (Nat.le_of_lt h1)
  omega
 ·rw [act_put_size]; exact I.size
 ·refine I.grow.glue q3 hsub (C.nextLe (Nat.zero_le _) (Nat.le_of_lt hlt)) ?_ rfl hown hocc
  rw [I.nx, ← hM2]
  exact C.nextLe hlt (Nat.le_refl _)
 rw [Act.put_defers']; exact I.defers
theorem oneMore (hpl : ∀ j x, Amk P ops T j x → mateOf x = none ∧ isRo x = false) :
  ∃ mS' H' ρ' w' a', Steps P (lone (on b a (.inRegion ops (i :: rest) :: k)) cs w) (lone (on b a' (.inRegion ops rest :: k)) cs w') ∧ Inv P n ops T M ρ0 w0 ds (fun j => S j ∨ j = i) H' mS' ρ' w' a' := by
 obtain ⟨inf, hinf, _, hs⟩ := C.step ho
 have hnA : cls P o.op ≠ .a ∨ wantedA ops (T i) o = false → ∀ x, ¬ Amk P ops T i x := by
  rintro hne x ⟨oj, f, e1, e2, e3, _⟩
  rw [ho] at e1
  cases e1
  rcases hne with hne | hne
  ·exact hne e3
  rw [hne] at e2
  cases e2
 have hnH : cls P o.op ≠ .h ∨ wantedA ops (T i) o = false → ¬ Hst P ops T i := by
  rintro hne ⟨oj, e1, e2, e3⟩
  rw [ho] at e1
  cases e1
  rcases hne with hne | hne
  ·exact hne e3
  rw [hne] at e2
  cases e2
 have val : ∀ v, wantedA ops (T i) o = true → T (i + 1) = put n (T i) o.dst v → doOp P slf (T i) o.op mS = some (.val v mS) → ¬ Hst P ops T i → (∀ x, ¬ Amk P ops T i x) →
   ∃ mS' H' ρ' w' a', Steps P (lone (on b a (.inRegion ops (i :: rest) :: k)) cs w) (lone (on b a' (.inRegion ops rest :: k)) cs w') ∧ Inv P n ops T M ρ0 w0 ds (fun j => S j ∨ j = i) H' mS' ρ' w' a' := by
  intro v hw hT hd hh ha
  obtain ⟨ρ', w', v', q1, q2, q3, q4⟩ := I.run C ho hns hrdy hw hd I.rel (fun q h1 h2 => by omega) (b := b) (k := k) (cs := cs) (rest := rest)
  exact ⟨mS, H, ρ', w', _, q1, I.still C ho hns hrdy hT q2 q3 q4 hh ha⟩
 generalize hm' : M (i + 1) = m' at hs
 generalize ht' : T (i + 1) = t' at hs
 generalize hl' : L i = lg at hs
 generalize hr' : R i = rd at hs
 generalize A (i + 1) = as' at hs
 cases hs with
 | skip hw =>
  refine ⟨mS, H, ρ, w, a.put o.dst undef, .one ?_, I.still C ho hns hrdy ht' I.rel (.refl _ _ _) (undef_rel _) (hnH (.inr hw)) (hnA (.inr hw))⟩
  have := on_op_skip (P := P) (b := b) (a := a) (k := k) (cs := cs) (w := w) (ops := ops) (i := i) (rest := rest) (by rw [ho]; simp only [Option.map_some, Option.getD_some]; rw [← I.wants C ho hns hrdy]; exact hw)
  rw [ho] at this
  exact this
 | pure hw hc h => exact val _ hw ht' (by unfold doOp; rw [hc]; simp only [doP, h]) (hnH (.inl (by rw [hc]; simp))) (hnA (.inl (by rw [hc]; simp)))
 | imm hw hc h => exact val _ hw ht' (by unfold doOp; rw [hc]; simp only [doL, h]) (hnH (.inl (by rw [hc]; simp))) (hnA (.inl (by rw [hc]; simp)))
 | full hw hc h hv hf hsn =>
  obtain ⟨x, hx1, hx2⟩ := Option.bind_eq_some_iff.1 hv
  have := C.sees_full I ho hns hrdy hc hinf hf hsn hx1
  exact val _ hw ht' (by unfold doOp; rw [hc]; simp only [doL, h, this, Option.bind_some, hx2]) (hnH (.inl (by rw [hc]; simp))) (hnA (.inl (by rw [hc]; simp)))
 | read hw hc h hv hb =>
  have := C.sees_low I ho hns hrdy hc hr' hb
  exact val _ hw ht' (by unfold doOp; rw [hc]; simp only [doL, h, this, hv]) (hnH (.inl (by rw [hc]; simp))) (hnA (.inl (by rw [hc]; simp)))
 | make hw hc h =>
  obtain ⟨mS', ρ', w', a', q1, q2⟩ := C.makes I ho hns hrdy hw hc h ht' (b := b) (k := k) (cs := cs) (rest := rest)
  exact ⟨mS', H, ρ', w', a', q1, q2⟩
 | call hw hc hk hp h => exact C.calls I ho hns hrdy hpl hinf hk hp hw hc h ht' (by rw [hm']) (by rw [hm'])
end Ctx
end
end Go.Ab
namespace Go.Ab
variable [Vals]
theorem fold_keeps (acc : List Nat) (j : Nat) : ∀ (es : List Edge) (s : Nat), s.testBit j = true → (es.foldl (fun s e => bif Region.binds .any e then s ||| (2 ^ e.on) ||| (acc.getD e.on 0) else s) s).testBit j = true
 | [], _, h => h
 | e :: es, s, h => by
  rw [List.foldl_cons]
  refine fold_keeps acc j es _ ?_
  cases Region.binds .any e with
  | true => simp [Nat.testBit_or, h]
  | false => exact h
theorem fold_edge (acc : List Nat) {e : Edge} (hb : Region.binds .any e = true) : ∀ (es : List Edge) (s : Nat), e ∈ es → (es.foldl (fun s e => bif Region.binds .any e then s ||| (2 ^ e.on) ||| (acc.getD e.on 0) else s) s).testBit e.on = true
 | [], _, h => by cases h
 | x :: es, s, h => by
  rw [List.foldl_cons]
  cases h with
  | head =>
   refine fold_keeps acc _ es _ ?_
   rw [hb]
   simp [Nat.testBit_or]
  | tail _ h => exact fold_edge acc hb es _ h
theorem pre_edge (ho : os[i]? = some o) (he : e ∈ o.after) (hb : Region.binds .any e = true) : ((preds os).getD i 0).testBit e.on = true := by
 obtain ⟨h1, _, h3⟩ := predsGo_spec os []
 have hi := h3 i o ho
 simp only [List.length_nil, Nat.zero_add] at hi
 have e1 : (preds os).getD i 0 = preOf ((preds os).take i) o := by
  unfold preds
  rw [List.getD_eq_getElem?_getD, hi]
  rfl
 rw [e1]
 exact fold_edge _ hb _ 0 (by simpa using he)
def cnt (f : Nat → Bool) : Nat → Nat
 | 0 => 0
 | k + 1 => cnt f k + bif f k then 1 else 0
theorem cnt_same {f g : Nat → Bool} : ∀ {k : Nat}, (∀ j, j < k → f j = g j) → cnt f k = cnt g k
 | 0, _ => rfl
 | k + 1, h => by simp only [cnt, cnt_same (k := k) fun j hj => h j (by omega), h k (by omega)]
theorem cnt_less {f g : Nat → Bool} {i : Nat} (hf : f i = true) (hg : g i = false) : ∀ {k : Nat}, i < k → (∀ j, j ≠ i → f j = g j) → cnt f k = cnt g k + 1
 | 0, h, _ => by omega
 | k + 1, h, hs => by
  simp only [cnt]
  by_cases e : k = i
  ·subst e
   rw [hf, hg, cnt_same fun j hj => hs j (by omega)]
   simp
  rw [cnt_less hf hg (k := k) (by omega) hs, hs k e]
  omega
theorem cnt_zero {f : Nat → Bool} : ∀ {k : Nat}, cnt f k = 0 → ∀ j, j < k → f j = false
 | 0, _, j, hj => by omega
 | k + 1, h, j, hj => by
  simp only [cnt] at h
  by_cases e : j = k
  ·subst e
   cases hf : f j with
   | false => rfl
   | true => rw [hf] at h; simp at h
  exact cnt_zero (k := k) (by
   cases hf : f k with
   | false => rw [hf] at h; simpa using h
   | true => rw [hf] at h; simp at h) j (by omega)
section
variable {P : Program} [FactsOk P] {slf : Self} {n base lo : Nat} {ops : Array Oper} {T : Nat → Tr Value} {M : Nat → AW} {L : Nat → List Nat} {R : Nat → Option Nat} {A : Nat → List (Nat × Nat)}
variable {ρ0 : Ren} {w0 : World} {ds : List Deferred}
theorem Inv.all (I : Inv P n ops T M ρ0 w0 ds S H mS ρ w a) (h : ∀ j, S j ↔ S' j) : Inv P n ops T M ρ0 w0 ds S' H mS ρ w a := by
 have : S = S' := funext fun j => propext (h j)
 rw [← this]
 exact I
theorem draw_run (C : Ctx P slf n base lo ops T M L R A) (hpl : ∀ j x, Amk P ops T j x → mateOf x = none ∧ isRo x = false) :
    ∀ (fuel t : Nat) (listed : Array Bool) (H : Nat) (mS : AW) (ρ : Ren) (w : World) (a : Act), listed.size = ops.size → cnt (fun j => !listed.getD j true) ops.size ≤ fuel → Inv P n ops T M ρ0 w0 ds (fun j => listed.getD j false = true) H mS ρ w a →
      ∃ H' mS' ρ' w' a', Steps P (lone (on b a (.inRegion ops (Region.linearise.go .any ops fuel t listed []) :: k)) cs w) (lone (on b a' k) cs w') ∧ Inv P n ops T M ρ0 w0 ds (fun j => j < ops.size) H' mS' ρ' w' a' := by
  have same : ∀ (listed : Array Bool), listed.size = ops.size → ∀ j, j < ops.size → listed.getD j true = listed.getD j false := by
    intro listed hs j hj
    simp [Array.getD_eq_getD_getElem?, Array.getElem?_eq_getElem (hs ▸ hj)]
  have out : ∀ (listed : Array Bool), listed.size = ops.size → ∀ j, listed.getD j false = true → j < ops.size := by
    intro listed hs j hj
    rcases Nat.lt_or_ge j ops.size with h | h
    · exact h
    · rw [Array.getD_eq_getD_getElem?, Array.getElem?_eq_none (by omega)] at hj
      cases hj
  intro fuel
  induction fuel with
  | zero =>
    intro t listed H mS ρ w a hs hc I
    have hall := cnt_zero (Nat.le_zero.1 hc)
    refine ⟨H, mS, ρ, w, a, ?_, I.all fun j => ⟨out listed hs j, fun hj => ?_⟩⟩
    · simp only [Region.linearise.go, List.reverse_nil]
      exact .one on_region_end
    · have := hall j hj
      rw [← same listed hs j hj]
      simpa using this
  | succ fuel ih =>
    intro t listed H mS ρ w a hs hc I
    simp only [Region.linearise.go]
    change ∃ H' mS' ρ' w' a', Steps P (lone (on b a (.inRegion ops (match (Region.ready .any ops listed)[t % (Region.ready .any ops listed).length]? with
      | some i => Region.linearise.go .any ops fuel (t / (Region.ready .any ops listed).length) (listed.setIfInBounds i true) [i]
      | none => [].reverse) :: k)) cs w) _ ∧ _
    cases hi : (Region.ready .any ops listed)[t % (Region.ready .any ops listed).length]? with
    | none =>
      have hnil : Region.ready .any ops listed = [] := by
        cases hr : Region.ready .any ops listed with
        | nil => rfl
        | cons x xs =>
          rw [hr] at hi
          have hlt : t % (x :: xs).length < (x :: xs).length := Nat.mod_lt _ (by simp)
          simp at hi
          simp at hlt
          omega
      have hall : ∀ j, j < ops.size → listed.getD j false = true := by
        intro j
        induction j using Nat.strongRecOn with
        | ind j ihj =>
          intro hj
          cases hx : listed.getD j false with
          | true => rfl
          | false =>
            have : j ∈ Region.ready .any ops listed := by
              rw [mem_ready]
              refine ⟨by rw [same listed hs j hj]; exact hx, ops[j], Array.getElem?_eq_getElem hj, fun e he hb => ?_⟩
              have h1 := pre_edge (os := ops.toList) (i := j) (o := ops[j]) (by simp [hj]) he hb
              have h2 := C.tm.below j e.on hj h1
              exact ihj e.on h2 (by omega)
            rw [hnil] at this
            cases this
      exact ⟨H, mS, ρ, w, a, .one on_region_end, I.all fun j => ⟨out listed hs j, hall j⟩⟩
    | some i =>
      simp only
      rw [linearise_go_acc, List.reverse_singleton, List.singleton_append]
      have hmem := List.mem_of_getElem? hi
      rw [mem_ready] at hmem
      obtain ⟨h0, o, ho, hedges⟩ := hmem
      have hlt : i < ops.size := (Array.getElem?_eq_some_iff.1 ho).1
      have hrdy : ∀ j, (preAt ops i).testBit j = true → listed.getD j false = true := by
        intro j hj
        obtain ⟨e, q1, q2, q3⟩ := pre_spec (os := ops.toList) (i := i) (o := o) (by simpa using ho) hj
        rcases q3 with rfl | q3
        · exact hedges e q1 q2
        · exact I.closed e.on j (hedges e q1 q2) q3
      have hns : ¬ (listed.getD i false = true) := by
        rw [← same listed hs i hlt, h0]
        simp
      obtain ⟨mS1, H1, ρ1, w1, a1, q1, q2⟩ := C.oneMore I ho hns hrdy hpl (b := b) (k := k) (cs := cs) (rest := Region.linearise.go .any ops fuel (t / (Region.ready .any ops listed).length) (listed.setIfInBounds i true) [])
      have hset : ∀ j, (listed.setIfInBounds i true).getD j false = true ↔ (listed.getD j false = true ∨ j = i) := by
        intro j
        by_cases e : i = j
        · subst e
          simp [hs, hlt]
        · rw [getD_set_ne false e]
          constructor
          · exact .inl
          · exact fun h => h.resolve_right fun e2 => e e2.symm
      obtain ⟨H', mS', ρ', w', a', r1, r2⟩ := ih (t / (Region.ready .any ops listed).length) (listed.setIfInBounds i true) H1 mS1 ρ1 w1 a1 (by simpa using hs) (by
        have := cnt_less (f := fun j => !listed.getD j true) (g := fun j => !(listed.setIfInBounds i true).getD j true) (i := i) (by simp [h0]) (by simp [hs, hlt]) (k := ops.size) hlt (fun j hj => by
          show (!listed.getD j true) = !(listed.setIfInBounds i true).getD j true
          rw [getD_set_ne true (Ne.symm hj)])
        omega) (q2.all fun j => (hset j).symm)
      exact ⟨H', mS', ρ', w', a', q1.trans r1, r2⟩
end
end Go.Ab
namespace Go.Ab
variable [Vals]
section
variable {P : Program} [FactsOk P] {self : Self}
variable (hM : ∀ fr t m out, self fr t m = some out → Mono m out.m) (hS : ∀ fr t m out, self fr t m = some out → Sound P fr t m out)
include hM hS
theorem drawA_follows (hmx : P.follows .mixedOrders = true) {id : Nat} {ops : Array Oper} {fr : AFr} {m : AW} {out : Out} (h : drawA P self fr ops (ops.toList.zip (infos P ops.toList)) m = some out) : Follows P fr m out (Starts (.region id ops true)) := by
  intro ρ w b a n0 k cs todo hnr hr hf hok hn hst
  have htodo : todo = .code (.region id ops true) :: k := by
    rcases hst with h | ⟨_, h, _⟩
    · exact h
    · cases h
  subst htodo
  unfold drawA at h
  obtain ⟨hc, h⟩ := bif_some h
  simp only [Bool.and_eq_true] at hc
  obtain ⟨T, M, L, R, A, t1, t2, ta, t3, t4, t5, htr, _⟩ := dops_trace (P := P) (self := self) (n := fr.n) (ops := ops) (base := m.next) (lo := m.lo) (ops.toList.zip (infos P ops.toList)) 0 [] [] [] fr.ts m out
    (fun i o inf hk => ⟨by rw [(infos_ok hk).num, Nat.zero_add], (infos_ok hk).kind⟩) h
  have hlen : (ops.toList.zip (infos P ops.toList)).length = ops.size := by simp [infos]
  rw [Nat.zero_add, hlen] at t3 t4
  have hat : ∀ (k : Nat) o inf, (ops.toList.zip (infos P ops.toList))[k]? = some (o, inf) → ops[k]? = some o := fun i o inf hk => (infos_ok hk).at_
  have hr0 : Rel P ρ (M 0) w := by rw [t2]; exact hr
  have hf0 : Fresh ρ (M 0) (M ops.size) := by rw [t2, t4]; exact hf
  have ht0 : TsRel ρ fr.n (T 0) a.tmps := by rw [t1]; exact hok.tmps
  have C : Ctx P self fr.n m.next m.lo ops T M L R A := {
    mono := hM
    sound := hS
    tr := htr
    a0 := ta
    tm := tmps_ok hc.2
    nj := fun i c h1 h2 h3 => no_junk hM hS htr hat hr0 (by rw [hlen]; exact hf0) ht0 (by rw [hlen]; exact h1) h2 (by rw [hlen]; exact h3)
    low := by rw [t2] }
  have hpl : ∀ j x, Amk P ops T j x → mateOf x = none ∧ isRo x = false := by
    intro j x hx
    obtain ⟨ρ1, w1, a1, q1, _, q3⟩ := ghost_run hM hS htr hat hr0 (by rw [hlen]; exact hf0) ht0 j (by rw [hlen]; exact Nat.le_of_lt hx.lt)
    exact hx.plain (erel_of q3 q1.glob)
  have g0 : Grow ρ ρ (M 0) ⟨m.heap, (M ops.size).next, m.lo, []⟩ w { w with drawn := w.drawn + 1 } := {
    le := .refl _
    only := fun _ _ => rfl
    rest := ⟨rfl, rfl, rfl⟩
    size := Nat.le_refl _
    keep := fun _ _ _ => rfl
    own := fun B hB => .inl (by rw [t2]; exact hB)
    next := C.nextLe (Nat.zero_le _) (Nat.le_refl _)
    occ := fun B hB => .inl (by rw [t2]; exact hB) }
  have I : Inv P fr.n ops T M ρ w a.defers (fun j => (Array.replicate ops.size false).getD j false = true) 0 ⟨m.heap, (M ops.size).next, m.lo, []⟩ ρ { w with drawn := w.drawn + 1 } a := by
    have hno : ∀ j, ¬ ((Array.replicate ops.size false).getD j false = true) := by
      intro j
      rw [Array.getD_eq_getD_getElem?, Array.getElem?_replicate]
      split <;> simp
    refine { closed := fun i j h => absurd h (hno i), hle := Nat.zero_le _, hst := fun j _ => ⟨fun h => absurd h (hno j), fun h => by omega⟩, late := fun j x h => by omega, rel := hr.of_heap rfl rfl, nx := rfl, extra := fun j x _ _ h => absurd h (hno j), rest := fun c _ => by rw [t2], free := ?_, size := hok.tmps.1.1, nle := hok.tmps.1.2, tmp := ?_, tmp0 := fun t htd _ => ht0.2 t htd, grow := g0, defers := rfl }
    · intro j c h1 _ h3 h4
      have e1 := C.nextLe (Nat.zero_le j) (Nat.le_of_lt h1)
      have e2 := C.nextLe (i := j + 1) (j := ops.size) h1 (Nat.le_refl _)
      exact hf0 c (by omega) (by omega)
    · intro t htd
      by_cases hw : t < fr.n ∧ ∃ (j : Nat) (o : Oper), ops[j]? = some o ∧ o.dst = some t
      · obtain ⟨h1, j, o, h2, h3⟩ := hw
        exact .inl ⟨h1, j, o, h2, hno j, h3⟩
      · right
        have := C.tmpKeeps (t := t) (p := 0) ops.size (by omega) (by
          rcases Nat.lt_or_ge t fr.n with h1 | h1
          · exact .inr fun j o _ _ h2 h3 => hw ⟨h1, j, o, h2, h3⟩
          · exact .inl h1)
        rw [Nat.zero_add] at this
        rw [this]
        exact ht0.2 t htd
  obtain ⟨H, mS, ρ', w', a', q1, q2⟩ := draw_run C hpl (b := b) (k := k) (cs := cs) ops.size (w.tape w.drawn (.order b.fn id)) (Array.replicate ops.size false) 0 _ ρ { w with drawn := w.drawn + 1 } a (by simp) (by
    have : ∀ (f : Nat → Bool) (n : Nat), cnt f n ≤ n := by
      intro f n
      induction n with
      | zero => exact Nat.le_refl _
      | succ n ih =>
        simp only [cnt]
        cases f n <;> simp <;> omega
    exact this _ _) I
  have hall : ∀ j x, Amk P ops T j x → j < ops.size := fun j x h => h.lt
  have hget : ∀ c, (M ops.size).heap.get c = mS.heap.get c := by
    intro c
    have hH := q2.hle
    have hnoH : ∀ j, H ≤ j → j < H + (ops.size - H) → ¬ Hst P ops T j := fun j h1 h2 hh => by
      have := (q2.hst j hh).1 (by omega)
      omega
    by_cases e : ∃ j x, H ≤ j ∧ Amk P ops T j x ∧ c = (M j).next
    · obtain ⟨j, x, e1, e2, rfl⟩ := e
      have := C.segMade (p := H) (d := ops.size - H) (j := j) (x := x) (by omega) hnoH e1 (by have := e2.lt; omega) e2
      rw [show H + (ops.size - H) = ops.size by omega] at this
      rw [this, q2.extra j x e1 e2 e2.lt]
    · rw [q2.rest c fun j x h1 h2 h3 => h2.elim (fun h => e ⟨j, x, h.1, h1, h3⟩) fun h => h.2 h1.lt]
      have := C.seg (b := c) (p := H) (ops.size - H) (by omega) hnoH fun j x h1 _ h2 h3 => e ⟨j, x, h1, h2, h3⟩
      rwa [show H + (ops.size - H) = ops.size by omega] at this
  have hrel : Rel P ρ' out.m w' := q2.rel.sub fun c x hx => by
    rw [← hget c, t4]
    exact hx
  have hgrow : Grow ρ ρ' m out.m w w' := by
    have h1 := q2.grow
    rw [t2] at h1
    exact h1.of_get (fun c x hx => by rw [← hget c, t4]; exact hx) (by rw [q2.nx, t4])
  have hts : TsRel ρ' fr.n out.ts a'.tmps := by
    refine ⟨⟨q2.size, hok.tmps.1.2⟩, fun t htd => ?_⟩
    rcases q2.tmp t htd with ⟨_, j, o, h1, h2, _⟩ | h1
    · exact absurd (Array.getElem?_eq_some_iff.1 h1).1 h2
    · rw [t3] at h1
      exact h1
  have hdf : defsOf out.ts = defsOf fr.ts := by
    have := C.tmpKeeps (t := dIx) (p := 0) ops.size (by omega) (.inl hok.tmps.1.2)
    rw [Nat.zero_add, t3, t1] at this
    unfold defsOf
    rw [this]
  have hsteps : Steps P (lone (on b a (.code (.region id ops true) :: k)) cs w) (lone (on b a' k) cs w') := by
    refine .head on_region_draw ?_
    simp only [Region.schedule, hmx, Bool.true_or, if_true]
    exact q1
  refine ⟨ρ', w', a', on b a' k, hsteps, ?_, hrel, hgrow, hok.grow hgrow q2.defers hdf hts⟩
  rw [t5]
  rfl
end
end Go.Ab
namespace Go.Ab
variable [Vals]
section
variable {P : Program} [FactsOk P] {self : Self}
variable (hM : ∀ fr t m out, self fr t m = some out → Mono m out.m) (hS : ∀ fr t m out, self fr t m = some out → Sound P fr t m out)
include hM hS
theorem istep_sound (hP : PlainNames P) (hmx : P.follows .mixedOrders = true) {fr : AFr} {t : Task} {m : AW} {out : Out} (h : istep P self fr t m = some out) : Sound P fr t m out := by
 unfold istep at h
 cases t with
 | scope body rest => exact stScope_follows hM hS h
 | fn f args => exact stFn_follows hM hS hP h
 | dfn f args => exact stDfn_follows hM hS hP h
 | yield l args => exact stYield_follows hM hS h
 | code c =>
  simp only at h
  unfold stCode at h
  cases c with
  | skip =>
   cases h
   rintro ρ w b a n0 k cs todo hnr hr hf hok hn (rfl | ⟨_, h, _⟩)
   ·exact ⟨ρ, w, a, _, .one on_skip, rfl, hr, .refl _ _ _, hok⟩
   cases h
  | label l =>
   cases h
   rintro ρ w b a n0 k cs todo hnr hr hf hok hn (rfl | ⟨_, h, _⟩)
   ·exact ⟨ρ, w, a, _, .one on_label, rfl, hr, .refl _ _ _, hok⟩
   cases h
  | seq x y => exact stSeq_follows hM hS h
  | cond x y z => exact stCond_follows hM hS h
  | block id c => exact stBlock_follows hM hS h
  | loop c => exact stLoop_follows hM hS h
  | exit id =>
   cases h
   rintro ρ w b a n0 k cs todo hnr hr hf hok hn (rfl | ⟨_, h, _⟩)
   ·exact ⟨ρ, w, a, _, .refl _ _, ⟨k, rfl, rfl⟩, hr, .refl _ _ _, hok⟩
   cases h
  | goto l =>
   cases h
   rintro ρ w b a n0 k cs todo hnr hr hf hok hn (rfl | ⟨_, h, _⟩)
   ·exact ⟨ρ, w, a, _, .refl _ _, ⟨k, rfl, rfl⟩, hr, .refl _ _ _, hok⟩
   cases h
  | ret =>
   cases h
   rintro ρ w b a n0 k cs todo hnr hr hf hok hn (rfl | ⟨_, h, _⟩)
   ·exact ⟨ρ, w, a, _, .refl _ _, ⟨k, rfl⟩, hr, .refl _ _ _, hok⟩
   cases h
  | scope c =>
   simp only at h
   rintro ρ w b a n0 k cs todo hnr hr hf hok hn (rfl | ⟨_, h, _⟩)
   ·exact Reaches.after0 (.one on_scope) (hS _ _ _ _ h ρ w b a n0 k cs _ hnr hr hf hok hn rfl)
   cases h
  | region id ops draw =>
   simp only at h
   cases draw with
   | true => exact drawA_follows hM hS hmx h
   | false =>
    simp only [cond_false] at h
    rintro ρ w b a n0 k cs todo hnr hr hf hok hn (rfl | ⟨_, h, _⟩)
    ·refine Reaches.after0 (.one on_region) ?_
     have := iops_follows (b := b) (n0 := n0) (k := k) (cs := cs) (fr := fr) hM hS ops.toList 0 fr.ts m out ρ w a rfl h (fun hq => by simpa using hq) hnr hr hf hok hn
     rwa [Nat.sub_zero, ← List.range_eq_range'] at this
    cases h
  | rangeFunc f params assign body => exact stRF_follows hM hS h
  | refuse r => cases h
end
theorem irun_sound {P : Program} [FactsOk P] (hP : PlainNames P) (hmx : P.follows .mixedOrders = true) : ∀ (k : Nat) (fr : AFr) (t : Task) (m : AW) (out : Out), irun P k fr t m = some out → Sound P fr t m out
 | 0, _, _, _, _, h => by simp [irun] at h
 | k + 1, fr, t, m, out, h => istep_sound (fun fr t m out => irun_mono k fr t m out) (fun fr t m out => irun_sound hP hmx k fr t m out) hP hmx h
end Go.Ab
namespace Go.Ab
theorem noFacts (P : Program) : @FactsOk noVals P :=
 @FactsOk.mk noVals P (fun _ _ _ _ _ h => by cases h) (fun _ _ _ h => by cases h) (fun _ _ _ _ h => by cases h) (fun _ _ _ h => by cases h) (fun _ _ _ h => by cases h)
def Still (W W' : World) : Prop := Rest W W' ∧ W.heap.size ≤ W'.heap.size ∧ ∀ b, b < W.heap.size → W'.heap[b]? = W.heap[b]?
theorem calls_of_irun [Vals] {P : Program} [FactsOk P] (hP : PlainNames P) (hmx : P.follows .mixedOrders = true) {k : Nat} {fr : AFr} {f : FuncId} {args args' : List Value} {m : AW} {out : Out} (h : irun P k fr (.fn f args) m = some out) (hret : out.ex = .ret) {fn : Func} (hf : P.funcs[f]? = some fn) (hb : fn.body.isSome = true)
  {ρ : Ren} {W : World} (hr : Rel P ρ m W) (hfr : Fresh ρ m out.m) (ha : VsRel ρ args args') :
  Calls P f ⟨args'⟩ W fun e W' => ∃ v' ρ', e = .returned v' ∧ VRel ρ' out.v v' ∧ Rel P ρ' out.m W' ∧ Grow ρ ρ' m out.m W W' := by
 intro cs
 obtain ⟨c, hc⟩ := Option.isSome_iff_exists.1 hb
 have he := callFunc_enter hP hf hc ⟨args'⟩ W
 obtain ⟨ρ', w', q1, q2, q3⟩ := irun_sound hP hmx k _ _ _ _ h ρ W args' cs hr hfr ha
 rcases q3 with ⟨v', _, _, q4⟩ | ⟨_, fr', q5, q6, q7⟩
 ·rw [he] at q4
  cases q4
 rcases q7 with ⟨v', q8, q9, q10⟩ | ⟨v, _, q8, _⟩
 ·exact ⟨.returned v', w', fr', ⟨v', ρ', rfl, q9, q1, q2⟩, q6, q5, q10⟩
 rw [hret] at q8
 cases q8
def saysB (b : Bool) (o : Option Out) : Bool :=
 match o with
 | some ⟨.ret, _, .bool c, _⟩ => c == b
 | _ => false
theorem saysB_spec {b : Bool} {o : Option Out} (h : saysB b o = true) : ∃ out, o = some out ∧ out.ex = .ret ∧ out.v = .bool b := by
 unfold saysB at h
 split at h
 ·simp only [beq_iff_eq] at h
  subst h
  exact ⟨_, rfl, rfl, rfl⟩
 cases h
theorem Still.keptBut {W W' : World} (h : Still W W') (may : MemPlace → Prop) : W.keptBut W' may := by
 refine ⟨h.1.1, h.1.2.2, fun i hi => ?_⟩
 rw [h.2.2 i hi]
 split
 ·rename_i h1 h2
  rw [h1] at h2
  cases h2
  exact ⟨rfl, rfl, rfl, fun _ _ => rfl⟩
 ·rename_i h1 h2
  rw [h1] at h2
  cases h2
  exact .inr ⟨rfl, rfl⟩
 rfl
theorem Still.frozen {W W' : World} (h : Still W W') {a : Addr} (ha : a.block < W.heap.size) : W'.frozen? a = W.frozen? a := by
 simp [World.frozen?, h.2.2 _ ha]
def plainNamesB (P : Program) : Bool := P.funcs.toList.all fun fn => !fn.body.isSome || fn.name != "runtime.NumGoroutine"
theorem plainNames_of {P : Program} (h : plainNamesB P = true) : PlainNames P := by
 intro f fn hf hb hn
 have := List.all_eq_true.1 h fn (by
  have := Array.mem_of_getElem? hf
  simpa using this)
 simp [hb, hn] at this
theorem globals_of_shaped {P : Program} {w : World} (h : w.ShapedOpen P) (hk : Nat.blt P.globals.size (begin P (fun _ _ => 0) default).world.heap.size = true) : P.globals.size ≤ w.heap.size := by
 rw [nblt, decide_eq_true_eq] at hk
 obtain ⟨o, _, ho, _⟩ := h.2 P.globals.size (Nat.le_refl _) hk
 have := (Array.getElem?_eq_some_iff.1 ho).1
 omega
section
variable {H : Type} {enc : TypeId × Value → H}
theorem post_law {P : Program} {f : Func} {s : ChangeSpec} {apart fresh handsOn again : Bool} {W W' : World} {args : Array Value} {v : Value} {ds gs : List (DataW H)} {before pa pv : List MemPlace}
  (hW : DataW.Whole enc P f.params.toList s.vars apart W args.toList ds gs before)
  (hres : ∀ (b : Nat) (sp : Nat → Bool) (hd : Bool), DataW.TrodAll enc P W' b sp hd f.resultTypes.toList (v.resultList f.resultTypes.size) (s.fn H (ds ++ gs)).results [])
  (hargs : ∀ sp : Nat → Bool, (∀ p ∈ before, sp p.block = true) → DataW.TrodAll enc P W' 0 sp true f.params.toList args.toList (s.fn H (ds ++ gs)).args pa)
  (hvars : ∀ sp : Nat → Bool, (∀ p ∈ before, sp p.block = true) → DataW.TrodVars enc P W' sp s.vars (s.fn H (ds ++ gs)).vars pv)
  (hps : before = pa ++ pv) (hk : Still W W')
  (hok : ∀ (j : Nat) (t : TypeId) (r : Value), f.resultTypes[j]? = some t → (v.resultList f.resultTypes.size)[j]? = some r → Value.okWide P W' .any 0 t r) :
  s.post enc P f apart fresh handsOn again W args v W' := by
 have hold : ∀ p ∈ before, (fun b => decide (b < W.heap.size)) p.block = true := fun p hp => by simpa using hW.lt p hp
 have hlt := hW.lt
 refine ⟨ds, gs, before, [], pa, pv, hW, hres _ _ _, hargs _ hold, hvars _ hold, hk.keptBut _, fun _ => ?_⟩
 obtain ⟨_, _, _, _, _, hz, hn⟩ := hW
 refine ⟨hok, _, _, ([] ++ pa) ++ pv, ⟨[] ++ pa, pv, ChangeShapes.trodAll_append (hargs _ (fun _ _ => rfl)) (hres _ _ _), hvars _ (fun _ _ => rfl), rfl, ?_, ?_⟩, ?_⟩
 ·intro b off hp
  have hmem : MemPlace.cell b off ∈ before := by rw [hps]; simpa using hp
  have := hlt _ hmem
  rw [hk.frozen this]
  exact hz b off hmem
 ·intro ha
  have := hn ha
  rw [hps] at this
  simpa using this
 intro p hp _
 rw [hps]
 simpa using hp
theorem returns_shaped {a : Assume} {C : Checked} {os : Os} {f : FuncId} {fn : Func} {s : ChangeSpec} {conds : List PathCond} {apart fresh handsOn again : Bool} {X : World → Array Value → Prop}
    (hX : ∀ (w w' : World) (args : Array Value), w.heap = w'.heap → X w args → X w' args)
    (own : ownKnob C.prog.godebug = none) (started : os.Started) (noInit : C.prog.inits.idxOf? f = none) (hfn : C.prog.funcs[f]? = some fn)
    (witness : ∃ (w : World) (tape : Tape) (i : Input), w.os = os ∧ (w.forCall tape i).Shaped C.prog ∧ i.vars = [] ∧ Input.okWide C.prog (w.forCall tape i) .any w.heap.size f i ∧
      ((s.pre enc C.prog fn conds apart (w.forCall tape i).memory i.args ∧ X (w.forCall tape i).memory i.args) ∧ sizedMet enc C.prog fn (OpenSpec.ofChange s) apart (w.forCall tape i).memory i.args) ∧ a.holds C.prog (lone (Frame.enter C.prog f i.args .normal) [] (w.forCall tape i)))
    (contract : ∀ (W : World) (base : Nat) (args : Array Value) (ds gs : List (DataW H)) (before : List MemPlace), W.ShapedOpen C.prog →
      (∀ (j : Nat) t v, fn.params[j]? = some t → args[j]? = some v → Value.okWide C.prog W .any base t v) →
      DataW.Whole enc C.prog fn.params.toList s.vars apart W args.toList ds gs before →
      conds.all (PathCond.test C.prog ⟨fn.params.toList, ds, s.plain.varTypes C.prog, gs⟩) = true →
      (DataW.weightsEach C.prog (fn.params.toList ++ s.plain.varTypes C.prog) (ds ++ gs)).all (· ≤ reachBytes) = true → X W args →
      Calls C.prog f args W fun e W' => ∃ v, e = .returned v ∧ s.post enc C.prog fn apart fresh handsOn again W args v W') :
    ReturnsInHanded a C os f .any (fun w args => (s.pre enc C.prog fn conds apart w args ∧ X w args) ∧ sizedMet enc C.prog fn (OpenSpec.ofChange s) apart w args) (s.post enc C.prog fn apart fresh handsOn again) := by
  refine returnsInHanded_of_calls own started noInit witness ?_
  intro w tape i _ hsh _ hok hpre hholds
  obtain ⟨_, _, _, fn', hfn', _, _, _, _, hval⟩ := hok
  have e : fn' = fn := Option.some.inj (hfn'.symm.trans hfn)
  subst e
  obtain ⟨⟨⟨ds, gs, before, hw, hc⟩, hx⟩, hz⟩ := hpre
  have hw' := DataW.Whole.of_heap (w' := w.forCall tape i) (by rfl) hw
  refine (contract (w.forCall tape i) w.heap.size i.args ds gs before hsh hval hw' hc (hz.weights hw) (hX _ _ _ (by rfl) hx)).mono fun e W' ⟨v, he, hp⟩ => ?_
  subst he
  exact ChangeSpec.post_blind hp
end
end Go.Ab
namespace Go.Ab
def laidT (tt : Nat → TypeId) : List (Nat × Bool × List Value) → Tr AObj
 | [] => .lf
 | (b, g, vs) :: l => (laidT tt l).set b (some (.cells vs (tt b) g .ro none))
theorem laidT_get {tt : Nat → TypeId} {b : Nat} {o : AObj} : ∀ {l : List (Nat × Bool × List Value)}, (laidT tt l).get b = some o → ∃ g vs, (b, g, vs) ∈ l ∧ o = .cells vs (tt b) g .ro none
 | [], h => by cases h
 | (c, g, vs) :: l, h => by
  unfold laidT at h
  rw [Tr.get_set] at h
  split at h
  ·rename_i e
   subst e
   cases h
   exact ⟨g, vs, List.mem_cons_self, rfl⟩
  obtain ⟨t', vs', h1, h2⟩ := laidT_get h
  exact ⟨t', vs', List.mem_cons_of_mem _ h1, h2⟩
theorem relLaid [Vals] {P : Program} {W : World} {l : List (Nat × Bool × List Value)} {nx lo : Nat} {lg : List Nat} (hl : LiesBy P W l) : ∃ tt ρ, Rel P ρ ⟨laidT tt l, nx, lo, lg⟩ W ∧ ∀ i, laidEnd ≤ i → ρ i = none := by
 obtain ⟨ρ, h1, h2, h3⟩ := hl
 refine ⟨fun b => match ρ b with
  | some s => match W.heap[s.blk]? with
   | some (.cells _ t _) => t
   | _ => 0
  | none => 0, ρ, ⟨fun b o hb => ?_, fun b1 b2 o1 o2 s1 s2 _ g1 g2 _ _ _ => ?_, h1, fun b s hb => (h2 b s hb).2⟩, fun i hi => ?_⟩
 ·obtain ⟨g, vs, h4, rfl⟩ := laidT_get hb
  obtain ⟨s, c, t, fr, h5, h6, h7, h8, h9, h10⟩ := h3 b g vs h4
  refine ⟨s, _, h5, h6, c, fr, by simp only [h5, h6], h7, fun i v hi => ?_, h9, ?_, trivial⟩
  ·obtain ⟨v', e1, e2⟩ := h8 i v hi
   exact ⟨v', e1, e2.rel⟩
  simp only [h5, h6]
  exact h10
 ·obtain ⟨_, _, _, rfl⟩ := laidT_get g1
  obtain ⟨_, _, _, rfl⟩ := laidT_get g2
  exact .inr ⟨rfl, rfl⟩
 cases h : ρ i with
 | none => rfl
 | some s => have := (h2 i s h).1; omega
theorem calls_laid [Vals] {P : Program} [FactsOk P] (hP : PlainNames P) (hmx : P.follows .mixedOrders = true) {k : Nat} {fr : AFr} {f : FuncId} {args args' : List Value} {l : List (Nat × Bool × List Value)} {nx lo : Nat} {b : Bool} (h : ∀ tt, saysB b (irun P k fr (.fn f args) ⟨laidT tt l, nx, lo, []⟩) = true) {fn : Func} (hf : P.funcs[f]? = some fn) (hb : fn.body.isSome = true)
  {W : World} (hl : LiesBy P W l) (hnx : Nat.ble laidEnd nx = true) (ha : ∀ ρ, VsRel ρ args args') :
  Calls P f ⟨args'⟩ W fun e W' => e = .returned (.bool b) ∧ Still W W' := by
 obtain ⟨tt, ρ, hr, hn⟩ := relLaid (nx := nx) (lo := lo) (lg := []) hl
 obtain ⟨out, h1, h2, h3⟩ := saysB_spec (h tt)
 rw [nble, decide_eq_true_eq] at hnx
 refine (calls_of_irun hP hmx h1 h2 hf hb hr (fun i hi _ => hn i (Nat.le_trans hnx hi)) (ha ρ)).mono fun e W' ⟨v', ρ', q1, q2, _, q4⟩ => ?_
 rw [h3] at q2
 cases q2
 refine ⟨q1, q4.rest, q4.size, fun B hB => q4.keep B hB ?_⟩
 rintro ⟨c, o, s, g1, g2, _⟩
 obtain ⟨t, vs, _, rfl⟩ := laidT_get g1
 cases g2
theorem calls_laid0 {P : Program} (hP : PlainNames P) (hmx : P.follows .mixedOrders = true) {k : Nat} {fr : AFr} {f : FuncId} {args args' : List Value} {l : List (Nat × Bool × List Value)} {nx lo : Nat} {b : Bool} (h : ∀ tt, saysB b (@irun noVals P k fr (.fn f args) ⟨laidT tt l, nx, lo, []⟩) = true) {fn : Func} (hf : P.funcs[f]? = some fn) (hb : fn.body.isSome = true)
  {W : World} (hl : LiesBy P W l) (hnx : Nat.ble laidEnd nx = true) (ha : ∀ ρ, @VsRel noVals ρ args args') :
  Calls P f ⟨args'⟩ W fun e W' => e = .returned (.bool b) ∧ Still W W' :=
 @calls_laid noVals P (noFacts P) hP hmx k fr f args args' l nx lo b h fn hf hb W hl hnx ha
theorem liesBy_of {P : Program} {W : World} {l : List (Nat × Bool × List Value)} (hW : P.globals.size ≤ W.heap.size) (hP : P.globals.size ≤ laidEnd) (sl : Nat → Option Spot) (hs : ∀ i s, sl i = some s → s.blk < W.heap.size) {ρ : Ren} (hρ : ρ = fun i => if i < P.globals.size then some ⟨i, 0, 0⟩ else if i < laidEnd then sl i else none)
    (h : ∀ b g vs, (b, g, vs) ∈ l → ∃ s c t fr, ρ b = some s ∧ W.heap[s.blk]? = some (.cells c t fr) ∧ s.off + vs.length ≤ c.size ∧ (∀ (i : Nat) v, vs[i]? = some v → ∃ v', c[s.off + i]? = some v' ∧ LRel ρ v v') ∧
      (g = false → s.off = 0 ∧ c.size = vs.length) ∧ (g = true → s.cap < big ∧ s.off + s.cap * P.cellsOf t ≤ c.size)) : LiesBy P W l := by
  refine ⟨ρ, fun g hg => ⟨0, by rw [hρ]; simp [hg]⟩, fun b s hb => ?_, h⟩
  rw [hρ] at hb
  simp only at hb
  split at hb
  · cases hb
    exact ⟨by omega, by simp only; omega⟩
  · split at hb
    · exact ⟨by assumption, hs _ _ hb⟩
    · cases hb
theorem block_of_var {P : Program} {W : World} (hsh : W.ShapedOpen P) {n : String} {g k : Nat} {t : TypeId} {cs : Array Value} (hg : P.globalNamed n = some g) (hlt : Nat.blt g P.globals.size = true) (hv : W.var? P n = some cs)
  (hz : ((begin P (fun _ _ => 0) default).world.heap[g]?).bind (fun o => o.row?.map fun x => (x.1.size, x.2)) = some (k, t)) : ∃ fr, W.heap[g]? = some (.cells cs t fr) := by
 rw [nblt, decide_eq_true_eq] at hlt
 obtain ⟨o, ho, hr⟩ := Option.bind_eq_some_iff.1 hz
 obtain ⟨⟨z, t'⟩, hr, e⟩ := Option.map_eq_some_iff.1 hr
 simp only [Prod.mk.injEq] at e
 obtain ⟨c, h1, _⟩ := hsh.1 g z t' hlt (by rw [ho]; exact hr)
 refine ⟨(0, 0), ?_⟩
 have : c = cs := by
  apply Array.ext_getElem?
  intro i
  rw [← World.var?_cell hg hv i]
  simp [World.cell?, h1]
 rw [h1, this, e.2]
end Go.Ab
namespace Go.Ab
variable [Vals] {P : Program}
def SelfLe (s s' : Self) : Prop := ∀ fr t m o, s fr t m = some o → s' fr t m = some o
section
variable {s s' : Self} (hle : SelfLe s s')
include hle
theorem callA_le (h : callA s f args m = some r) : callA s' f args m = some r := by
 unfold callA at h ⊢
 cases e : s noFr (.fn f args) m with
 | none => rw [e] at h; cases h
 | some o => rw [e] at h; rw [hle _ _ _ _ e]; exact h
theorem callV_le (h : callV s f args m = some r) : callV s' f args m = some r := by
 unfold callV at h ⊢
 split at h
 ·exact callA_le hle h
 ·rename_i l _ _
  cases e : s noFr (.yield l args) m with
  | none => rw [e] at h; cases h
  | some o => rw [e] at h; rw [hle _ _ _ _ e]; exact h
 cases h
theorem callH_le (h : callH P s ts c m = some r) : callH P s' ts c m = some r := by
 unfold callH at h ⊢
 cases e : evs P ts c.args.toList with
 | none => rw [e] at h; cases h
 | some args =>
  rw [e] at h
  simp only at h ⊢
  split at h
  ·exact h
  ·split at h
   ·exact callV_le hle h
   cases h
  split at h
  ·split at h
   ·exact callA_le hle h
   cases h
  cases h
theorem opH_le (h : opH P s ts o m = some r) : opH P s' ts o m = some r := by
 cases o
 case call c => exact callH_le hle h
 all_goals exact h
theorem doOp_le (h : doOp P s ts o m = some r) : doOp P s' ts o m = some r := by
 unfold doOp at h ⊢
 split at h
 ·exact h
 ·exact h
 ·exact h
 exact opH_le hle h
theorem iops_le : ∀ {l : List Oper} {ts : Tr Value} {m : AW} {o : Out}, iops P s n q ops l ts m = some o → iops P s' n q ops l ts m = some o := by
 intro l
 induction l with
 | nil => intro ts m o h; exact h
 | cons x rest ih =>
  intro ts m o h
  unfold iops at h ⊢
  cases ew : wantedA ops ts x with
  | false => rw [ew] at h; exact ih h
  | true =>
   rw [ew] at h
   simp only [cond_true] at h ⊢
   cases hs : spc x.op with
   | no =>
    rw [hs] at h
    simp only at h ⊢
    cases e : doOp P s ts x.op m with
    | none => rw [e] at h; cases h
    | some r =>
     rw [e] at h
     rw [doOp_le hle e]
     cases r with
     | val v m => exact ih h
     | pan v m => exact h
   | defer c =>
    rw [hs] at h
    simp only at h ⊢
    cases e : dfrA P ts c with
    | none => rw [e] at h; cases h
    | some v =>
     rw [e] at h
     cases q with
     | false => cases h
     | true => exact ih h
   | recover =>
    rw [hs] at h
    simp only at h ⊢
    cases q with
    | false => cases h
    | true => exact ih h
theorem dops_le : ∀ {l : List (Oper × Info)} {rs : List (Nat × Nat)} {ws : List (Nat × List Nat)} {as : List (Nat × Nat)} {ts : Tr Value} {m : AW} {o : Out}, dops P s n ops base lo l rs ws as ts m = some o → dops P s' n ops base lo l rs ws as ts m = some o := by
 intro l
 induction l with
 | nil => intro rs ws as ts m o h; exact h
 | cons x rest ih =>
  obtain ⟨x, i⟩ := x
  intro rs ws as ts m o h
  unfold dops at h ⊢
  cases ew : wantedA ops ts x with
  | false => rw [ew] at h; exact ih h
  | true =>
   rw [ew] at h
   simp only [cond_true] at h ⊢
   cases hc : i.cls with
   | l =>
    rw [hc] at h
    simp only at h ⊢
    cases e : opL P ts x.op with
    | none => rw [e] at h; cases h
    | some lr =>
     rw [e] at h
     cases lr with
     | imm v => exact ih h
     | rd b f =>
      simp only at h ⊢
      cases e2 : (m.heap.get b).bind f with
      | none => rw [e2] at h; cases h
      | some v =>
       rw [e2] at h
       simp only at h ⊢
       cases e3 : (i.full && seenB i.pre b as) with
       | true => rw [e3] at h; exact ih h
       | false =>
        rw [e3] at h
        simp only [cond_false] at h ⊢
        cases e4 : (Nat.blt b base && readOk i.pre b ws) with
        | true => rw [e4] at h; exact ih h
        | false => rw [e4] at h; cases h
   | h =>
    rw [hc] at h
    simp only at h ⊢
    cases e : (i.hok && plainB i.pre m.heap as) with
    | false => rw [e] at h; cases h
    | true =>
     rw [e] at h
     simp only [cond_true] at h ⊢
     cases e2 : doOp P s ts x.op ⟨hideB i.pre as m.heap, m.next, base, []⟩ with
     | none => rw [e2] at h; cases h
     | some r =>
      rw [e2] at h
      rw [doOp_le hle e2]
      cases r with
      | pan v m => cases h
      | val v m' =>
       simp only at h ⊢
       cases e3 : writeOk i.pre m'.log rs with
       | true => rw [e3] at h; exact ih h
       | false => rw [e3] at h; cases h
   | a =>
    rw [hc] at h
    simp only at h ⊢
    cases e2 : doOp P s ts x.op m with
    | none => rw [e2] at h; cases h
    | some r =>
     rw [e2] at h
     rw [doOp_le hle e2]
     cases r with
     | pan v m => cases h
     | val v m' => exact ih h
   | p =>
    rw [hc] at h
    simp only at h ⊢
    cases e2 : doOp P s ts x.op m with
    | none => rw [e2] at h; cases h
    | some r =>
     rw [e2] at h
     rw [doOp_le hle e2]
     cases r with
     | pan v m => cases h
     | val v m' => exact ih h
theorem drawA_le (h : drawA P s fr ops l m = some o) : drawA P s' fr ops l m = some o := by
 unfold drawA at h ⊢
 obtain ⟨h1, h2⟩ := bif_some h
 rw [h1]
 exact dops_le hle h2
theorem stSeq_le (h : stSeq s fr a b m = some o) : stSeq s' fr a b m = some o := by
 unfold stSeq at h ⊢
 cases e : s fr (.code a) m with
 | none => rw [e] at h; cases h
 | some o1 =>
  rw [e] at h
  rw [hle _ _ _ _ e]
  obtain ⟨ex, ts, v, m1⟩ := o1
  cases ex <;> first | exact hle _ _ _ _ h | exact h
theorem stCond_le (h : stCond P s fr x a b m = some o) : stCond P s' fr x a b m = some o := by
 unfold stCond at h ⊢
 split at h
 ·exact hle _ _ _ _ h
 ·exact hle _ _ _ _ h
 cases h
theorem stBlock_le {id : Nat} (h : stBlock s fr id b m = some o) : stBlock s' fr id b m = some o := by
 unfold stBlock at h ⊢
 cases e : s fr (.code b) m with
 | none => rw [e] at h; cases h
 | some o1 => rw [e] at h; rw [hle _ _ _ _ e]; exact h
theorem stLoop_le (h : stLoop s fr b m = some o) : stLoop s' fr b m = some o := by
 unfold stLoop at h ⊢
 cases e : s fr (.code b) m with
 | none => rw [e] at h; cases h
 | some o1 =>
  rw [e] at h
  rw [hle _ _ _ _ e]
  obtain ⟨ex, ts, v, m1⟩ := o1
  cases ex <;> first | exact hle _ _ _ _ h | exact h
theorem stScope_le (h : stScope s fr a b m = some o) : stScope s' fr a b m = some o := by
 unfold stScope at h ⊢
 cases e : s fr (.code b) m with
 | none => rw [e] at h; cases h
 | some o1 =>
  rw [e] at h
  rw [hle _ _ _ _ e]
  obtain ⟨ex, ts, v, m1⟩ := o1
  cases ex with
  | goto l =>
   simp only at h ⊢
   cases e2 : findLabel a l with
   | none => rw [e2] at h; exact h
   | some r => rw [e2] at h; exact hle _ _ _ _ h
  | _ => exact h
theorem stRF_le (h : stRF P s fr f ps a b m = some o) : stRF P s' fr f ps a b m = some o := by
 unfold stRF at h ⊢
 split at h
 ·rename_i g first captured e0
  cases e : beginRF fr ps a b m with
  | none => rw [e] at h; cases h
  | some x =>
   obtain ⟨l, m2⟩ := x
   rw [e] at h
   simp only at h ⊢
   cases e2 : s noFr (.fn g (first ++ [.func (.yield l) #[] #[]] ++ captured)) m2 with
   | none => rw [e2] at h; cases h
   | some o1 => rw [e2] at h; rw [hle _ _ _ _ e2]; exact h
 cases h
theorem runD_le : ∀ {vs : List Value} {m m' : AW}, runD s vs m = some m' → runD s' vs m = some m' := by
 intro vs
 induction vs with
 | nil => intro m m' h; exact h
 | cons v vs ih =>
  intro m m' h
  unfold runD at h ⊢
  split at h
  ·rename_i f first captured
   cases e2 : s noFr (.dfn f (first ++ captured)) m with
   | none => rw [e2] at h; cases h
   | some o1 =>
    rw [e2] at h
    rw [hle _ _ _ _ e2]
    obtain ⟨ex, ts, v, m1⟩ := o1
    cases ex <;> first | exact ih h | cases h
  cases h
theorem retD_le (h : retD P s fn ts m = some o) : retD P s' fn ts m = some o := by
 unfold retD at h ⊢
 cases e : runD s (defsOf ts) m with
 | none => rw [e] at h; cases h
 | some m2 => rw [e] at h; rw [runD_le hle e]; exact h
theorem stFb_le (h : stFb P s f fn c args m = some o) : stFb P s' f fn c args m = some o := by
 unfold stFb at h ⊢
 obtain ⟨h1, h2⟩ := bif_some h
 rw [h1]
 simp only [cond_true]
 cases e : s ⟨f, fn.ntmps, argsT args 0 .lf, none⟩ (.code c) m with
 | none => rw [e] at h2; cases h2
 | some o1 =>
  rw [e] at h2
  rw [hle _ _ _ _ e]
  obtain ⟨ex, ts, v, m1⟩ := o1
  cases ex <;> first | exact retD_le hle h2 | exact h2
theorem stFn_le (h : stFn P s f args m = some o) : stFn P s' f args m = some o := by
 unfold stFn at h ⊢
 cases e : P.funcs[f]? with
 | none => rw [e] at h; cases h
 | some fn =>
  rw [e] at h
  simp only at h ⊢
  cases e2 : fn.body with
  | none => rw [e2] at h; exact h
  | some c =>
   rw [e2] at h
   simp only at h ⊢
   cases e3 : Vals.call f args with
   | some v => rw [e3] at h; exact h
   | none => rw [e3] at h; exact stFb_le hle h
theorem stDfn_le (h : stDfn P s f args m = some o) : stDfn P s' f args m = some o := by
 unfold stDfn at h ⊢
 cases e : P.funcs[f]? with
 | none => rw [e] at h; cases h
 | some fn =>
  rw [e] at h
  simp only at h ⊢
  cases e2 : fn.body with
  | none => rw [e2] at h; exact h
  | some c => rw [e2] at h; exact stFb_le hle h
theorem stBody_le (h : stBody P s l fn n ts bo m = some o) : stBody P s' l fn n ts bo m = some o := by
 unfold stBody at h ⊢
 split at h
 ·rename_i p fn' n' ts' ps as' bo' d e0
  cases e : s ⟨fn, n, ts, some l⟩ (.code bo) (m.set l (some (.loop .busy p fn' n' ts' ps as' bo' d))) with
  | none => rw [e] at h; cases h
  | some o1 => rw [e] at h; rw [hle _ _ _ _ e]; exact h
 cases h
theorem stYield_le (h : stYield P s l args m = some o) : stYield P s' l args m = some o := by
 unfold stYield at h ⊢
 split at h
 ·rename_i p fn n ts ps as bo d e0
  obtain ⟨h1, h2⟩ := bif_some h
  simp only [h1, cond_true]
  cases e : s ⟨fn, n, (ps.zip args).foldl (fun ts x => put n ts (some x.1) x.2) ts, some l⟩ (.code as) m with
  | none => rw [e] at h2; cases h2
  | some o1 =>
   rw [e] at h2
   rw [hle _ _ _ _ e]
   obtain ⟨ex, ts, v, m1⟩ := o1
   cases ex <;> first | exact stBody_le hle h2 | exact h2
 cases h
theorem stCode_le (h : stCode P s fr c m = some o) : stCode P s' fr c m = some o := by
 cases c
 case seq => exact stSeq_le hle h
 case cond => exact stCond_le hle h
 case block => exact stBlock_le hle h
 case loop => exact stLoop_le hle h
 case scope => exact hle _ _ _ _ h
 case region id ops draw =>
  cases draw
  ·exact iops_le hle h
  exact drawA_le hle h
 case rangeFunc => exact stRF_le hle h
 all_goals exact h
theorem istep_le (h : istep P s fr t m = some o) : istep P s' fr t m = some o := by
 cases t
 case code => exact stCode_le hle h
 case scope => exact stScope_le hle h
 case fn => exact stFn_le hle h
 case dfn => exact stDfn_le hle h
 case yield => exact stYield_le hle h
end
theorem irun_succ : ∀ (k : Nat), SelfLe (irun P k) (irun P (k + 1))
 | 0 => fun _ _ _ _ h => by cases h
 | k + 1 => fun fr t m o h => by
  show istep P (irun P (k + 1)) fr t m = some o
  exact istep_le (irun_succ k) h
theorem irun_le (h : j ≤ k) : SelfLe (irun P j) (irun P k) := by
 induction h with
 | refl => exact fun _ _ _ _ h => h
 | step _ ih => exact fun fr t m o e => irun_succ _ _ _ _ _ (ih _ _ _ _ e)
end Go.Ab
namespace Go.Ab
abbrev Env := List (Nat × Value)
def look : Env → Nat → Option Value
 | [], _ => none
 | (t, v) :: e, u => bif Nat.beq t u then some v else look e u
structure Has (n : Nat) (ts : Tr Value) (e : Env) : Prop where
 few : n ≤ dIx
 defs : ts.get dIx = none
 at_ : ∀ t v, look e t = some v → t < n ∧ ts.get t = some v
def Sub : Env → Env → Prop
 | [], _ => True
 | (t, v) :: e, e' => look e' t = some v ∧ Sub e e'
theorem Sub.look {e' : Env} : ∀ {e : Env} {t : Nat} {v : Value}, Sub e e' → look e t = some v → look e' t = some v
 | [], _, _, _, h => by cases h
 | (u, w) :: e, t, v, hs, h => by
  unfold Ab.look at h
  cases hb : Nat.beq u t with
  | true =>
   rw [hb] at h
   cases h
   rw [nbeq, decide_eq_true_eq] at hb
   subst hb
   exact hs.1
  | false =>
   rw [hb] at h
   exact Sub.look hs.2 h
theorem Has.sub (h : Has n ts e') (hs : Sub e e') : Has n ts e := ⟨h.few, h.defs, fun t v hl => h.at_ t v (hs.look hl)⟩
theorem Has.put (h : Has n ts e) (ht : Nat.blt t n = true) (v : Value) : Has n (put n ts (some t) v) ((t, v) :: e) := by
 unfold Ab.put
 simp only [ht, cond_true]
 rw [nblt, decide_eq_true_eq] at ht
 refine ⟨h.few, ?_, fun u w hl => ?_⟩
 ·rw [Tr.get_set, if_neg (by have := h.few; omega)]
  exact h.defs
 unfold look at hl
 rw [Tr.get_set]
 cases hb : Nat.beq t u with
 | true =>
  rw [hb] at hl
  cases hl
  rw [nbeq, decide_eq_true_eq] at hb
  subst hb
  exact ⟨ht, by simp⟩
 | false =>
  rw [hb] at hl
  rw [nbeq, decide_eq_false_iff_not] at hb
  rw [if_neg (fun e => hb e.symm)]
  exact h.at_ u w hl
def argsE : List Value → Nat → Env
 | [], _ => []
 | v :: vs, i => (i, v) :: argsE vs (i + 1)
theorem argsE_get : ∀ (vs : List Value) (i : Nat) (ts : Tr Value) (t : Nat) (v : Value), look (argsE vs i) t = some v → i ≤ t ∧ t < i + vs.length ∧ (argsT vs i ts).get t = some v
 | [], _, _, _, _, h => by cases h
 | x :: vs, i, ts, t, v, h => by
  unfold argsE look at h
  unfold argsT
  cases hb : Nat.beq i t with
  | true =>
   rw [hb] at h
   cases h
   rw [nbeq, decide_eq_true_eq] at hb
   subst hb
   refine ⟨Nat.le_refl _, by simp, ?_⟩
   have : ∀ (vs : List Value) (j : Nat) (ts : Tr Value), i < j → (argsT vs j ts).get i = ts.get i := by
    intro vs
    induction vs with
    | nil => intro j ts _; rfl
    | cons y ys ih =>
     intro j ts hj
     unfold argsT
     rw [ih _ _ (by omega), Tr.get_set, if_neg (by omega)]
   rw [this _ _ _ (by omega), Tr.get_set_same]
  | false =>
   rw [hb] at h
   obtain ⟨h1, h2, h3⟩ := argsE_get vs (i + 1) (ts.set i (some x)) t v h
   exact ⟨by omega, by simp; omega, h3⟩
theorem argsT_above : ∀ (vs : List Value) (i : Nat) (ts : Tr Value) (t : Nat), i + vs.length ≤ t → (argsT vs i ts).get t = ts.get t
 | [], _, _, _, _ => rfl
 | x :: vs, i, ts, t, h => by
  unfold argsT
  simp at h
  rw [argsT_above vs (i + 1) _ t (by omega), Tr.get_set, if_neg (by omega)]
theorem Has.args (h1 : Nat.ble vs.length n = true) (h2 : Nat.ble n dIx = true) : Has n (argsT vs 0 .lf) (argsE vs 0) := by
 rw [nble, decide_eq_true_eq] at h1 h2
 refine ⟨h2, by rw [argsT_above _ _ _ _ (by omega)]; rfl, fun t v h => ?_⟩
 obtain ⟨_, h3, h4⟩ := argsE_get vs 0 .lf t v h
 exact ⟨by omega, h4⟩
def evE (P : Program) (e : Env) : Operand → Option Value
 | .tmp t => look e t
 | .const v => bif ground v then some v else none
 | .global g => bif Nat.blt g P.globals.size then some (.pointer (some ⟨g, 0, none⟩)) else none
 | .func f => some (.func (.func f) ⟨[]⟩ ⟨[]⟩)
def evsE (P : Program) (e : Env) : List Operand → Option (List Value)
 | [] => some []
 | x :: xs => match evE P e x with
  | some v => match evsE P e xs with
   | some vs => some (v :: vs)
   | none => none
  | none => none
section
variable {P : Program} {n : Nat} {ts : Tr Value} {e : Env} (H : Has n ts e)
include H
theorem evE_ev (h : evE P e x = some v) : ev P ts x = some v := by
 cases x with
 | tmp t =>
  obtain ⟨h1, h2⟩ := H.at_ t v h
  have hb : Nat.blt t dIx = true := by
   rw [nblt, decide_eq_true_eq]
   have := H.few
   omega
  unfold ev
  simp only [hb, h2, cond_true, Option.getD_some]
 | const c => exact h
 | global g => exact h
 | func f => exact h
theorem evsE_evs : ∀ {xs : List Operand} {vs : List Value}, evsE P e xs = some vs → evs P ts xs = some vs
 | [], vs, h => h
 | x :: xs, vs, h => by
  unfold evsE at h
  split at h
  ·rename_i v hv
   split at h
   ·rename_i ws hw
    cases h
    unfold evs
    rw [evE_ev H hv, evsE_evs hw]
    rfl
   cases h
  cases h
end
abbrev Hp := List (Nat × AObj)
structure Knows (S : List Nat) (m0 m : AW) (h : Hp) : Prop where
 lole : m0.lo ≤ m0.next
 next : m0.next ≤ m.next
 lo : m.lo = m0.lo
 log : ∀ b, b ∈ m.log → b ∈ m0.log ∨ (b ∈ S ∧ b < m0.lo)
 none_ : (∀ b, b ∈ S → m0.lo ≤ b) → m.log = m0.log
 keep : ∀ b, b < m0.next → b ∉ S → m.heap.get b = m0.heap.get b
 has : ∀ b o, (b, o) ∈ h → m.heap.get b = some o ∧ b < m.next ∧ (m0.next ≤ b ∨ b ∈ S)
 apart : (h.map Prod.fst).Nodup
structure Ext (m m' : AW) : Prop where
 next : m.next ≤ m'.next
 lo : m'.lo = m.lo
 log : m'.log = m.log
 keep : ∀ b, b < m.next → m'.heap.get b = m.heap.get b
theorem Ext.refl (m : AW) : Ext m m := ⟨Nat.le_refl _, rfl, rfl, fun _ _ => rfl⟩
theorem Ext.trans (h : Ext a b) (k : Ext b c) : Ext a c := ⟨Nat.le_trans h.next k.next, k.lo.trans h.lo, k.log.trans h.log, fun x hx => (k.keep x (Nat.lt_of_lt_of_le hx h.next)).trans (h.keep x hx)⟩
structure KR (S : List Nat) (m0 m : AW) (h : Hp) : Prop where
 lole : m.lo ≤ m.next
 next : m0.next ≤ m.next
 keep : ∀ b, b < m0.next → b ∉ S → m.heap.get b = m0.heap.get b
 has : ∀ b o, (b, o) ∈ h → m.heap.get b = some o ∧ b < m.next
structure News (m m' : AW) (l : Hp) : Prop where
 has : ∀ b o, (b, o) ∈ l → m'.heap.get b = some o ∧ m.next ≤ b ∧ b < m'.next
 apart : (l.map Prod.fst).Nodup
theorem News.nil (m m' : AW) : News m m' [] := ⟨fun _ _ h => (by cases h), List.nodup_nil⟩
section
variable {S : List Nat} {m0 m m' : AW} {h : Hp}
theorem Knows.start (hm : m0.lo ≤ m0.next) : Knows [] m0 m0 [] := ⟨hm, Nat.le_refl _, rfl, fun _ h => .inl h, fun _ => rfl, fun _ _ _ => rfl, fun _ _ h => (by cases h), List.nodup_nil⟩
theorem Knows.lole' (k : Knows S m0 m h) : m.lo ≤ m.next := by rw [k.lo]; exact Nat.le_trans k.lole k.next
theorem Knows.ext (k : Knows [] m0 m h) : Ext m0 m := ⟨k.next, k.lo, k.none_ (fun _ hb => by cases hb), fun b hb => k.keep b hb (by simp)⟩
theorem Knows.of_ext (k : Knows S m0 m h) (x : Ext m m') : Knows S m0 m' h where
 lole := k.lole
 next := Nat.le_trans k.next x.next
 lo := x.lo.trans k.lo
 log := fun b hb => k.log b (by rw [← x.log]; exact hb)
 none_ := fun hs => x.log.trans (k.none_ hs)
 keep := fun b hb hs => (x.keep b (Nat.lt_of_lt_of_le hb k.next)).trans (k.keep b hb hs)
 has := fun b o hb => by
  obtain ⟨h1, h2, h3⟩ := k.has b o hb
  exact ⟨(x.keep b h2).trans h1, Nat.lt_of_lt_of_le h2 x.next, h3⟩
 apart := k.apart
theorem Knows.kr (k : Knows S m0 m h) : KR S m0 m h := ⟨k.lole', k.next, k.keep, fun b o hb => ⟨(k.has b o hb).1, (k.has b o hb).2.1⟩⟩
theorem Knows.of_news (k : Knows S m0 m h) (x : Ext m m') (y : News m m' l) : Knows S m0 m' (l ++ h) where
 lole := k.lole
 next := (k.of_ext x).next
 lo := (k.of_ext x).lo
 log := (k.of_ext x).log
 none_ := (k.of_ext x).none_
 keep := (k.of_ext x).keep
 has := fun b o hb => by
  rcases List.mem_append.1 hb with hb | hb
  ·obtain ⟨h1, h2, h3⟩ := y.has b o hb
   exact ⟨h1, h3, .inl (Nat.le_trans k.next h2)⟩
  exact (k.of_ext x).has b o hb
 apart := by
  rw [List.map_append, List.nodup_append]
  refine ⟨y.apart, k.apart, fun a ha b hb => ?_⟩
  obtain ⟨⟨c, o⟩, h1, rfl⟩ := List.mem_map.1 ha
  obtain ⟨⟨c', o'⟩, h2, rfl⟩ := List.mem_map.1 hb
  have := (y.has c o h1).2.1
  have := (k.has c' o' h2).2.1
  simp only
  omega
theorem Knows.sub (k : Knows S m0 m h) (hs : h'.Sublist h) : Knows S m0 m h' :=
 ⟨k.lole, k.next, k.lo, k.log, k.none_, k.keep, fun b o hb => k.has b o (hs.subset hb), k.apart.sublist (hs.map _)⟩
theorem Knows.new (k : Knows S m0 m h) (o : AObj) : Knows S m0 (m.new o) ((m.next, o) :: h) where
 lole := k.lole
 next := by have := k.next; simp only [AW.new]; omega
 lo := k.lo
 log := k.log
 none_ := k.none_
 keep := fun b hb hs => by
  have := k.next
  simp only [AW.new, Tr.get_set]
  rw [if_neg (by omega)]
  exact k.keep b hb hs
 has := fun b o' hb => by
  simp only [AW.new, Tr.get_set]
  rcases List.mem_cons.1 hb with hb | hb
  ·cases hb
   exact ⟨by simp, by omega, .inl k.next⟩
  obtain ⟨h1, h2, h3⟩ := k.has b o' hb
  rw [if_neg (by omega)]
  exact ⟨h1, by omega, h3⟩
 apart := by
  simp only [List.map_cons, List.nodup_cons]
  refine ⟨fun hm => ?_, k.apart⟩
  obtain ⟨⟨b, o'⟩, hb, he⟩ := List.mem_map.1 hm
  obtain ⟨_, h2, _⟩ := k.has b o' hb
  simp only at he
  omega
inductive Upd : Hp → Nat → AObj → AObj → Hp → Prop where
 | head {h : Hp} {b : Nat} {o o' : AObj} : Upd ((b, o) :: h) b o o' ((b, o') :: h)
 | tail {h h' : Hp} {b : Nat} {o o' : AObj} {p : Nat × AObj} (u : Upd h b o o' h') : Upd (p :: h) b o o' (p :: h')
theorem Upd.spec (u : Upd h b o o' h') : (b, o) ∈ h ∧ h'.map Prod.fst = h.map Prod.fst ∧ ((h.map Prod.fst).Nodup → ∀ c x, (c, x) ∈ h' → (c = b ∧ x = o') ∨ (c ≠ b ∧ (c, x) ∈ h)) := by
 induction u with
 | @head h b o o' =>
  refine ⟨List.mem_cons_self, rfl, fun hn c x hc => ?_⟩
  rcases List.mem_cons.1 hc with hc | hc
  ·cases hc
   exact .inl ⟨rfl, rfl⟩
  simp only [List.map_cons, List.nodup_cons] at hn
  refine .inr ⟨fun e => hn.1 ?_, List.mem_cons_of_mem _ hc⟩
  exact List.mem_map.2 ⟨_, hc, e⟩
 | @tail h h' b o o' p u ih =>
  obtain ⟨h1, h2, h3⟩ := ih
  refine ⟨List.mem_cons_of_mem _ h1, by simp [h2], fun hn c x hc => ?_⟩
  simp only [List.map_cons, List.nodup_cons] at hn
  rcases List.mem_cons.1 hc with hc | hc
  ·subst hc
   refine .inr ⟨fun e => hn.1 ?_, List.mem_cons_self⟩
   exact List.mem_map.2 ⟨_, h1, e.symm⟩
  rcases h3 hn.2 c x hc with h | ⟨h4, h5⟩
  ·exact .inl h
  exact .inr ⟨h4, List.mem_cons_of_mem _ h5⟩
theorem Knows.set (k : Knows S m0 m h) (u : Upd h b o o' h') : Knows S m0 (m.set b (some o')) h' := by
 obtain ⟨h1, h2, h3⟩ := u.spec
 obtain ⟨g1, g2, g3⟩ := k.has b o h1
 have hlog : ∀ c, c ∈ (m.set b (some o')).log → c ∈ m.log ∨ (c = b ∧ b < m.lo) := by
  intro c hc
  simp only [AW.set] at hc
  cases hb : Nat.blt b m.lo with
  | true =>
   rw [hb] at hc
   rw [nblt, decide_eq_true_eq] at hb
   rcases List.mem_cons.1 hc with hc | hc
   ·exact .inr ⟨hc, hb⟩
   exact .inl hc
  | false =>
   rw [hb] at hc
   exact .inl hc
 refine ⟨k.lole, k.next, k.lo, fun c hc => ?_, fun hs => ?_, fun c hc hs => ?_, fun c x hc => ?_, by rw [h2]; exact k.apart⟩
 ·rcases hlog c hc with h | ⟨rfl, h⟩
  ·exact k.log c h
  rcases g3 with g3 | g3
  ·have := k.lole
   have := k.lo
   omega
  exact .inr ⟨g3, by rw [← k.lo]; exact h⟩
 ·have : Nat.blt b m.lo = false := by
   rw [nblt, decide_eq_false_iff_not]
   rcases g3 with g3 | g3
   ·have := k.lole
    have := k.lo
    omega
   have := hs b g3
   have := k.lo
   omega
  simp only [AW.set, this]
  exact k.none_ hs
 ·simp only [AW.set, Tr.get_set]
  rw [if_neg]
  ·exact k.keep c hc hs
  rintro rfl
  rcases g3 with g3 | g3
  ·omega
  exact hs g3
 simp only [AW.set, Tr.get_set]
 rcases h3 k.apart c x hc with ⟨rfl, rfl⟩ | ⟨h4, h5⟩
 ·exact ⟨by simp, g2, g3⟩
 rw [if_neg h4]
 exact k.has c x h5
end
end Go.Ab
namespace Go.Ab
variable [Vals]
def Ru (P : Program) (fr : AFr) (t : Task) (m : AW) (Q : Out → Prop) : Prop := ∃ k o, irun P k fr t m = some o ∧ Q o
theorem Ru.mono (h : Ru P fr t m Q) (hq : ∀ o, Q o → Q' o) : Ru P fr t m Q' := by
 obtain ⟨k, o, h1, h2⟩ := h
 exact ⟨k, o, h1, hq o h2⟩
theorem Ru.step (h : istep P (irun P k) fr t m = some o) (hq : Q o) : Ru P fr t m Q := ⟨k + 1, o, h, hq⟩
def Seq (P : Program) (f n : Nat) (r : Option Nat) (b : Code) (Q : Out → Prop) : Out → Prop
 | ⟨.normal, ts, _, m⟩ => Ru P ⟨f, n, ts, r⟩ (.code b) m Q
 | o => Q o
def Blk (id : Nat) (Q : Out → Prop) : Out → Prop
 | ⟨.exit i, ts, v, m⟩ => bif Nat.beq i id then Q ⟨.normal, ts, v, m⟩ else Q ⟨.exit i, ts, v, m⟩
 | o => Q o
section
variable {P : Program} {f n : Nat} {r : Option Nat} {ts : Tr Value} {m : AW} {Q : Out → Prop}
theorem Ru.seq (h : Ru P ⟨f, n, ts, r⟩ (.code a) m (Seq P f n r b Q)) : Ru P ⟨f, n, ts, r⟩ (.code (.seq a b)) m Q := by
 obtain ⟨k, ⟨ex, ts1, v, m1⟩, h1, h2⟩ := h
 cases ex with
 | normal =>
  obtain ⟨j, o, g1, g2⟩ := h2
  refine Ru.step (k := k + j) (o := o) ?_ g2
  show stSeq _ _ _ _ _ = _
  unfold stSeq
  rw [irun_le (Nat.le_add_right k j) _ _ _ _ h1]
  exact irun_le (Nat.le_add_left j k) _ _ _ _ g1
 | _ =>
  refine Ru.step (k := k) ?_ h2
  show stSeq _ _ _ _ _ = _
  unfold stSeq
  rw [h1]
theorem Ru.cond_true (hx : ev P ts x = some (.bool true)) (h : Ru P ⟨f, n, ts, r⟩ (.code a) m Q) : Ru P ⟨f, n, ts, r⟩ (.code (.cond x a b)) m Q := by
 obtain ⟨k, o, h1, h2⟩ := h
 refine Ru.step (k := k) (o := o) ?_ h2
 show stCond _ _ _ _ _ _ _ = _
 unfold stCond
 simp only [hx]
 exact h1
theorem Ru.cond_false (hx : ev P ts x = some (.bool false)) (h : Ru P ⟨f, n, ts, r⟩ (.code b) m Q) : Ru P ⟨f, n, ts, r⟩ (.code (.cond x a b)) m Q := by
 obtain ⟨k, o, h1, h2⟩ := h
 refine Ru.step (k := k) (o := o) ?_ h2
 show stCond _ _ _ _ _ _ _ = _
 unfold stCond
 simp only [hx]
 exact h1
theorem Ru.block {id : Nat} (h : Ru P ⟨f, n, ts, r⟩ (.code b) m (Blk id Q)) : Ru P ⟨f, n, ts, r⟩ (.code (.block id b)) m Q := by
 obtain ⟨k, ⟨ex, ts1, v, m1⟩, h1, h2⟩ := h
 have key : ∃ o, stBlock (irun P k) ⟨f, n, ts, r⟩ id b m = some o ∧ Q o := by
  unfold stBlock
  rw [h1]
  cases ex with
  | exit i =>
   simp only [Blk] at h2
   simp only
   cases hb : Nat.beq i id with
   | true => rw [hb] at h2; exact ⟨_, rfl, h2⟩
   | false => rw [hb] at h2; exact ⟨_, rfl, h2⟩
  | _ => exact ⟨_, rfl, h2⟩
 obtain ⟨o, g1, g2⟩ := key
 exact Ru.step (k := k) g1 g2
theorem Ru.loop (h : Ru P ⟨f, n, ts, r⟩ (.code b) m (Seq P f n r (.loop b) Q)) : Ru P ⟨f, n, ts, r⟩ (.code (.loop b)) m Q := by
 obtain ⟨k, ⟨ex, ts1, v, m1⟩, h1, h2⟩ := h
 cases ex with
 | normal =>
  obtain ⟨j, o, g1, g2⟩ := h2
  refine Ru.step (k := k + j) (o := o) ?_ g2
  show stLoop _ _ _ _ = _
  unfold stLoop
  rw [irun_le (Nat.le_add_right k j) _ _ _ _ h1]
  exact irun_le (Nat.le_add_left j k) _ _ _ _ g1
 | _ =>
  refine Ru.step (k := k) ?_ h2
  show stLoop _ _ _ _ = _
  unfold stLoop
  rw [h1]
end
structure Cx where
 P : Program
 f : Nat
 n : Nat
 r : Option Nat
 S : List Nat
 m0 : AW
def At (X : Cx) (e : Env) (h : Hp) (Q : Tr Value → AW → Prop) : Prop := ∀ ts m, Has X.n ts e → Knows X.S X.m0 m h → Q ts m
def Ce (X : Cx) (e : Env) (h : Hp) (c : Code) (Q : Out → Prop) : Prop := At X e h fun ts m => Ru X.P ⟨X.f, X.n, ts, X.r⟩ (.code c) m Q
def Ne (X : Cx) (e : Env) (h : Hp) (Q : Out → Prop) : Prop := At X e h fun ts m => Q ⟨.normal, ts, undef, m⟩
def Xe (X : Cx) (e : Env) (h : Hp) (i : Nat) (Q : Out → Prop) : Prop := At X e h fun ts m => Q ⟨.exit i, ts, undef, m⟩
def Re (X : Cx) (e : Env) (h : Hp) (Q : Out → Prop) : Prop := At X e h fun ts m => Q ⟨.ret, ts, undef, m⟩
abbrev SeqX (X : Cx) (b : Code) (Q : Out → Prop) : Out → Prop := Seq X.P X.f X.n X.r b Q
section
variable {X : Cx} {e : Env} {h : Hp} {Q : Out → Prop} {a b : Code}
theorem At.sub {Q : Tr Value → AW → Prop} (he : Sub e' e) (hh : h'.Sublist h) (q : At X e' h' Q) : At X e h Q := fun ts m h1 h2 => q ts m (h1.sub he) (h2.sub hh)
theorem Ce.sub (e' : Env) (h' : Hp) (he : Sub e' e) (hh : h'.Sublist h) (q : Ce X e' h' c Q) : Ce X e h c Q := At.sub he hh q
theorem Ne.sub (e' : Env) (h' : Hp) (he : Sub e' e) (hh : h'.Sublist h) (q : Ne X e' h' Q) : Ne X e h Q := At.sub he hh q
theorem Ce.seq (q : Ce X e h a (SeqX X b Q)) : Ce X e h (.seq a b) Q := fun ts m h1 h2 => (q ts m h1 h2).seq
theorem Ce.block {id : Nat} (q : Ce X e h b (Blk id Q)) : Ce X e h (.block id b) Q := fun ts m h1 h2 => (q ts m h1 h2).block
theorem Ce.skip (q : Ne X e h Q) : Ce X e h .skip Q := fun ts m h1 h2 => Ru.step (k := 0) rfl (q ts m h1 h2)
theorem Ce.label (q : Ne X e h Q) : Ce X e h (.label l) Q := fun ts m h1 h2 => Ru.step (k := 0) rfl (q ts m h1 h2)
theorem Ce.exit (q : Xe X e h i Q) : Ce X e h (.exit i) Q := fun ts m h1 h2 => Ru.step (k := 0) rfl (q ts m h1 h2)
theorem Ce.ret (q : Re X e h Q) : Ce X e h .ret Q := fun ts m h1 h2 => Ru.step (k := 0) rfl (q ts m h1 h2)
theorem Ce.cond_true (hx : evE X.P e x = some (.bool true)) (q : Ce X e h a Q) : Ce X e h (.cond x a b) Q := fun ts m h1 h2 => (q ts m h1 h2).cond_true (evE_ev h1 hx)
theorem Ce.cond_false (hx : evE X.P e x = some (.bool false)) (q : Ce X e h b Q) : Ce X e h (.cond x a b) Q := fun ts m h1 h2 => (q ts m h1 h2).cond_false (evE_ev h1 hx)
theorem Ce.cond (hx : evE X.P e x = some (.bool c)) (q1 : c = true → Ce X e h a Q) (q2 : c = false → Ce X e h b Q) : Ce X e h (.cond x a b) Q := by
 cases c with
 | true => exact Ce.cond_true hx (q1 rfl)
 | false => exact Ce.cond_false hx (q2 rfl)
theorem Ne.seq (q : Ce X e h b Q) : Ne X e h (SeqX X b Q) := q
theorem Ne.blk {id : Nat} (q : Ne X e h Q) : Ne X e h (Blk id Q) := q
theorem Xe.seq (q : Xe X e h i Q) : Xe X e h i (SeqX X b Q) := q
theorem Xe.blk (hb : Nat.beq i j = false) (q : Xe X e h i Q) : Xe X e h i (Blk j Q) := fun ts m h1 h2 => by
 show (bif Nat.beq i j then Q ⟨.normal, ts, undef, m⟩ else Q ⟨.exit i, ts, undef, m⟩)
 rw [hb]
 exact q ts m h1 h2
theorem Re.seq (q : Re X e h Q) : Re X e h (SeqX X b Q) := q
theorem Re.blk {id : Nat} (q : Re X e h Q) : Re X e h (Blk id Q) := q
section
variable {α : Type}
def Lp (X : Cx) (E : α → Env) (H : α → Hp) (R : α → Prop) (μ : α → Nat) (x : α) (Q : Out → Prop) : Out → Prop
 | ⟨.normal, ts, _, m⟩ => ∃ y, R y ∧ μ y < μ x ∧ Has X.n ts (E y) ∧ Knows X.S X.m0 m (H y)
 | o => Q o
variable {E : α → Env} {H : α → Hp} {R : α → Prop} {μ : α → Nat} {x : α}
theorem Ce.loop (E : α → Env) (H : α → Hp) (R : α → Prop) (μ : α → Nat) (x : α) (hx : R x) (he : Sub (E x) e) (hh : (H x).Sublist h) (step : ∀ x, R x → Ce X (E x) (H x) b (Lp X E H R μ x Q)) : Ce X e h (.loop b) Q := by
 refine Ce.sub _ _ he hh ?_
 have key : ∀ d x, μ x ≤ d → R x → Ce X (E x) (H x) (.loop b) Q := by
  intro d
  induction d with
  | zero =>
   intro x hd hx ts m h1 h2
   refine Ru.loop ((step x hx ts m h1 h2).mono ?_)
   rintro ⟨ex, ts1, v, m1⟩ ho
   cases ex with
   | normal =>
    obtain ⟨y, _, h3, _⟩ := ho
    omega
   | _ => exact ho
  | succ d ih =>
   intro x hd hx ts m h1 h2
   refine Ru.loop ((step x hx ts m h1 h2).mono ?_)
   rintro ⟨ex, ts1, v, m1⟩ ho
   cases ex with
   | normal =>
    obtain ⟨y, h3, h4, h5, h6⟩ := ho
    exact ih y (by omega) h3 ts1 m1 h5 h6
   | _ => exact ho
 exact key (μ x) x (Nat.le_refl _) hx
theorem Ne.loop (y : α) (hy : R y) (hm : μ y < μ x) (he : Sub (E y) e) (hh : (H y).Sublist h) : Ne X e h (Lp X E H R μ x Q) := fun _ _ h1 h2 => ⟨y, hy, hm, h1.sub he, h2.sub hh⟩
theorem Xe.loop (q : Xe X e h i Q) : Xe X e h i (Lp X E H R μ x Q) := q
theorem Re.loop (q : Re X e h Q) : Re X e h (Lp X E H R μ x Q) := q
end
end
def Fc (P : Program) (f : FuncId) (args : List Value) (m : AW) (Q : Value → AW → Prop) : Prop := ∃ k v m', irun P k noFr (.fn f args) m = some ⟨.ret, .lf, v, m'⟩ ∧ Q v m'
theorem Fc.mono (h : Fc P f args m Q) (hq : ∀ v m', Q v m' → Q' v m') : Fc P f args m Q' := by
 obtain ⟨k, v, m', h1, h2⟩ := h
 exact ⟨k, v, m', h1, hq _ _ h2⟩
def End (P : Program) (fn : Func) (Q : Value → AW → Prop) : Out → Prop
 | ⟨.normal, ts, _, m⟩ => ts.get dIx = none ∧ ∃ v, resA P fn ts m = some v ∧ Q v m
 | ⟨.ret, ts, _, m⟩ => ts.get dIx = none ∧ ∃ v, resA P fn ts m = some v ∧ Q v m
 | _ => False
theorem Fc.body (hf : P.funcs[f]? = some fn) (hb : fn.body = some c) (hv : Vals.call f args = none) (h1 : Nat.ble args.length fn.ntmps = true) (h2 : Nat.ble fn.ntmps dIx = true) (hm : m.lo ≤ m.next)
  (q : Ce ⟨P, f, fn.ntmps, none, [], m⟩ (argsE args 0) [] c (End P fn Q)) : Fc P f args m Q := by
 obtain ⟨k, ⟨ex, ts, v, m'⟩, g1, g2⟩ := q _ m (Has.args h1 h2) (Knows.start hm)
 have hbb : (Nat.ble args.length fn.ntmps && Nat.ble fn.ntmps dIx) = true := by rw [h1, h2]; rfl
 have key : ∃ v m', stFn P (irun P k) f args m = some ⟨.ret, .lf, v, m'⟩ ∧ Q v m' := by
  unfold stFn
  simp only [hf, hb, hv]
  unfold stFb
  simp only [hbb, cond_true]
  simp only at g1
  rw [g1]
  have hd : ∀ (ts : Tr Value) (m : AW) (v : Value), ts.get dIx = none → resA P fn ts m = some v → retD P (irun P k) fn ts m = some ⟨.ret, .lf, v, m⟩ := by
   intro ts m v e1 e2
   unfold retD defsOf
   rw [e1]
   simp only [runD, retFn, e2]
  cases ex with
  | normal =>
   obtain ⟨e0, w, e1, e2⟩ := g2
   exact ⟨w, m', hd _ _ _ e0 e1, e2⟩
  | ret =>
   obtain ⟨e0, w, e1, e2⟩ := g2
   exact ⟨w, m', hd _ _ _ e0 e1, e2⟩
  | _ => exact absurd g2 (by simp [End])
 obtain ⟨w, m2, e1, e2⟩ := key
 exact ⟨k + 1, w, m2, e1, e2⟩
theorem Fc.known (hf : P.funcs[f]? = some fn) (hb : fn.body.isSome = true) (hv : Vals.call f args = some v) (hs : (scals args && scalT v) = true) (hl : (Nat.ble P.globals.size laidEnd && hasL m.heap Vals.laid) = true) : Fc P f args m fun w m' => w = v ∧ m' = m := by
 obtain ⟨c, hc⟩ := Option.isSome_iff_exists.1 hb
 refine ⟨1, v, m, ?_, rfl, rfl⟩
 show stFn P _ f args m = _
 unfold stFn
 simp only [hf, hc, hv, hs, hl, Bool.and_self, cond_true]
def resE (e : Env) : List ResultVar → Option (List Value)
 | [] => some []
 | .tmp t :: rs => match look e t with
  | some v => match resE e rs with
   | some vs => some (v :: vs)
   | none => none
  | none => none
 | .cell _ _ :: _ => none
def tupV : List Value → Value
 | [v] => v
 | vs => .tuple ⟨vs⟩
theorem resE_spec {P : Program} {n : Nat} {ts : Tr Value} {e : Env} {m : AW} (H : Has n ts e) : ∀ {rs : List ResultVar} {vs : List Value}, resE e rs = some vs → resA.go P ts m rs = some vs
 | [], vs, h => h
 | .tmp t :: rs, vs, h => by
  unfold resE at h
  split at h
  ·rename_i v hv
   split at h
   ·rename_i ws hw
    cases h
    obtain ⟨h1, h2⟩ := H.at_ t v hv
    have hb : Nat.blt t dIx = true := by
     rw [nblt, decide_eq_true_eq]
     have := H.few
     omega
    unfold resA.go
    simp only [hb, cond_true, resE_spec H hw, h2]
    rfl
   cases h
  cases h
 | .cell _ _ :: _, _, h => by cases h
section
variable {X : Cx} {e : Env} {h : Hp} {fn : Func} {Q : Value → AW → Prop}
theorem Re.end_ (hr : fn.results.toList = rs) (hv : resE e rs = some vs) (q : ∀ m, Knows X.S X.m0 m h → Q (tupV vs) m) : Re X e h (End X.P fn Q) := fun ts m h1 h2 =>
 ⟨h1.defs, tupV vs, by unfold resA; rw [hr, resE_spec h1 hv]; unfold tupV; rfl, q m h2⟩
theorem Ne.end_ (hr : fn.results.toList = rs) (hv : resE e rs = some vs) (q : ∀ m, Knows X.S X.m0 m h → Q (tupV vs) m) : Ne X e h (End X.P fn Q) := fun ts m h1 h2 =>
 ⟨h1.defs, tupV vs, by unfold resA; rw [hr, resE_spec h1 hv]; unfold tupV; rfl, q m h2⟩
end
end Go.Ab