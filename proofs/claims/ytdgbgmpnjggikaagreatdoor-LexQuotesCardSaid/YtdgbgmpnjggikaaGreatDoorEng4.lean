/-
  The engine, part 4: an interpreter over abstract memories, and the proof that the model's machine does what it reckons. Conditions: none.
-/
import Derived.Test.YtdgbgmpnjggikaaGreatDoorEng3
import Derived.ChangeSame
import Derived.Handed
import Derived.OpenShut
import Derived.FnData
import Derived.ChangeArms

set_option autoImplicit true
set_option relaxedAutoImplicit true
set_option linter.unusedSectionVars false
set_option linter.unusedVariables false
set_option linter.unusedSimpArgs false
namespace Go.Ab
variable [Vals]
theorem fold_keeps (acc : List Nat) (j : Nat) : ∀ (es : List Edge) (s : Nat), s.testBit j = true → (es.foldl (fun s e => bif Region.binds .any e then s ||| (2 ^ e.on) ||| (acc.getD e.on 0) else s) s).testBit j = true
 | [], _, h => h
 | e :: es, s, h => by
  rw [List.foldl_cons]
  refine fold_keeps acc j es _ ?_
  cases Region.binds .any e with
  | true => simp [Nat.testBit_or, h]
  | false => exact h
theorem fold_edge (acc : List Nat) {e : Edge} (hb : Region.binds .any e = true) : ∀ (es : List Edge) (s : Nat), e ∈ es → (es.foldl (fun s e => bif Region.binds .any e then s ||| (2 ^ e.on) ||| (acc.getD e.on 0) else s) s).testBit e.on = true
 | [], _, h => by cases h
 | x :: es, s, h => by
  rw [List.foldl_cons]
  cases h with
  | head =>
   refine fold_keeps acc _ es _ ?_
   rw [hb]
   simp [Nat.testBit_or]
  | tail _ h => exact fold_edge acc hb es _ h
theorem pre_edge (ho : os[i]? = some o) (he : e ∈ o.after) (hb : Region.binds .any e = true) : ((preds os).getD i 0).testBit e.on = true := by
 obtain ⟨h1, _, h3⟩ := predsGo_spec os []
 have hi := h3 i o ho
 simp only [List.length_nil, Nat.zero_add] at hi
 have e1 : (preds os).getD i 0 = preOf ((preds os).take i) o := by
  unfold preds
  rw [List.getD_eq_getElem?_getD, hi]
  rfl
 rw [e1]
 exact fold_edge _ hb _ 0 (by simpa using he)
def cnt (f : Nat → Bool) : Nat → Nat
 | 0 => 0
 | k + 1 => cnt f k + bif f k then 1 else 0
theorem cnt_same {f g : Nat → Bool} : ∀ {k : Nat}, (∀ j, j < k → f j = g j) → cnt f k = cnt g k
 | 0, _ => rfl
 | k + 1, h => by simp only [cnt, cnt_same (k := k) fun j hj => h j (by omega), h k (by omega)]
theorem cnt_less {f g : Nat → Bool} {i : Nat} (hf : f i = true) (hg : g i = false) : ∀ {k : Nat}, i < k → (∀ j, j ≠ i → f j = g j) → cnt f k = cnt g k + 1
 | 0, h, _ => by omega
 | k + 1, h, hs => by
  simp only [cnt]
  by_cases e : k = i
  ·subst e
   rw [hf, hg, cnt_same fun j hj => hs j (by omega)]
   simp
  rw [cnt_less hf hg (k := k) (by omega) hs, hs k e]
  omega
theorem cnt_zero {f : Nat → Bool} : ∀ {k : Nat}, cnt f k = 0 → ∀ j, j < k → f j = false
 | 0, _, j, hj => by omega
 | k + 1, h, j, hj => by
  simp only [cnt] at h
  by_cases e : j = k
  ·subst e
   cases hf : f j with
   | false => rfl
   | true => rw [hf] at h; simp at h
  exact cnt_zero (k := k) (by
   cases hf : f k with
   | false => rw [hf] at h; simpa using h
   | true => rw [hf] at h; simp at h) j (by omega)
section
variable {P : Program} [FactsOk P] {slf : Self} {n base lo : Nat} {ops : Array Oper} {T : Nat → Tr Value} {M : Nat → AW} {L : Nat → List Nat} {R : Nat → Option Rd} {A : Nat → List (Nat × Nat)}
variable {ρ0 : Ren} {w0 : World} {ds : List Deferred}
theorem Inv.all (I : Inv P n ops T M ρ0 w0 ds S H mS ρ w a) (h : ∀ j, S j ↔ S' j) : Inv P n ops T M ρ0 w0 ds S' H mS ρ w a := by
 have : S = S' := funext fun j => propext (h j)
 rw [← this]
 exact I
theorem draw_run (C : Ctx P slf n base lo ops T M L R A) (hpl : ∀ j x, Amk P ops T j x → mateOf x = none ∧ isRo x = false) :
    ∀ (fuel t : Nat) (listed : Array Bool) (H : Nat) (mS : AW) (ρ : Ren) (w : World) (a : Act), listed.size = ops.size → cnt (fun j => !listed.getD j true) ops.size ≤ fuel → Inv P n ops T M ρ0 w0 ds (fun j => listed.getD j false = true) H mS ρ w a →
      ∃ H' mS' ρ' w' a', Steps P (lone (on b a (.inRegion ops (Region.linearise.go .any ops fuel t listed []) :: k)) cs w) (lone (on b a' k) cs w') ∧ Inv P n ops T M ρ0 w0 ds (fun j => j < ops.size) H' mS' ρ' w' a' := by
  have same : ∀ (listed : Array Bool), listed.size = ops.size → ∀ j, j < ops.size → listed.getD j true = listed.getD j false := by
    intro listed hs j hj
    simp [Array.getD_eq_getD_getElem?, Array.getElem?_eq_getElem (hs ▸ hj)]
  have out : ∀ (listed : Array Bool), listed.size = ops.size → ∀ j, listed.getD j false = true → j < ops.size := by
    intro listed hs j hj
    rcases Nat.lt_or_ge j ops.size with h | h
    · exact h
    · rw [Array.getD_eq_getD_getElem?, Array.getElem?_eq_none (by omega)] at hj
      cases hj
  intro fuel
  induction fuel with
  | zero =>
    intro t listed H mS ρ w a hs hc I
    have hall := cnt_zero (Nat.le_zero.1 hc)
    refine ⟨H, mS, ρ, w, a, ?_, I.all fun j => ⟨out listed hs j, fun hj => ?_⟩⟩
    · simp only [Region.linearise.go, List.reverse_nil]
      exact .one on_region_end
    · have := hall j hj
      rw [← same listed hs j hj]
      simpa using this
  | succ fuel ih =>
    intro t listed H mS ρ w a hs hc I
    simp only [Region.linearise.go]
    change ∃ H' mS' ρ' w' a', Steps P (lone (on b a (.inRegion ops (match (Region.ready .any ops listed)[t % (Region.ready .any ops listed).length]? with
      | some i => Region.linearise.go .any ops fuel (t / (Region.ready .any ops listed).length) (listed.setIfInBounds i true) [i]
      | none => [].reverse) :: k)) cs w) _ ∧ _
    cases hi : (Region.ready .any ops listed)[t % (Region.ready .any ops listed).length]? with
    | none =>
      have hnil : Region.ready .any ops listed = [] := by
        cases hr : Region.ready .any ops listed with
        | nil => rfl
        | cons x xs =>
          rw [hr] at hi
          have hlt : t % (x :: xs).length < (x :: xs).length := Nat.mod_lt _ (by simp)
          simp at hi
          simp at hlt
          omega
      have hall : ∀ j, j < ops.size → listed.getD j false = true := by
        intro j
        induction j using Nat.strongRecOn with
        | ind j ihj =>
          intro hj
          cases hx : listed.getD j false with
          | true => rfl
          | false =>
            have : j ∈ Region.ready .any ops listed := by
              rw [mem_ready]
              refine ⟨by rw [same listed hs j hj]; exact hx, ops[j], Array.getElem?_eq_getElem hj, fun e he hb => ?_⟩
              have h1 := pre_edge (os := ops.toList) (i := j) (o := ops[j]) (by simp [hj]) he hb
              have h2 := C.tm.below j e.on hj h1
              exact ihj e.on h2 (by omega)
            rw [hnil] at this
            cases this
      exact ⟨H, mS, ρ, w, a, .one on_region_end, I.all fun j => ⟨out listed hs j, hall j⟩⟩
    | some i =>
      simp only
      rw [linearise_go_acc, List.reverse_singleton, List.singleton_append]
      have hmem := List.mem_of_getElem? hi
      rw [mem_ready] at hmem
      obtain ⟨h0, o, ho, hedges⟩ := hmem
      have hlt : i < ops.size := (Array.getElem?_eq_some_iff.1 ho).1
      have hrdy : ∀ j, (preAt ops i).testBit j = true → listed.getD j false = true := by
        intro j hj
        obtain ⟨e, q1, q2, q3⟩ := pre_spec (os := ops.toList) (i := i) (o := o) (by simpa using ho) hj
        rcases q3 with rfl | q3
        · exact hedges e q1 q2
        · exact I.closed e.on j (hedges e q1 q2) q3
      have hns : ¬ (listed.getD i false = true) := by
        rw [← same listed hs i hlt, h0]
        simp
      obtain ⟨mS1, H1, ρ1, w1, a1, q1, q2⟩ := C.oneMore I ho hns hrdy hpl (b := b) (k := k) (cs := cs) (rest := Region.linearise.go .any ops fuel (t / (Region.ready .any ops listed).length) (listed.setIfInBounds i true) [])
      have hset : ∀ j, (listed.setIfInBounds i true).getD j false = true ↔ (listed.getD j false = true ∨ j = i) := by
        intro j
        by_cases e : i = j
        · subst e
          simp [hs, hlt]
        · rw [getD_set_ne false e]
          constructor
          · exact .inl
          · exact fun h => h.resolve_right fun e2 => e e2.symm
      obtain ⟨H', mS', ρ', w', a', r1, r2⟩ := ih (t / (Region.ready .any ops listed).length) (listed.setIfInBounds i true) H1 mS1 ρ1 w1 a1 (by simpa using hs) (by
        have := cnt_less (f := fun j => !listed.getD j true) (g := fun j => !(listed.setIfInBounds i true).getD j true) (i := i) (by simp [h0]) (by simp [hs, hlt]) (k := ops.size) hlt (fun j hj => by
          show (!listed.getD j true) = !(listed.setIfInBounds i true).getD j true
          rw [getD_set_ne true (Ne.symm hj)])
        omega) (q2.all fun j => (hset j).symm)
      exact ⟨H', mS', ρ', w', a', q1.trans r1, r2⟩
end
end Go.Ab
namespace Go.Ab
variable [Vals]
section
variable {P : Program} [FactsOk P] {self : Self}
variable (hM : ∀ fr t m out, self fr t m = some out → Mono m out.m) (hS : ∀ fr t m out, self fr t m = some out → Sound P fr t m out)
include hM hS
theorem drawA_follows (hmx : P.follows .mixedOrders = true) {id : Nat} {ops : Array Oper} {fr : AFr} {m : AW} {out : Out} (h : drawA P self fr ops (ops.toList.zip (infos P ops.toList)) m = some out) : Follows P fr m out (Starts (.region id ops true)) := by
  intro ρ w b a n0 k cs todo hnr hr hf hok hn hst
  have htodo : todo = .code (.region id ops true) :: k := by
    rcases hst with h | ⟨_, h, _⟩
    · exact h
    · cases h
  subst htodo
  unfold drawA at h
  obtain ⟨hc, h⟩ := bif_some h
  simp only [Bool.and_eq_true] at hc
  obtain ⟨T, M, L, R, A, t1, t2, ta, t3, t4, t5, htr, _⟩ := dops_trace (P := P) (self := self) (n := fr.n) (ops := ops) (base := m.next) (lo := m.lo) (ops.toList.zip (infos P ops.toList)) 0 [] [] [] fr.ts m out
    (fun i o inf hk => ⟨by rw [(infos_ok hk).num, Nat.zero_add], (infos_ok hk).kind⟩) h
  have hlen : (ops.toList.zip (infos P ops.toList)).length = ops.size := by simp [infos]
  rw [Nat.zero_add, hlen] at t3 t4
  have hat : ∀ (k : Nat) o inf, (ops.toList.zip (infos P ops.toList))[k]? = some (o, inf) → ops[k]? = some o := fun i o inf hk => (infos_ok hk).at_
  have hr0 : Rel P ρ (M 0) w := by rw [t2]; exact hr
  have hf0 : Fresh ρ (M 0) (M ops.size) := by rw [t2, t4]; exact hf
  have ht0 : TsRel ρ fr.n (T 0) a.tmps := by rw [t1]; exact hok.tmps
  have C : Ctx P self fr.n m.next m.lo ops T M L R A := {
    mono := hM
    sound := hS
    tr := htr
    a0 := ta
    tm := tmps_ok hc.2
    nj := fun i c h1 h2 h3 => no_junk hM hS htr hat hr0 (by rw [hlen]; exact hf0) ht0 (by rw [hlen]; exact h1) h2 (by rw [hlen]; exact h3)
    low := by rw [t2] }
  have hpl : ∀ j x, Amk P ops T j x → mateOf x = none ∧ isRo x = false := by
    intro j x hx
    obtain ⟨ρ1, w1, a1, q1, _, q3⟩ := ghost_run hM hS htr hat hr0 (by rw [hlen]; exact hf0) ht0 j (by rw [hlen]; exact Nat.le_of_lt hx.lt)
    exact hx.plain (erel_of q3 q1.glob)
  have g0 : Grow ρ ρ (M 0) ⟨m.heap, (M ops.size).next, m.lo, []⟩ w { w with drawn := w.drawn + 1 } := {
    le := .refl _
    only := fun _ _ => rfl
    rest := ⟨rfl, rfl, rfl⟩
    size := Nat.le_refl _
    keep := fun _ _ _ => rfl
    own := fun B hB => .inl (by rw [t2]; exact hB)
    next := C.nextLe (Nat.zero_le _) (Nat.le_refl _)
    occ := fun B hB => .inl (by rw [t2]; exact hB) }
  have I : Inv P fr.n ops T M ρ w a.defers (fun j => (Array.replicate ops.size false).getD j false = true) 0 ⟨m.heap, (M ops.size).next, m.lo, []⟩ ρ { w with drawn := w.drawn + 1 } a := by
    have hno : ∀ j, ¬ ((Array.replicate ops.size false).getD j false = true) := by
      intro j
      rw [Array.getD_eq_getD_getElem?, Array.getElem?_replicate]
      split <;> simp
    refine { closed := fun i j h => absurd h (hno i), hle := Nat.zero_le _, hst := fun j _ => ⟨fun h => absurd h (hno j), fun h => by omega⟩, late := fun j x h => by omega, rel := hr.of_heap rfl rfl, nx := rfl, extra := fun j x _ _ h => absurd h (hno j), rest := fun c _ => by rw [t2], free := ?_, size := hok.tmps.1.1, nle := hok.tmps.1.2, tmp := ?_, tmp0 := fun t htd _ => ht0.2 t htd, grow := g0, defers := rfl }
    · intro j c h1 _ h3 h4
      have e1 := C.nextLe (Nat.zero_le j) (Nat.le_of_lt h1)
      have e2 := C.nextLe (i := j + 1) (j := ops.size) h1 (Nat.le_refl _)
      exact hf0 c (by omega) (by omega)
    · intro t htd
      by_cases hw : t < fr.n ∧ ∃ (j : Nat) (o : Oper), ops[j]? = some o ∧ o.dst = some t
      · obtain ⟨h1, j, o, h2, h3⟩ := hw
        exact .inl ⟨h1, j, o, h2, hno j, h3⟩
      · right
        have := C.tmpKeeps (t := t) (p := 0) ops.size (by omega) (by
          rcases Nat.lt_or_ge t fr.n with h1 | h1
          · exact .inr fun j o _ _ h2 h3 => hw ⟨h1, j, o, h2, h3⟩
          · exact .inl h1)
        rw [Nat.zero_add] at this
        rw [this]
        exact ht0.2 t htd
  obtain ⟨H, mS, ρ', w', a', q1, q2⟩ := draw_run C hpl (b := b) (k := k) (cs := cs) ops.size (w.tape w.drawn (.order b.fn id)) (Array.replicate ops.size false) 0 _ ρ { w with drawn := w.drawn + 1 } a (by simp) (by
    have : ∀ (f : Nat → Bool) (n : Nat), cnt f n ≤ n := by
      intro f n
      induction n with
      | zero => exact Nat.le_refl _
      | succ n ih =>
        simp only [cnt]
        cases f n <;> simp <;> omega
    exact this _ _) I
  have hall : ∀ j x, Amk P ops T j x → j < ops.size := fun j x h => h.lt
  have hget : ∀ c, (M ops.size).heap.get c = mS.heap.get c := by
    intro c
    have hH := q2.hle
    have hnoH : ∀ j, H ≤ j → j < H + (ops.size - H) → ¬ Hst P ops T j := fun j h1 h2 hh => by
      have := (q2.hst j hh).1 (by omega)
      omega
    by_cases e : ∃ j x, H ≤ j ∧ Amk P ops T j x ∧ c = (M j).next
    · obtain ⟨j, x, e1, e2, rfl⟩ := e
      have := C.segMade (p := H) (d := ops.size - H) (j := j) (x := x) (by omega) hnoH e1 (by have := e2.lt; omega) e2
      rw [show H + (ops.size - H) = ops.size by omega] at this
      rw [this, q2.extra j x e1 e2 e2.lt]
    · rw [q2.rest c fun j x h1 h2 h3 => h2.elim (fun h => e ⟨j, x, h.1, h1, h3⟩) fun h => h.2 h1.lt]
      have := C.seg (b := c) (p := H) (ops.size - H) (by omega) hnoH fun j x h1 _ h2 h3 => e ⟨j, x, h1, h2, h3⟩
      rwa [show H + (ops.size - H) = ops.size by omega] at this
  have hrel : Rel P ρ' out.m w' := q2.rel.sub fun c x hx => by
    rw [← hget c, t4]
    exact hx
  have hgrow : Grow ρ ρ' m out.m w w' := by
    have h1 := q2.grow
    rw [t2] at h1
    exact h1.of_get (fun c x hx => by rw [← hget c, t4]; exact hx) (by rw [q2.nx, t4])
  have hts : TsRel ρ' fr.n out.ts a'.tmps := by
    refine ⟨⟨q2.size, hok.tmps.1.2⟩, fun t htd => ?_⟩
    rcases q2.tmp t htd with ⟨_, j, o, h1, h2, _⟩ | h1
    · exact absurd (Array.getElem?_eq_some_iff.1 h1).1 h2
    · rw [t3] at h1
      exact h1
  have hdf : defsOf out.ts = defsOf fr.ts := by
    have := C.tmpKeeps (t := dIx) (p := 0) ops.size (by omega) (.inl hok.tmps.1.2)
    rw [Nat.zero_add, t3, t1] at this
    unfold defsOf
    rw [this]
  have hsteps : Steps P (lone (on b a (.code (.region id ops true) :: k)) cs w) (lone (on b a' k) cs w') := by
    refine .head on_region_draw ?_
    simp only [Region.schedule, hmx, Bool.true_or, if_true]
    exact q1
  refine ⟨ρ', w', a', on b a' k, hsteps, ?_, hrel, hgrow, hok.grow hgrow q2.defers hdf hts⟩
  rw [t5]
  rfl
end
end Go.Ab
namespace Go.Ab
variable [Vals]
section
variable {P : Program} [FactsOk P] {self : Self}
variable (hM : ∀ fr t m out, self fr t m = some out → Mono m out.m) (hS : ∀ fr t m out, self fr t m = some out → Sound P fr t m out)
include hM hS
theorem istep_sound (hP : PlainNames P) (hmx : P.follows .mixedOrders = true) {fr : AFr} {t : Task} {m : AW} {out : Out} (h : istep P self fr t m = some out) : Sound P fr t m out := by
 unfold istep at h
 cases t with
 | scope body rest => exact stScope_follows hM hS h
 | fn f args => exact stFn_follows hM hS hP h
 | dfn f args => exact stDfn_follows hM hS hP h
 | yield l args => exact stYield_follows hM hS h
 | code c =>
  simp only at h
  unfold stCode at h
  cases c with
  | skip =>
   cases h
   rintro ρ w b a n0 k cs todo hnr hr hf hok hn (rfl | ⟨_, h, _⟩)
   ·exact ⟨ρ, w, a, _, .one on_skip, rfl, hr, .refl _ _ _, hok⟩
   cases h
  | label l =>
   cases h
   rintro ρ w b a n0 k cs todo hnr hr hf hok hn (rfl | ⟨_, h, _⟩)
   ·exact ⟨ρ, w, a, _, .one on_label, rfl, hr, .refl _ _ _, hok⟩
   cases h
  | seq x y => exact stSeq_follows hM hS h
  | cond x y z => exact stCond_follows hM hS h
  | block id c => exact stBlock_follows hM hS h
  | loop c => exact stLoop_follows hM hS h
  | exit id =>
   cases h
   rintro ρ w b a n0 k cs todo hnr hr hf hok hn (rfl | ⟨_, h, _⟩)
   ·exact ⟨ρ, w, a, _, .refl _ _, ⟨k, rfl, rfl⟩, hr, .refl _ _ _, hok⟩
   cases h
  | goto l =>
   cases h
   rintro ρ w b a n0 k cs todo hnr hr hf hok hn (rfl | ⟨_, h, _⟩)
   ·exact ⟨ρ, w, a, _, .refl _ _, ⟨k, rfl, rfl⟩, hr, .refl _ _ _, hok⟩
   cases h
  | ret =>
   cases h
   rintro ρ w b a n0 k cs todo hnr hr hf hok hn (rfl | ⟨_, h, _⟩)
   ·exact ⟨ρ, w, a, _, .refl _ _, ⟨k, rfl⟩, hr, .refl _ _ _, hok⟩
   cases h
  | scope c =>
   simp only at h
   rintro ρ w b a n0 k cs todo hnr hr hf hok hn (rfl | ⟨_, h, _⟩)
   ·exact Reaches.after0 (.one on_scope) (hS _ _ _ _ h ρ w b a n0 k cs _ hnr hr hf hok hn rfl)
   cases h
  | region id ops draw =>
   simp only at h
   cases draw with
   | true => exact drawA_follows hM hS hmx h
   | false =>
    simp only [cond_false] at h
    rintro ρ w b a n0 k cs todo hnr hr hf hok hn (rfl | ⟨_, h, _⟩)
    ·refine Reaches.after0 (.one on_region) ?_
     have := iops_follows (b := b) (n0 := n0) (k := k) (cs := cs) (fr := fr) hM hS ops.toList 0 fr.ts m out ρ w a rfl h (fun hq => by simpa using hq) hnr hr hf hok hn
     rwa [Nat.sub_zero, ← List.range_eq_range'] at this
    cases h
  | rangeFunc f params assign body => exact stRF_follows hM hS h
  | refuse r => cases h
end
theorem irun_sound {P : Program} [FactsOk P] (hP : PlainNames P) (hmx : P.follows .mixedOrders = true) : ∀ (k : Nat) (fr : AFr) (t : Task) (m : AW) (out : Out), irun P k fr t m = some out → Sound P fr t m out
 | 0, _, _, _, _, h => by simp [irun] at h
 | k + 1, fr, t, m, out, h => istep_sound (fun fr t m out => irun_mono k fr t m out) (fun fr t m out => irun_sound hP hmx k fr t m out) hP hmx h
end Go.Ab
namespace Go.Ab
def Still (W W' : World) : Prop := Rest W W' ∧ W.heap.size ≤ W'.heap.size ∧ ∀ b, b < W.heap.size → W'.heap[b]? = W.heap[b]?
theorem calls_of_irun [Vals] {P : Program} [FactsOk P] (hP : PlainNames P) (hmx : P.follows .mixedOrders = true) {k : Nat} {fr : AFr} {f : FuncId} {args args' : List Value} {m : AW} {out : Out} (h : irun P k fr (.fn f args) m = some out) (hret : out.ex = .ret) {fn : Func} (hf : P.funcs[f]? = some fn) (hb : fn.body.isSome = true)
  {ρ : Ren} {W : World} (hr : Rel P ρ m W) (hfr : Fresh ρ m out.m) (ha : VsRel ρ args args') :
  Calls P f ⟨args'⟩ W fun e W' => ∃ v' ρ', e = .returned v' ∧ VRel ρ' out.v v' ∧ Rel P ρ' out.m W' ∧ Grow ρ ρ' m out.m W W' := by
 intro cs
 obtain ⟨c, hc⟩ := Option.isSome_iff_exists.1 hb
 have he := callFunc_enter hP hf hc ⟨args'⟩ W
 obtain ⟨ρ', w', q1, q2, q3⟩ := irun_sound hP hmx k _ _ _ _ h ρ W args' cs hr hfr ha
 rcases q3 with ⟨v', _, _, q4⟩ | ⟨_, fr', q5, q6, q7⟩
 ·rw [he] at q4
  cases q4
 rcases q7 with ⟨v', q8, q9, q10⟩ | ⟨v, _, q8, _⟩
 ·exact ⟨.returned v', w', fr', ⟨v', ρ', rfl, q9, q1, q2⟩, q6, q5, q10⟩
 rw [hret] at q8
 cases q8
def saysB (b : Bool) (o : Option Out) : Bool :=
 match o with
 | some ⟨.ret, _, .bool c, _⟩ => c == b
 | _ => false
theorem saysB_spec {b : Bool} {o : Option Out} (h : saysB b o = true) : ∃ out, o = some out ∧ out.ex = .ret ∧ out.v = .bool b := by
 unfold saysB at h
 split at h
 ·simp only [beq_iff_eq] at h
  subst h
  exact ⟨_, rfl, rfl, rfl⟩
 cases h
theorem Still.keptBut {W W' : World} (h : Still W W') (may : MemPlace → Prop) : W.keptBut W' may := by
 refine ⟨h.1.1, h.1.2.2, fun i hi => ?_⟩
 rw [h.2.2 i hi]
 split
 ·rename_i h1 h2
  rw [h1] at h2
  cases h2
  exact ⟨rfl, rfl, rfl, fun _ _ => rfl⟩
 ·rename_i h1 h2
  rw [h1] at h2
  cases h2
  exact .inr ⟨rfl, rfl⟩
 rfl
theorem Still.frozen {W W' : World} (h : Still W W') {a : Addr} (ha : a.block < W.heap.size) : W'.frozen? a = W.frozen? a := by
 simp [World.frozen?, h.2.2 _ ha]
def plainNamesB (P : Program) : Bool := P.funcs.toList.all fun fn => !fn.body.isSome || fn.name != "runtime.NumGoroutine"
theorem plainNames_of {P : Program} (h : plainNamesB P = true) : PlainNames P := by
 intro f fn hf hb hn
 have := List.all_eq_true.1 h fn (by
  have := Array.mem_of_getElem? hf
  simpa using this)
 simp [hb, hn] at this
theorem globals_of_shaped {P : Program} {w : World} (h : w.ShapedOpen P) (hk : Nat.blt P.globals.size (begin P (fun _ _ => 0) default).world.heap.size = true) : P.globals.size ≤ w.heap.size := by
 rw [nblt, decide_eq_true_eq] at hk
 obtain ⟨o, _, ho, _⟩ := h.2 P.globals.size (Nat.le_refl _) hk
 have := (Array.getElem?_eq_some_iff.1 ho).1
 omega
section
variable {H : Type} {enc : TypeId × Value → H}
theorem post_law {P : Program} {f : Func} {s : ChangeSpec} {apart fresh handsOn again : Bool} {W W' : World} {args : Array Value} {v : Value} {ds gs : List (DataW H)} {before pa pv : List MemPlace}
  (hW : DataW.Whole enc P f.params.toList s.vars apart W args.toList ds gs before)
  (hres : ∀ (b : Nat) (sp : Nat → Bool) (hd : Bool), DataW.TrodAll enc P W' b sp hd f.resultTypes.toList (v.resultList f.resultTypes.size) (s.fn H (ds ++ gs)).results [])
  (hargs : ∀ sp : Nat → Bool, (∀ p ∈ before, sp p.block = true) → DataW.TrodAll enc P W' 0 sp true f.params.toList args.toList (s.fn H (ds ++ gs)).args pa)
  (hvars : ∀ sp : Nat → Bool, (∀ p ∈ before, sp p.block = true) → DataW.TrodVars enc P W' sp s.vars (s.fn H (ds ++ gs)).vars pv)
  (hps : before = pa ++ pv) (hk : Still W W')
  (hok : ∀ (j : Nat) (t : TypeId) (r : Value), f.resultTypes[j]? = some t → (v.resultList f.resultTypes.size)[j]? = some r → Value.okWide P W' .any 0 t r) :
  s.post enc P f apart fresh handsOn again W args v W' := by
 have hold : ∀ p ∈ before, (fun b => decide (b < W.heap.size)) p.block = true := fun p hp => by simpa using hW.lt p hp
 have hlt := hW.lt
 refine ⟨ds, gs, before, [], pa, pv, hW, hres _ _ _, hargs _ hold, hvars _ hold, hk.keptBut _, fun _ => ?_⟩
 obtain ⟨_, _, _, _, _, hz, hn⟩ := hW
 refine ⟨hok, _, _, ([] ++ pa) ++ pv, ⟨[] ++ pa, pv, ChangeShapes.trodAll_append (hargs _ (fun _ _ => rfl)) (hres _ _ _), hvars _ (fun _ _ => rfl), rfl, ?_, ?_⟩, ?_⟩
 ·intro b off hp
  have hmem : MemPlace.cell b off ∈ before := by rw [hps]; simpa using hp
  have := hlt _ hmem
  rw [hk.frozen this]
  exact hz b off hmem
 ·intro ha
  have := hn ha
  rw [hps] at this
  simpa using this
 intro p hp _
 rw [hps]
 simpa using hp
theorem returns_shaped {a : Assume} {C : Checked} {os : Os} {f : FuncId} {fn : Func} {s : ChangeSpec} {conds : List PathCond} {apart fresh handsOn again : Bool} {X : World → Array Value → Prop}
    (hX : ∀ (w w' : World) (args : Array Value), w.heap = w'.heap → X w args → X w' args)
    (own : ownKnob C.prog.godebug = none) (started : os.Started) (noInit : C.prog.inits.idxOf? f = none) (hfn : C.prog.funcs[f]? = some fn)
    (witness : ∃ (w : World) (tape : Tape) (i : Input), w.os = os ∧ (w.forCall tape i).Shaped C.prog ∧ i.vars = [] ∧ Input.okWide C.prog (w.forCall tape i) .any w.heap.size f i ∧
      ((s.pre enc C.prog fn conds apart (w.forCall tape i).memory i.args ∧ X (w.forCall tape i).memory i.args) ∧ sizedMet enc C.prog fn (OpenSpec.ofChange s) apart (w.forCall tape i).memory i.args) ∧ a.holds C.prog (lone (Frame.enter C.prog f i.args .normal) [] (w.forCall tape i)))
    (contract : ∀ (W : World) (base : Nat) (args : Array Value) (ds gs : List (DataW H)) (before : List MemPlace), W.ShapedOpen C.prog →
      (∀ (j : Nat) t v, fn.params[j]? = some t → args[j]? = some v → Value.okWide C.prog W .any base t v) →
      DataW.Whole enc C.prog fn.params.toList s.vars apart W args.toList ds gs before →
      conds.all (PathCond.test C.prog ⟨fn.params.toList, ds, s.plain.varTypes C.prog, gs⟩) = true →
      (DataW.weightsEach C.prog (fn.params.toList ++ s.plain.varTypes C.prog) (ds ++ gs)).all (· ≤ reachBytes) = true → X W args →
      Calls C.prog f args W fun e W' => ∃ v, e = .returned v ∧ s.post enc C.prog fn apart fresh handsOn again W args v W') :
    ReturnsInHanded a C os f .any (fun w args => (s.pre enc C.prog fn conds apart w args ∧ X w args) ∧ sizedMet enc C.prog fn (OpenSpec.ofChange s) apart w args) (s.post enc C.prog fn apart fresh handsOn again) := by
  refine returnsInHanded_of_calls own started noInit witness ?_
  intro w tape i _ hsh _ hok hpre hholds
  obtain ⟨_, _, _, fn', hfn', _, _, _, _, hval⟩ := hok
  have e : fn' = fn := Option.some.inj (hfn'.symm.trans hfn)
  subst e
  obtain ⟨⟨⟨ds, gs, before, hw, hc⟩, hx⟩, hz⟩ := hpre
  have hw' := DataW.Whole.of_heap (w' := w.forCall tape i) (by rfl) hw
  refine (contract (w.forCall tape i) w.heap.size i.args ds gs before hsh hval hw' hc (hz.weights hw) (hX _ _ _ (by rfl) hx)).mono fun e W' ⟨v, he, hp⟩ => ?_
  subst he
  exact ChangeSpec.post_blind hp
end
end Go.Ab
namespace Go.Ab
def laidT (tt : Nat → TypeId) : List (Nat × Bool × List Value) → Tr AObj
 | [] => .lf
 | (b, g, vs) :: l => (laidT tt l).set b (some (.cells vs (tt b) g .ro none))
theorem laidT_get {tt : Nat → TypeId} {b : Nat} {o : AObj} : ∀ {l : List (Nat × Bool × List Value)}, (laidT tt l).get b = some o → ∃ g vs, (b, g, vs) ∈ l ∧ o = .cells vs (tt b) g .ro none
 | [], h => by cases h
 | (c, g, vs) :: l, h => by
  unfold laidT at h
  rw [Tr.get_set] at h
  split at h
  ·rename_i e
   subst e
   cases h
   exact ⟨g, vs, List.mem_cons_self, rfl⟩
  obtain ⟨t', vs', h1, h2⟩ := laidT_get h
  exact ⟨t', vs', List.mem_cons_of_mem _ h1, h2⟩
theorem relLaid [Vals] {P : Program} {W : World} {l : List (Nat × Bool × List Value)} {nx lo : Nat} {lg : List Nat} (hl : LiesBy P W l) : ∃ tt ρ, Rel P ρ ⟨laidT tt l, nx, lo, lg⟩ W ∧ ∀ i, laidEnd ≤ i → ρ i = none := by
 obtain ⟨ρ, h1, h2, h3⟩ := hl
 refine ⟨fun b => match ρ b with
  | some s => match W.heap[s.blk]? with
   | some (.cells _ t _) => t
   | _ => 0
  | none => 0, ρ, ⟨fun b o hb => ?_, fun b1 b2 o1 o2 s1 s2 _ g1 g2 _ _ _ => ?_, h1, fun b s hb => (h2 b s hb).2⟩, fun i hi => ?_⟩
 ·obtain ⟨g, vs, h4, rfl⟩ := laidT_get hb
  obtain ⟨s, c, t, fr, h5, h6, h7, h8, h9, h10⟩ := h3 b g vs h4
  refine ⟨s, _, h5, h6, c, fr, by simp only [h5, h6], h7, fun i v hi => ?_, h9, ?_, trivial⟩
  ·obtain ⟨v', e1, e2⟩ := h8 i v hi
   exact ⟨v', e1, e2.rel⟩
  simp only [h5, h6]
  exact h10
 ·obtain ⟨_, _, _, rfl⟩ := laidT_get g1
  obtain ⟨_, _, _, rfl⟩ := laidT_get g2
  exact .inr ⟨rfl, rfl⟩
 cases h : ρ i with
 | none => rfl
 | some s => have := (h2 i s h).1; omega
theorem calls_laid [Vals] {P : Program} [FactsOk P] (hP : PlainNames P) (hmx : P.follows .mixedOrders = true) {k : Nat} {fr : AFr} {f : FuncId} {args args' : List Value} {l : List (Nat × Bool × List Value)} {nx lo : Nat} {b : Bool} (h : ∀ tt, saysB b (irun P k fr (.fn f args) ⟨laidT tt l, nx, lo, []⟩) = true) {fn : Func} (hf : P.funcs[f]? = some fn) (hb : fn.body.isSome = true)
  {W : World} (hl : LiesBy P W l) (hnx : Nat.ble laidEnd nx = true) (ha : ∀ ρ, VsRel ρ args args') :
  Calls P f ⟨args'⟩ W fun e W' => e = .returned (.bool b) ∧ Still W W' := by
 obtain ⟨tt, ρ, hr, hn⟩ := relLaid (nx := nx) (lo := lo) (lg := []) hl
 obtain ⟨out, h1, h2, h3⟩ := saysB_spec (h tt)
 rw [nble, decide_eq_true_eq] at hnx
 refine (calls_of_irun hP hmx h1 h2 hf hb hr (fun i hi _ => hn i (Nat.le_trans hnx hi)) (ha ρ)).mono fun e W' ⟨v', ρ', q1, q2, _, q4⟩ => ?_
 rw [h3] at q2
 cases q2
 refine ⟨q1, q4.rest, q4.size, fun B hB => q4.keep B hB ?_⟩
 rintro ⟨c, o, s, g1, g2, _⟩
 obtain ⟨t, vs, _, rfl⟩ := laidT_get g1
 cases g2
theorem liesBy_of [Vals] {P : Program} {W : World} {l : List (Nat × Bool × List Value)} (hW : P.globals.size ≤ W.heap.size) (hP : P.globals.size ≤ laidEnd) (sl : Nat → Option Spot) (hs : ∀ i s, sl i = some s → s.blk < W.heap.size) {ρ : Ren} (hρ : ρ = fun i => if i < P.globals.size then some ⟨i, 0, 0⟩ else if i < laidEnd then sl i else none)
    (h : ∀ b g vs, (b, g, vs) ∈ l → ∃ s c t fr, ρ b = some s ∧ W.heap[s.blk]? = some (.cells c t fr) ∧ s.off + vs.length ≤ c.size ∧ (∀ (i : Nat) v, vs[i]? = some v → ∃ v', c[s.off + i]? = some v' ∧ LRel ρ v v') ∧
      (g = false → s.off = 0 ∧ c.size = vs.length) ∧ (g = true → s.cap < big ∧ s.off + s.cap * P.cellsOf t ≤ c.size)) : LiesBy P W l := by
  refine ⟨ρ, fun g hg => ⟨0, by rw [hρ]; simp [hg]⟩, fun b s hb => ?_, h⟩
  rw [hρ] at hb
  simp only at hb
  split at hb
  · cases hb
    exact ⟨by omega, by simp only; omega⟩
  · split at hb
    · exact ⟨by assumption, hs _ _ hb⟩
    · cases hb
theorem block_of_var {P : Program} {W : World} (hsh : W.ShapedOpen P) {n : String} {g k : Nat} {t : TypeId} {cs : Array Value} (hg : P.globalNamed n = some g) (hlt : Nat.blt g P.globals.size = true) (hv : W.var? P n = some cs)
  (hz : ((begin P (fun _ _ => 0) default).world.heap[g]?).bind (fun o => o.row?.map fun x => (x.1.size, x.2)) = some (k, t)) : ∃ fr, W.heap[g]? = some (.cells cs t fr) := by
 rw [nblt, decide_eq_true_eq] at hlt
 obtain ⟨o, ho, hr⟩ := Option.bind_eq_some_iff.1 hz
 obtain ⟨⟨z, t'⟩, hr, e⟩ := Option.map_eq_some_iff.1 hr
 simp only [Prod.mk.injEq] at e
 obtain ⟨c, h1, _⟩ := hsh.1 g z t' hlt (by rw [ho]; exact hr)
 refine ⟨(0, 0), ?_⟩
 have : c = cs := by
  apply Array.ext_getElem?
  intro i
  rw [← World.var?_cell hg hv i]
  simp [World.cell?, h1]
 rw [h1, this, e.2]
end Go.Ab
namespace Go.Ab
variable [Vals] {P : Program}
def SelfLe (s s' : Self) : Prop := ∀ fr t m o, s fr t m = some o → s' fr t m = some o
section
variable {s s' : Self} (hle : SelfLe s s')
include hle
theorem callA_le (h : callA s f args m = some r) : callA s' f args m = some r := by
 unfold callA at h ⊢
 cases e : s noFr (.fn f args) m with
 | none => rw [e] at h; cases h
 | some o => rw [e] at h; rw [hle _ _ _ _ e]; exact h
theorem callV_le (h : callV s f args m = some r) : callV s' f args m = some r := by
 unfold callV at h ⊢
 split at h
 ·exact callA_le hle h
 ·rename_i l _ _
  cases e : s noFr (.yield l args) m with
  | none => rw [e] at h; cases h
  | some o => rw [e] at h; rw [hle _ _ _ _ e]; exact h
 cases h
theorem callH_le (h : callH P s ts c m = some r) : callH P s' ts c m = some r := by
 unfold callH at h ⊢
 cases e : evs P ts c.args.toList with
 | none => rw [e] at h; cases h
 | some args =>
  rw [e] at h
  simp only at h ⊢
  split at h
  ·exact h
  ·split at h
   ·exact callV_le hle h
   cases h
  split at h
  ·split at h
   ·exact callA_le hle h
   cases h
  cases h
theorem opH_le (h : opH P s ts o m = some r) : opH P s' ts o m = some r := by
 cases o
 case call c => exact callH_le hle h
 all_goals exact h
theorem doOp_le (h : doOp P s ts o m = some r) : doOp P s' ts o m = some r := by
 unfold doOp at h ⊢
 split at h
 ·exact h
 ·exact h
 ·exact h
 exact opH_le hle h
theorem iops_le : ∀ {l : List Oper} {ts : Tr Value} {m : AW} {o : Out}, iops P s n q ops l ts m = some o → iops P s' n q ops l ts m = some o := by
 intro l
 induction l with
 | nil => intro ts m o h; exact h
 | cons x rest ih =>
  intro ts m o h
  unfold iops at h ⊢
  cases ew : wantedA ops ts x with
  | false => rw [ew] at h; exact ih h
  | true =>
   rw [ew] at h
   simp only [cond_true] at h ⊢
   cases hs : spc x.op with
   | no =>
    rw [hs] at h
    simp only at h ⊢
    cases e : doOp P s ts x.op m with
    | none => rw [e] at h; cases h
    | some r =>
     rw [e] at h
     rw [doOp_le hle e]
     cases r with
     | val v m => exact ih h
     | pan v m => exact h
   | defer c =>
    rw [hs] at h
    simp only at h ⊢
    cases e : dfrA P ts c with
    | none => rw [e] at h; cases h
    | some v =>
     rw [e] at h
     cases q with
     | false => cases h
     | true => exact ih h
   | recover =>
    rw [hs] at h
    simp only at h ⊢
    cases q with
    | false => cases h
    | true => exact ih h
theorem dops_le : ∀ {l : List (Oper × Info)} {rs : List (Nat × Rd)} {ws : List (Nat × List Nat)} {as : List (Nat × Nat)} {ts : Tr Value} {m : AW} {o : Out}, dops P s n ops base lo l rs ws as ts m = some o → dops P s' n ops base lo l rs ws as ts m = some o := by
 intro l
 induction l with
 | nil => intro rs ws as ts m o h; exact h
 | cons x rest ih =>
  obtain ⟨x, i⟩ := x
  intro rs ws as ts m o h
  unfold dops at h ⊢
  cases ew : wantedA ops ts x with
  | false => rw [ew] at h; exact ih h
  | true =>
   rw [ew] at h
   simp only [cond_true] at h ⊢
   cases hc : i.cls with
   | l =>
    rw [hc] at h
    simp only at h ⊢
    cases e : opL P ts x.op with
    | none => rw [e] at h; cases h
    | some lr =>
     rw [e] at h
     cases lr with
     | imm v => exact ih h
     | rd b f =>
      simp only at h ⊢
      cases e2 : (m.heap.get b).bind f with
      | none => rw [e2] at h; cases h
      | some v =>
       rw [e2] at h
       simp only at h ⊢
       cases e3 : (i.full && seenB i.pre b as) with
       | true => rw [e3] at h; exact ih h
       | false =>
        rw [e3] at h
        simp only [cond_false] at h ⊢
        cases e4 : (Nat.blt b base && readOk i.pre b ws) with
        | true => rw [e4] at h; exact ih h
        | false => rw [e4] at h; cases h
   | h =>
    rw [hc] at h
    simp only at h ⊢
    cases e : (i.hok && plainB i.pre m.heap as) with
    | false => rw [e] at h; cases h
    | true =>
     rw [e] at h
     simp only [cond_true] at h ⊢
     cases e2 : doOp P s ts x.op ⟨hideB i.pre as m.heap, m.next, base, []⟩ with
     | none => rw [e2] at h; cases h
     | some r =>
      rw [e2] at h
      rw [doOp_le hle e2]
      cases r with
      | pan v m => cases h
      | val v m' =>
       simp only at h ⊢
       cases e3 : writeOk i.pre m'.log (showB i.pre m.heap as m'.heap) rs with
       | true => rw [e3] at h; exact ih h
       | false => rw [e3] at h; cases h
   | a =>
    rw [hc] at h
    simp only at h ⊢
    cases e2 : doOp P s ts x.op m with
    | none => rw [e2] at h; cases h
    | some r =>
     rw [e2] at h
     rw [doOp_le hle e2]
     cases r with
     | pan v m => cases h
     | val v m' => exact ih h
   | p =>
    rw [hc] at h
    simp only at h ⊢
    cases e2 : doOp P s ts x.op m with
    | none => rw [e2] at h; cases h
    | some r =>
     rw [e2] at h
     rw [doOp_le hle e2]
     cases r with
     | pan v m => cases h
     | val v m' => exact ih h
theorem drawA_le (h : drawA P s fr ops l m = some o) : drawA P s' fr ops l m = some o := by
 unfold drawA at h ⊢
 obtain ⟨h1, h2⟩ := bif_some h
 rw [h1]
 exact dops_le hle h2
theorem stSeq_le (h : stSeq s fr a b m = some o) : stSeq s' fr a b m = some o := by
 unfold stSeq at h ⊢
 cases e : s fr (.code a) m with
 | none => rw [e] at h; cases h
 | some o1 =>
  rw [e] at h
  rw [hle _ _ _ _ e]
  obtain ⟨ex, ts, v, m1⟩ := o1
  cases ex <;> first | exact hle _ _ _ _ h | exact h
theorem stCond_le (h : stCond P s fr x a b m = some o) : stCond P s' fr x a b m = some o := by
 unfold stCond at h ⊢
 split at h
 ·exact hle _ _ _ _ h
 ·exact hle _ _ _ _ h
 cases h
theorem stBlock_le {id : Nat} (h : stBlock s fr id b m = some o) : stBlock s' fr id b m = some o := by
 unfold stBlock at h ⊢
 cases e : s fr (.code b) m with
 | none => rw [e] at h; cases h
 | some o1 => rw [e] at h; rw [hle _ _ _ _ e]; exact h
theorem stLoop_le (h : stLoop s fr b m = some o) : stLoop s' fr b m = some o := by
 unfold stLoop at h ⊢
 cases e : s fr (.code b) m with
 | none => rw [e] at h; cases h
 | some o1 =>
  rw [e] at h
  rw [hle _ _ _ _ e]
  obtain ⟨ex, ts, v, m1⟩ := o1
  cases ex <;> first | exact hle _ _ _ _ h | exact h
theorem stScope_le (h : stScope s fr a b m = some o) : stScope s' fr a b m = some o := by
 unfold stScope at h ⊢
 cases e : s fr (.code b) m with
 | none => rw [e] at h; cases h
 | some o1 =>
  rw [e] at h
  rw [hle _ _ _ _ e]
  obtain ⟨ex, ts, v, m1⟩ := o1
  cases ex with
  | goto l =>
   simp only at h ⊢
   cases e2 : findLabel a l with
   | none => rw [e2] at h; exact h
   | some r => rw [e2] at h; exact hle _ _ _ _ h
  | _ => exact h
theorem stRF_le (h : stRF P s fr f ps a b m = some o) : stRF P s' fr f ps a b m = some o := by
 unfold stRF at h ⊢
 split at h
 ·rename_i g first captured e0
  cases e : beginRF fr ps a b m with
  | none => rw [e] at h; cases h
  | some x =>
   obtain ⟨l, m2⟩ := x
   rw [e] at h
   simp only at h ⊢
   cases e2 : s noFr (.fn g (first ++ [.func (.yield l) #[] #[]] ++ captured)) m2 with
   | none => rw [e2] at h; cases h
   | some o1 => rw [e2] at h; rw [hle _ _ _ _ e2]; exact h
 cases h
theorem runD_le : ∀ {vs : List Value} {m m' : AW}, runD s vs m = some m' → runD s' vs m = some m' := by
 intro vs
 induction vs with
 | nil => intro m m' h; exact h
 | cons v vs ih =>
  intro m m' h
  unfold runD at h ⊢
  split at h
  ·rename_i f first captured
   cases e2 : s noFr (.dfn f (first ++ captured)) m with
   | none => rw [e2] at h; cases h
   | some o1 =>
    rw [e2] at h
    rw [hle _ _ _ _ e2]
    obtain ⟨ex, ts, v, m1⟩ := o1
    cases ex <;> first | exact ih h | cases h
  cases h
theorem retD_le (h : retD P s fn ts m = some o) : retD P s' fn ts m = some o := by
 unfold retD at h ⊢
 cases e : runD s (defsOf ts) m with
 | none => rw [e] at h; cases h
 | some m2 => rw [e] at h; rw [runD_le hle e]; exact h
theorem stFb_le (h : stFb P s f fn c args m = some o) : stFb P s' f fn c args m = some o := by
 unfold stFb at h ⊢
 obtain ⟨h1, h2⟩ := bif_some h
 rw [h1]
 simp only [cond_true]
 cases e : s ⟨f, fn.ntmps, argsT args 0 .lf, none⟩ (.code c) m with
 | none => rw [e] at h2; cases h2
 | some o1 =>
  rw [e] at h2
  rw [hle _ _ _ _ e]
  obtain ⟨ex, ts, v, m1⟩ := o1
  cases ex <;> first | exact retD_le hle h2 | exact h2
theorem stFn_le (h : stFn P s f args m = some o) : stFn P s' f args m = some o := by
 unfold stFn at h ⊢
 cases e : P.funcs[f]? with
 | none => rw [e] at h; cases h
 | some fn =>
  rw [e] at h
  simp only at h ⊢
  cases e2 : fn.body with
  | none => rw [e2] at h; exact h
  | some c =>
   rw [e2] at h
   simp only at h ⊢
   cases e3 : Vals.call f args with
   | some v => rw [e3] at h; exact h
   | none => rw [e3] at h; exact stFb_le hle h
theorem stDfn_le (h : stDfn P s f args m = some o) : stDfn P s' f args m = some o := by
 unfold stDfn at h ⊢
 cases e : P.funcs[f]? with
 | none => rw [e] at h; cases h
 | some fn =>
  rw [e] at h
  simp only at h ⊢
  cases e2 : fn.body with
  | none => rw [e2] at h; exact h
  | some c => rw [e2] at h; exact stFb_le hle h
theorem stBody_le (h : stBody P s l fn n ts bo m = some o) : stBody P s' l fn n ts bo m = some o := by
 unfold stBody at h ⊢
 split at h
 ·rename_i p fn' n' ts' ps as' bo' d e0
  cases e : s ⟨fn, n, ts, some l⟩ (.code bo) (m.set l (some (.loop .busy p fn' n' ts' ps as' bo' d))) with
  | none => rw [e] at h; cases h
  | some o1 => rw [e] at h; rw [hle _ _ _ _ e]; exact h
 cases h
theorem stYield_le (h : stYield P s l args m = some o) : stYield P s' l args m = some o := by
 unfold stYield at h ⊢
 split at h
 ·rename_i p fn n ts ps as bo d e0
  obtain ⟨h1, h2⟩ := bif_some h
  simp only [h1, cond_true]
  cases e : s ⟨fn, n, (ps.zip args).foldl (fun ts x => put n ts (some x.1) x.2) ts, some l⟩ (.code as) m with
  | none => rw [e] at h2; cases h2
  | some o1 =>
   rw [e] at h2
   rw [hle _ _ _ _ e]
   obtain ⟨ex, ts, v, m1⟩ := o1
   cases ex <;> first | exact stBody_le hle h2 | exact h2
 cases h
theorem stCode_le (h : stCode P s fr c m = some o) : stCode P s' fr c m = some o := by
 cases c
 case seq => exact stSeq_le hle h
 case cond => exact stCond_le hle h
 case block => exact stBlock_le hle h
 case loop => exact stLoop_le hle h
 case scope => exact hle _ _ _ _ h
 case region id ops draw =>
  cases draw
  ·exact iops_le hle h
  exact drawA_le hle h
 case rangeFunc => exact stRF_le hle h
 all_goals exact h
theorem istep_le (h : istep P s fr t m = some o) : istep P s' fr t m = some o := by
 cases t
 case code => exact stCode_le hle h
 case scope => exact stScope_le hle h
 case fn => exact stFn_le hle h
 case dfn => exact stDfn_le hle h
 case yield => exact stYield_le hle h
end
theorem irun_succ : ∀ (k : Nat), SelfLe (irun P k) (irun P (k + 1))
 | 0 => fun _ _ _ _ h => by cases h
 | k + 1 => fun fr t m o h => by
  show istep P (irun P (k + 1)) fr t m = some o
  exact istep_le (irun_succ k) h
theorem irun_le (h : j ≤ k) : SelfLe (irun P j) (irun P k) := by
 induction h with
 | refl => exact fun _ _ _ _ h => h
 | step _ ih => exact fun fr t m o e => irun_succ _ _ _ _ _ (ih _ _ _ _ e)
end Go.Ab
namespace Go.Ab
abbrev Env := List (Nat × Value)
def look : Env → Nat → Option Value
 | [], _ => none
 | (t, v) :: e, u => bif Nat.beq t u then some v else look e u
structure Has (n : Nat) (ts : Tr Value) (e : Env) : Prop where
 few : n ≤ dIx
 defs : ts.get dIx = none
 at_ : ∀ t v, look e t = some v → t < n ∧ ts.get t = some v
def Sub : Env → Env → Prop
 | [], _ => True
 | (t, v) :: e, e' => look e' t = some v ∧ Sub e e'
theorem Sub.look {e' : Env} : ∀ {e : Env} {t : Nat} {v : Value}, Sub e e' → look e t = some v → look e' t = some v
 | [], _, _, _, h => by cases h
 | (u, w) :: e, t, v, hs, h => by
  unfold Ab.look at h
  cases hb : Nat.beq u t with
  | true =>
   rw [hb] at h
   cases h
   rw [nbeq, decide_eq_true_eq] at hb
   subst hb
   exact hs.1
  | false =>
   rw [hb] at h
   exact Sub.look hs.2 h
theorem Has.sub (h : Has n ts e') (hs : Sub e e') : Has n ts e := ⟨h.few, h.defs, fun t v hl => h.at_ t v (hs.look hl)⟩
theorem Has.put (h : Has n ts e) (ht : Nat.blt t n = true) (v : Value) : Has n (put n ts (some t) v) ((t, v) :: e) := by
 unfold Ab.put
 simp only [ht, cond_true]
 rw [nblt, decide_eq_true_eq] at ht
 refine ⟨h.few, ?_, fun u w hl => ?_⟩
 ·rw [Tr.get_set, if_neg (by have := h.few; omega)]
  exact h.defs
 unfold look at hl
 rw [Tr.get_set]
 cases hb : Nat.beq t u with
 | true =>
  rw [hb] at hl
  cases hl
  rw [nbeq, decide_eq_true_eq] at hb
  subst hb
  exact ⟨ht, by simp⟩
 | false =>
  rw [hb] at hl
  rw [nbeq, decide_eq_false_iff_not] at hb
  rw [if_neg (fun e => hb e.symm)]
  exact h.at_ u w hl
def argsE : List Value → Nat → Env
 | [], _ => []
 | v :: vs, i => (i, v) :: argsE vs (i + 1)
theorem argsE_get : ∀ (vs : List Value) (i : Nat) (ts : Tr Value) (t : Nat) (v : Value), look (argsE vs i) t = some v → i ≤ t ∧ t < i + vs.length ∧ (argsT vs i ts).get t = some v
 | [], _, _, _, _, h => by cases h
 | x :: vs, i, ts, t, v, h => by
  unfold argsE look at h
  unfold argsT
  cases hb : Nat.beq i t with
  | true =>
   rw [hb] at h
   cases h
   rw [nbeq, decide_eq_true_eq] at hb
   subst hb
   refine ⟨Nat.le_refl _, by simp, ?_⟩
   have : ∀ (vs : List Value) (j : Nat) (ts : Tr Value), i < j → (argsT vs j ts).get i = ts.get i := by
    intro vs
    induction vs with
    | nil => intro j ts _; rfl
    | cons y ys ih =>
     intro j ts hj
     unfold argsT
     rw [ih _ _ (by omega), Tr.get_set, if_neg (by omega)]
   rw [this _ _ _ (by omega), Tr.get_set_same]
  | false =>
   rw [hb] at h
   obtain ⟨h1, h2, h3⟩ := argsE_get vs (i + 1) (ts.set i (some x)) t v h
   exact ⟨by omega, by simp; omega, h3⟩
theorem argsT_above : ∀ (vs : List Value) (i : Nat) (ts : Tr Value) (t : Nat), i + vs.length ≤ t → (argsT vs i ts).get t = ts.get t
 | [], _, _, _, _ => rfl
 | x :: vs, i, ts, t, h => by
  unfold argsT
  simp at h
  rw [argsT_above vs (i + 1) _ t (by omega), Tr.get_set, if_neg (by omega)]
theorem Has.args (h1 : Nat.ble vs.length n = true) (h2 : Nat.ble n dIx = true) : Has n (argsT vs 0 .lf) (argsE vs 0) := by
 rw [nble, decide_eq_true_eq] at h1 h2
 refine ⟨h2, by rw [argsT_above _ _ _ _ (by omega)]; rfl, fun t v h => ?_⟩
 obtain ⟨_, h3, h4⟩ := argsE_get vs 0 .lf t v h
 exact ⟨by omega, h4⟩
def evE (P : Program) (e : Env) : Operand → Option Value
 | .tmp t => look e t
 | .const v => bif ground v then some v else none
 | .global g => bif Nat.blt g P.globals.size then some (.pointer (some ⟨g, 0, none⟩)) else none
 | .func f => some (.func (.func f) ⟨[]⟩ ⟨[]⟩)
def evsE (P : Program) (e : Env) : List Operand → Option (List Value)
 | [] => some []
 | x :: xs => match evE P e x with
  | some v => match evsE P e xs with
   | some vs => some (v :: vs)
   | none => none
  | none => none
section
variable {P : Program} {n : Nat} {ts : Tr Value} {e : Env} (H : Has n ts e)
include H
theorem evE_ev (h : evE P e x = some v) : ev P ts x = some v := by
 cases x with
 | tmp t =>
  obtain ⟨h1, h2⟩ := H.at_ t v h
  have hb : Nat.blt t dIx = true := by
   rw [nblt, decide_eq_true_eq]
   have := H.few
   omega
  unfold ev
  simp only [hb, h2, cond_true, Option.getD_some]
 | const c => exact h
 | global g => exact h
 | func f => exact h
theorem evsE_evs : ∀ {xs : List Operand} {vs : List Value}, evsE P e xs = some vs → evs P ts xs = some vs
 | [], vs, h => h
 | x :: xs, vs, h => by
  unfold evsE at h
  split at h
  ·rename_i v hv
   split at h
   ·rename_i ws hw
    cases h
    unfold evs
    rw [evE_ev H hv, evsE_evs hw]
    rfl
   cases h
  cases h
end
abbrev Hp := List (Nat × AObj)
structure Knows (S : List Nat) (m0 m : AW) (h : Hp) : Prop where
 lole : m0.lo ≤ m0.next
 next : m0.next ≤ m.next
 lo : m.lo = m0.lo
 log : ∀ b, b ∈ m.log → b ∈ m0.log ∨ (b ∈ S ∧ b < m0.lo)
 none_ : (∀ b, b ∈ S → m0.lo ≤ b) → m.log = m0.log
 keep : ∀ b, b < m0.next → b ∉ S → m.heap.get b = m0.heap.get b
 has : ∀ b o, (b, o) ∈ h → m.heap.get b = some o ∧ b < m.next ∧ (m0.next ≤ b ∨ b ∈ S)
 apart : (h.map Prod.fst).Nodup
structure Ext (m m' : AW) : Prop where
 next : m.next ≤ m'.next
 lo : m'.lo = m.lo
 log : m'.log = m.log
 keep : ∀ b, b < m.next → m'.heap.get b = m.heap.get b
theorem Ext.refl (m : AW) : Ext m m := ⟨Nat.le_refl _, rfl, rfl, fun _ _ => rfl⟩
theorem Ext.trans (h : Ext a b) (k : Ext b c) : Ext a c := ⟨Nat.le_trans h.next k.next, k.lo.trans h.lo, k.log.trans h.log, fun x hx => (k.keep x (Nat.lt_of_lt_of_le hx h.next)).trans (h.keep x hx)⟩
structure KR (S : List Nat) (m0 m : AW) (h : Hp) : Prop where
 lole : m.lo ≤ m.next
 next : m0.next ≤ m.next
 keep : ∀ b, b < m0.next → b ∉ S → m.heap.get b = m0.heap.get b
 has : ∀ b o, (b, o) ∈ h → m.heap.get b = some o ∧ b < m.next
structure News (m m' : AW) (l : Hp) : Prop where
 has : ∀ b o, (b, o) ∈ l → m'.heap.get b = some o ∧ m.next ≤ b ∧ b < m'.next
 apart : (l.map Prod.fst).Nodup
theorem News.nil (m m' : AW) : News m m' [] := ⟨fun _ _ h => (by cases h), List.nodup_nil⟩
section
variable {S : List Nat} {m0 m m' : AW} {h : Hp}
theorem Knows.start (hm : m0.lo ≤ m0.next) : Knows [] m0 m0 [] := ⟨hm, Nat.le_refl _, rfl, fun _ h => .inl h, fun _ => rfl, fun _ _ _ => rfl, fun _ _ h => (by cases h), List.nodup_nil⟩
theorem Knows.lole' (k : Knows S m0 m h) : m.lo ≤ m.next := by rw [k.lo]; exact Nat.le_trans k.lole k.next
theorem Knows.ext (k : Knows [] m0 m h) : Ext m0 m := ⟨k.next, k.lo, k.none_ (fun _ hb => by cases hb), fun b hb => k.keep b hb (by simp)⟩
theorem Knows.of_ext (k : Knows S m0 m h) (x : Ext m m') : Knows S m0 m' h where
 lole := k.lole
 next := Nat.le_trans k.next x.next
 lo := x.lo.trans k.lo
 log := fun b hb => k.log b (by rw [← x.log]; exact hb)
 none_ := fun hs => x.log.trans (k.none_ hs)
 keep := fun b hb hs => (x.keep b (Nat.lt_of_lt_of_le hb k.next)).trans (k.keep b hb hs)
 has := fun b o hb => by
  obtain ⟨h1, h2, h3⟩ := k.has b o hb
  exact ⟨(x.keep b h2).trans h1, Nat.lt_of_lt_of_le h2 x.next, h3⟩
 apart := k.apart
theorem Knows.kr (k : Knows S m0 m h) : KR S m0 m h := ⟨k.lole', k.next, k.keep, fun b o hb => ⟨(k.has b o hb).1, (k.has b o hb).2.1⟩⟩
theorem Knows.of_news (k : Knows S m0 m h) (x : Ext m m') (y : News m m' l) : Knows S m0 m' (l ++ h) where
 lole := k.lole
 next := (k.of_ext x).next
 lo := (k.of_ext x).lo
 log := (k.of_ext x).log
 none_ := (k.of_ext x).none_
 keep := (k.of_ext x).keep
 has := fun b o hb => by
  rcases List.mem_append.1 hb with hb | hb
  ·obtain ⟨h1, h2, h3⟩ := y.has b o hb
   exact ⟨h1, h3, .inl (Nat.le_trans k.next h2)⟩
  exact (k.of_ext x).has b o hb
 apart := by
  rw [List.map_append, List.nodup_append]
  refine ⟨y.apart, k.apart, fun a ha b hb => ?_⟩
  obtain ⟨⟨c, o⟩, h1, rfl⟩ := List.mem_map.1 ha
  obtain ⟨⟨c', o'⟩, h2, rfl⟩ := List.mem_map.1 hb
  have := (y.has c o h1).2.1
  have := (k.has c' o' h2).2.1
  simp only
  omega
theorem Knows.sub (k : Knows S m0 m h) (hs : h'.Sublist h) : Knows S m0 m h' :=
 ⟨k.lole, k.next, k.lo, k.log, k.none_, k.keep, fun b o hb => k.has b o (hs.subset hb), k.apart.sublist (hs.map _)⟩
theorem Knows.new (k : Knows S m0 m h) (o : AObj) : Knows S m0 (m.new o) ((m.next, o) :: h) where
 lole := k.lole
 next := by have := k.next; simp only [AW.new]; omega
 lo := k.lo
 log := k.log
 none_ := k.none_
 keep := fun b hb hs => by
  have := k.next
  simp only [AW.new, Tr.get_set]
  rw [if_neg (by omega)]
  exact k.keep b hb hs
 has := fun b o' hb => by
  simp only [AW.new, Tr.get_set]
  rcases List.mem_cons.1 hb with hb | hb
  ·cases hb
   exact ⟨by simp, by omega, .inl k.next⟩
  obtain ⟨h1, h2, h3⟩ := k.has b o' hb
  rw [if_neg (by omega)]
  exact ⟨h1, by omega, h3⟩
 apart := by
  simp only [List.map_cons, List.nodup_cons]
  refine ⟨fun hm => ?_, k.apart⟩
  obtain ⟨⟨b, o'⟩, hb, he⟩ := List.mem_map.1 hm
  obtain ⟨_, h2, _⟩ := k.has b o' hb
  simp only at he
  omega
inductive Upd : Hp → Nat → AObj → AObj → Hp → Prop where
 | head {h : Hp} {b : Nat} {o o' : AObj} : Upd ((b, o) :: h) b o o' ((b, o') :: h)
 | tail {h h' : Hp} {b : Nat} {o o' : AObj} {p : Nat × AObj} (u : Upd h b o o' h') : Upd (p :: h) b o o' (p :: h')
theorem Upd.spec (u : Upd h b o o' h') : (b, o) ∈ h ∧ h'.map Prod.fst = h.map Prod.fst ∧ ((h.map Prod.fst).Nodup → ∀ c x, (c, x) ∈ h' → (c = b ∧ x = o') ∨ (c ≠ b ∧ (c, x) ∈ h)) := by
 induction u with
 | @head h b o o' =>
  refine ⟨List.mem_cons_self, rfl, fun hn c x hc => ?_⟩
  rcases List.mem_cons.1 hc with hc | hc
  ·cases hc
   exact .inl ⟨rfl, rfl⟩
  simp only [List.map_cons, List.nodup_cons] at hn
  refine .inr ⟨fun e => hn.1 ?_, List.mem_cons_of_mem _ hc⟩
  exact List.mem_map.2 ⟨_, hc, e⟩
 | @tail h h' b o o' p u ih =>
  obtain ⟨h1, h2, h3⟩ := ih
  refine ⟨List.mem_cons_of_mem _ h1, by simp [h2], fun hn c x hc => ?_⟩
  simp only [List.map_cons, List.nodup_cons] at hn
  rcases List.mem_cons.1 hc with hc | hc
  ·subst hc
   refine .inr ⟨fun e => hn.1 ?_, List.mem_cons_self⟩
   exact List.mem_map.2 ⟨_, h1, e.symm⟩
  rcases h3 hn.2 c x hc with h | ⟨h4, h5⟩
  ·exact .inl h
  exact .inr ⟨h4, List.mem_cons_of_mem _ h5⟩
theorem Knows.set (k : Knows S m0 m h) (u : Upd h b o o' h') : Knows S m0 (m.set b (some o')) h' := by
 obtain ⟨h1, h2, h3⟩ := u.spec
 obtain ⟨g1, g2, g3⟩ := k.has b o h1
 have hlog : ∀ c, c ∈ (m.set b (some o')).log → c ∈ m.log ∨ (c = b ∧ b < m.lo) := by
  intro c hc
  simp only [AW.set] at hc
  cases hb : Nat.blt b m.lo with
  | true =>
   rw [hb] at hc
   rw [nblt, decide_eq_true_eq] at hb
   rcases List.mem_cons.1 hc with hc | hc
   ·exact .inr ⟨hc, hb⟩
   exact .inl hc
  | false =>
   rw [hb] at hc
   exact .inl hc
 refine ⟨k.lole, k.next, k.lo, fun c hc => ?_, fun hs => ?_, fun c hc hs => ?_, fun c x hc => ?_, by rw [h2]; exact k.apart⟩
 ·rcases hlog c hc with h | ⟨rfl, h⟩
  ·exact k.log c h
  rcases g3 with g3 | g3
  ·have := k.lole
   have := k.lo
   omega
  exact .inr ⟨g3, by rw [← k.lo]; exact h⟩
 ·have : Nat.blt b m.lo = false := by
   rw [nblt, decide_eq_false_iff_not]
   rcases g3 with g3 | g3
   ·have := k.lole
    have := k.lo
    omega
   have := hs b g3
   have := k.lo
   omega
  simp only [AW.set, this]
  exact k.none_ hs
 ·simp only [AW.set, Tr.get_set]
  rw [if_neg]
  ·exact k.keep c hc hs
  rintro rfl
  rcases g3 with g3 | g3
  ·omega
  exact hs g3
 simp only [AW.set, Tr.get_set]
 rcases h3 k.apart c x hc with ⟨rfl, rfl⟩ | ⟨h4, h5⟩
 ·exact ⟨by simp, g2, g3⟩
 rw [if_neg h4]
 exact k.has c x h5
end
end Go.Ab
namespace Go.Ab
variable [Vals]
def Ru (P : Program) (fr : AFr) (t : Task) (m : AW) (Q : Out → Prop) : Prop := ∃ k o, irun P k fr t m = some o ∧ Q o
theorem Ru.mono (h : Ru P fr t m Q) (hq : ∀ o, Q o → Q' o) : Ru P fr t m Q' := by
 obtain ⟨k, o, h1, h2⟩ := h
 exact ⟨k, o, h1, hq o h2⟩
theorem Ru.step (h : istep P (irun P k) fr t m = some o) (hq : Q o) : Ru P fr t m Q := ⟨k + 1, o, h, hq⟩
def Seq (P : Program) (f n : Nat) (r : Option Nat) (b : Code) (Q : Out → Prop) : Out → Prop
 | ⟨.normal, ts, _, m⟩ => Ru P ⟨f, n, ts, r⟩ (.code b) m Q
 | o => Q o
def Blk (id : Nat) (Q : Out → Prop) : Out → Prop
 | ⟨.exit i, ts, v, m⟩ => bif Nat.beq i id then Q ⟨.normal, ts, v, m⟩ else Q ⟨.exit i, ts, v, m⟩
 | o => Q o
section
variable {P : Program} {f n : Nat} {r : Option Nat} {ts : Tr Value} {m : AW} {Q : Out → Prop}
theorem Ru.seq (h : Ru P ⟨f, n, ts, r⟩ (.code a) m (Seq P f n r b Q)) : Ru P ⟨f, n, ts, r⟩ (.code (.seq a b)) m Q := by
 obtain ⟨k, ⟨ex, ts1, v, m1⟩, h1, h2⟩ := h
 cases ex with
 | normal =>
  obtain ⟨j, o, g1, g2⟩ := h2
  refine Ru.step (k := k + j) (o := o) ?_ g2
  show stSeq _ _ _ _ _ = _
  unfold stSeq
  rw [irun_le (Nat.le_add_right k j) _ _ _ _ h1]
  exact irun_le (Nat.le_add_left j k) _ _ _ _ g1
 | _ =>
  refine Ru.step (k := k) ?_ h2
  show stSeq _ _ _ _ _ = _
  unfold stSeq
  rw [h1]
theorem Ru.cond_true (hx : ev P ts x = some (.bool true)) (h : Ru P ⟨f, n, ts, r⟩ (.code a) m Q) : Ru P ⟨f, n, ts, r⟩ (.code (.cond x a b)) m Q := by
 obtain ⟨k, o, h1, h2⟩ := h
 refine Ru.step (k := k) (o := o) ?_ h2
 show stCond _ _ _ _ _ _ _ = _
 unfold stCond
 simp only [hx]
 exact h1
theorem Ru.cond_false (hx : ev P ts x = some (.bool false)) (h : Ru P ⟨f, n, ts, r⟩ (.code b) m Q) : Ru P ⟨f, n, ts, r⟩ (.code (.cond x a b)) m Q := by
 obtain ⟨k, o, h1, h2⟩ := h
 refine Ru.step (k := k) (o := o) ?_ h2
 show stCond _ _ _ _ _ _ _ = _
 unfold stCond
 simp only [hx]
 exact h1
theorem Ru.block {id : Nat} (h : Ru P ⟨f, n, ts, r⟩ (.code b) m (Blk id Q)) : Ru P ⟨f, n, ts, r⟩ (.code (.block id b)) m Q := by
 obtain ⟨k, ⟨ex, ts1, v, m1⟩, h1, h2⟩ := h
 have key : ∃ o, stBlock (irun P k) ⟨f, n, ts, r⟩ id b m = some o ∧ Q o := by
  unfold stBlock
  rw [h1]
  cases ex with
  | exit i =>
   simp only [Blk] at h2
   simp only
   cases hb : Nat.beq i id with
   | true => rw [hb] at h2; exact ⟨_, rfl, h2⟩
   | false => rw [hb] at h2; exact ⟨_, rfl, h2⟩
  | _ => exact ⟨_, rfl, h2⟩
 obtain ⟨o, g1, g2⟩ := key
 exact Ru.step (k := k) g1 g2
theorem Ru.loop (h : Ru P ⟨f, n, ts, r⟩ (.code b) m (Seq P f n r (.loop b) Q)) : Ru P ⟨f, n, ts, r⟩ (.code (.loop b)) m Q := by
 obtain ⟨k, ⟨ex, ts1, v, m1⟩, h1, h2⟩ := h
 cases ex with
 | normal =>
  obtain ⟨j, o, g1, g2⟩ := h2
  refine Ru.step (k := k + j) (o := o) ?_ g2
  show stLoop _ _ _ _ = _
  unfold stLoop
  rw [irun_le (Nat.le_add_right k j) _ _ _ _ h1]
  exact irun_le (Nat.le_add_left j k) _ _ _ _ g1
 | _ =>
  refine Ru.step (k := k) ?_ h2
  show stLoop _ _ _ _ = _
  unfold stLoop
  rw [h1]
end
structure Cx where
 P : Program
 f : Nat
 n : Nat
 r : Option Nat
 S : List Nat
 m0 : AW
def At (X : Cx) (e : Env) (h : Hp) (Q : Tr Value → AW → Prop) : Prop := ∀ ts m, Has X.n ts e → Knows X.S X.m0 m h → Q ts m
def Ce (X : Cx) (e : Env) (h : Hp) (c : Code) (Q : Out → Prop) : Prop := At X e h fun ts m => Ru X.P ⟨X.f, X.n, ts, X.r⟩ (.code c) m Q
def Ne (X : Cx) (e : Env) (h : Hp) (Q : Out → Prop) : Prop := At X e h fun ts m => Q ⟨.normal, ts, undef, m⟩
def Xe (X : Cx) (e : Env) (h : Hp) (i : Nat) (Q : Out → Prop) : Prop := At X e h fun ts m => Q ⟨.exit i, ts, undef, m⟩
def Re (X : Cx) (e : Env) (h : Hp) (Q : Out → Prop) : Prop := At X e h fun ts m => Q ⟨.ret, ts, undef, m⟩
abbrev SeqX (X : Cx) (b : Code) (Q : Out → Prop) : Out → Prop := Seq X.P X.f X.n X.r b Q
section
variable {X : Cx} {e : Env} {h : Hp} {Q : Out → Prop} {a b : Code}
theorem At.sub {Q : Tr Value → AW → Prop} (he : Sub e' e) (hh : h'.Sublist h) (q : At X e' h' Q) : At X e h Q := fun ts m h1 h2 => q ts m (h1.sub he) (h2.sub hh)
theorem Ce.sub (e' : Env) (h' : Hp) (he : Sub e' e) (hh : h'.Sublist h) (q : Ce X e' h' c Q) : Ce X e h c Q := At.sub he hh q
theorem Ne.sub (e' : Env) (h' : Hp) (he : Sub e' e) (hh : h'.Sublist h) (q : Ne X e' h' Q) : Ne X e h Q := At.sub he hh q
theorem Ce.seq (q : Ce X e h a (SeqX X b Q)) : Ce X e h (.seq a b) Q := fun ts m h1 h2 => (q ts m h1 h2).seq
theorem Ce.block {id : Nat} (q : Ce X e h b (Blk id Q)) : Ce X e h (.block id b) Q := fun ts m h1 h2 => (q ts m h1 h2).block
theorem Ce.skip (q : Ne X e h Q) : Ce X e h .skip Q := fun ts m h1 h2 => Ru.step (k := 0) rfl (q ts m h1 h2)
theorem Ce.label (q : Ne X e h Q) : Ce X e h (.label l) Q := fun ts m h1 h2 => Ru.step (k := 0) rfl (q ts m h1 h2)
theorem Ce.exit (q : Xe X e h i Q) : Ce X e h (.exit i) Q := fun ts m h1 h2 => Ru.step (k := 0) rfl (q ts m h1 h2)
theorem Ce.ret (q : Re X e h Q) : Ce X e h .ret Q := fun ts m h1 h2 => Ru.step (k := 0) rfl (q ts m h1 h2)
theorem Ce.cond_true (hx : evE X.P e x = some (.bool true)) (q : Ce X e h a Q) : Ce X e h (.cond x a b) Q := fun ts m h1 h2 => (q ts m h1 h2).cond_true (evE_ev h1 hx)
theorem Ce.cond_false (hx : evE X.P e x = some (.bool false)) (q : Ce X e h b Q) : Ce X e h (.cond x a b) Q := fun ts m h1 h2 => (q ts m h1 h2).cond_false (evE_ev h1 hx)
theorem Ce.cond (hx : evE X.P e x = some (.bool c)) (q1 : c = true → Ce X e h a Q) (q2 : c = false → Ce X e h b Q) : Ce X e h (.cond x a b) Q := by
 cases c with
 | true => exact Ce.cond_true hx (q1 rfl)
 | false => exact Ce.cond_false hx (q2 rfl)
theorem Ne.seq (q : Ce X e h b Q) : Ne X e h (SeqX X b Q) := q
theorem Ne.blk {id : Nat} (q : Ne X e h Q) : Ne X e h (Blk id Q) := q
theorem Xe.seq (q : Xe X e h i Q) : Xe X e h i (SeqX X b Q) := q
theorem Xe.here (q : Ne X e h Q) : Xe X e h i (Blk i Q) := fun ts m h1 h2 => by
 have hb : Nat.beq i i = true := by rw [nbeq]; simp
 show (bif Nat.beq i i then Q ⟨.normal, ts, undef, m⟩ else Q ⟨.exit i, ts, undef, m⟩)
 rw [hb]
 exact q ts m h1 h2
theorem Xe.blk (hb : Nat.beq i j = false) (q : Xe X e h i Q) : Xe X e h i (Blk j Q) := fun ts m h1 h2 => by
 show (bif Nat.beq i j then Q ⟨.normal, ts, undef, m⟩ else Q ⟨.exit i, ts, undef, m⟩)
 rw [hb]
 exact q ts m h1 h2
theorem Re.seq (q : Re X e h Q) : Re X e h (SeqX X b Q) := q
theorem Re.blk {id : Nat} (q : Re X e h Q) : Re X e h (Blk id Q) := q
section
variable {α : Type}
def Lp (X : Cx) (E : α → Env) (H : α → Hp) (R : α → Prop) (μ : α → Nat) (x : α) (Q : Out → Prop) : Out → Prop
 | ⟨.normal, ts, _, m⟩ => ∃ y, R y ∧ μ y < μ x ∧ Has X.n ts (E y) ∧ Knows X.S X.m0 m (H y)
 | o => Q o
variable {E : α → Env} {H : α → Hp} {R : α → Prop} {μ : α → Nat} {x : α}
theorem Ce.loop (E : α → Env) (H : α → Hp) (R : α → Prop) (μ : α → Nat) (x : α) (hx : R x) (he : Sub (E x) e) (hh : (H x).Sublist h) (step : ∀ x, R x → Ce X (E x) (H x) b (Lp X E H R μ x Q)) : Ce X e h (.loop b) Q := by
 refine Ce.sub _ _ he hh ?_
 have key : ∀ d x, μ x ≤ d → R x → Ce X (E x) (H x) (.loop b) Q := by
  intro d
  induction d with
  | zero =>
   intro x hd hx ts m h1 h2
   refine Ru.loop ((step x hx ts m h1 h2).mono ?_)
   rintro ⟨ex, ts1, v, m1⟩ ho
   cases ex with
   | normal =>
    obtain ⟨y, _, h3, _⟩ := ho
    omega
   | _ => exact ho
  | succ d ih =>
   intro x hd hx ts m h1 h2
   refine Ru.loop ((step x hx ts m h1 h2).mono ?_)
   rintro ⟨ex, ts1, v, m1⟩ ho
   cases ex with
   | normal =>
    obtain ⟨y, h3, h4, h5, h6⟩ := ho
    exact ih y (by omega) h3 ts1 m1 h5 h6
   | _ => exact ho
 exact key (μ x) x (Nat.le_refl _) hx
theorem Ne.loop (y : α) (hy : R y) (hm : μ y < μ x) (he : Sub (E y) e) (hh : (H y).Sublist h) : Ne X e h (Lp X E H R μ x Q) := fun _ _ h1 h2 => ⟨y, hy, hm, h1.sub he, h2.sub hh⟩
theorem Xe.loop (q : Xe X e h i Q) : Xe X e h i (Lp X E H R μ x Q) := q
theorem Re.loop (q : Re X e h Q) : Re X e h (Lp X E H R μ x Q) := q
end
end
def Fc (P : Program) (f : FuncId) (args : List Value) (m : AW) (Q : Value → AW → Prop) : Prop := ∃ k v m', irun P k noFr (.fn f args) m = some ⟨.ret, .lf, v, m'⟩ ∧ Q v m'
theorem Fc.mono (h : Fc P f args m Q) (hq : ∀ v m', Q v m' → Q' v m') : Fc P f args m Q' := by
 obtain ⟨k, v, m', h1, h2⟩ := h
 exact ⟨k, v, m', h1, hq _ _ h2⟩
def End (P : Program) (fn : Func) (Q : Value → AW → Prop) : Out → Prop
 | ⟨.normal, ts, _, m⟩ => ts.get dIx = none ∧ ∃ v, resA P fn ts m = some v ∧ Q v m
 | ⟨.ret, ts, _, m⟩ => ts.get dIx = none ∧ ∃ v, resA P fn ts m = some v ∧ Q v m
 | _ => False
theorem Fc.body (hf : P.funcs[f]? = some fn) (hb : fn.body = some c) (hv : Vals.call f args = none) (h1 : Nat.ble args.length fn.ntmps = true) (h2 : Nat.ble fn.ntmps dIx = true) (hm : m.lo ≤ m.next)
  (q : Ce ⟨P, f, fn.ntmps, none, [], m⟩ (argsE args 0) [] c (End P fn Q)) : Fc P f args m Q := by
 obtain ⟨k, ⟨ex, ts, v, m'⟩, g1, g2⟩ := q _ m (Has.args h1 h2) (Knows.start hm)
 have hbb : (Nat.ble args.length fn.ntmps && Nat.ble fn.ntmps dIx) = true := by rw [h1, h2]; rfl
 have key : ∃ v m', stFn P (irun P k) f args m = some ⟨.ret, .lf, v, m'⟩ ∧ Q v m' := by
  unfold stFn
  simp only [hf, hb, hv]
  unfold stFb
  simp only [hbb, cond_true]
  simp only at g1
  rw [g1]
  have hd : ∀ (ts : Tr Value) (m : AW) (v : Value), ts.get dIx = none → resA P fn ts m = some v → retD P (irun P k) fn ts m = some ⟨.ret, .lf, v, m⟩ := by
   intro ts m v e1 e2
   unfold retD defsOf
   rw [e1]
   simp only [runD, retFn, e2]
  cases ex with
  | normal =>
   obtain ⟨e0, w, e1, e2⟩ := g2
   exact ⟨w, m', hd _ _ _ e0 e1, e2⟩
  | ret =>
   obtain ⟨e0, w, e1, e2⟩ := g2
   exact ⟨w, m', hd _ _ _ e0 e1, e2⟩
  | _ => exact absurd g2 (by simp [End])
 obtain ⟨w, m2, e1, e2⟩ := key
 exact ⟨k + 1, w, m2, e1, e2⟩
theorem Fc.known (hf : P.funcs[f]? = some fn) (hb : fn.body.isSome = true) (hv : Vals.call f args = some v) (hs : (scals args && scalT v) = true) (hl : (Nat.ble P.globals.size laidEnd && hasL m.heap Vals.laid) = true) : Fc P f args m fun w m' => w = v ∧ m' = m := by
 obtain ⟨c, hc⟩ := Option.isSome_iff_exists.1 hb
 refine ⟨1, v, m, ?_, rfl, rfl⟩
 show stFn P _ f args m = _
 unfold stFn
 simp only [hf, hc, hv, hs, hl, Bool.and_self, cond_true]
def resE (e : Env) : List ResultVar → Option (List Value)
 | [] => some []
 | .tmp t :: rs => match look e t with
  | some v => match resE e rs with
   | some vs => some (v :: vs)
   | none => none
  | none => none
 | .cell _ _ :: _ => none
def tupV : List Value → Value
 | [v] => v
 | vs => .tuple ⟨vs⟩
theorem resE_spec {P : Program} {n : Nat} {ts : Tr Value} {e : Env} {m : AW} (H : Has n ts e) : ∀ {rs : List ResultVar} {vs : List Value}, resE e rs = some vs → resA.go P ts m rs = some vs
 | [], vs, h => h
 | .tmp t :: rs, vs, h => by
  unfold resE at h
  split at h
  ·rename_i v hv
   split at h
   ·rename_i ws hw
    cases h
    obtain ⟨h1, h2⟩ := H.at_ t v hv
    have hb : Nat.blt t dIx = true := by
     rw [nblt, decide_eq_true_eq]
     have := H.few
     omega
    unfold resA.go
    simp only [hb, cond_true, resE_spec H hw, h2]
    rfl
   cases h
  cases h
 | .cell _ _ :: _, _, h => by cases h
section
variable {X : Cx} {e : Env} {h : Hp} {fn : Func} {Q : Value → AW → Prop}
theorem Re.end_ (hr : fn.results.toList = rs) (hv : resE e rs = some vs) (q : ∀ m, Knows X.S X.m0 m h → Q (tupV vs) m) : Re X e h (End X.P fn Q) := fun ts m h1 h2 =>
 ⟨h1.defs, tupV vs, by unfold resA; rw [hr, resE_spec h1 hv]; unfold tupV; rfl, q m h2⟩
theorem Ne.end_ (hr : fn.results.toList = rs) (hv : resE e rs = some vs) (q : ∀ m, Knows X.S X.m0 m h → Q (tupV vs) m) : Ne X e h (End X.P fn Q) := fun ts m h1 h2 =>
 ⟨h1.defs, tupV vs, by unfold resA; rw [hr, resE_spec h1 hv]; unfold tupV; rfl, q m h2⟩
end
end Go.Ab
namespace Go.Ab
variable [Vals]
def Io (P : Program) (n : Nat) (q : Bool) (ops : Array Oper) (l : List Oper) (ts : Tr Value) (m : AW) (Q : Out → Prop) : Prop := ∃ k o, iops P (irun P k) n q ops l ts m = some o ∧ Q o
def Ie (X : Cx) (ops : Array Oper) (e : Env) (h : Hp) (l : List Oper) (Q : Out → Prop) : Prop := At X e h fun ts m => Io X.P X.n X.r.isNone ops l ts m Q
def wantE (ops : Array Oper) (e : Env) (o : Oper) : Option Bool :=
 match o.guard with
 | none => some true
 | some (j, want) => match (ops[j]?).bind (·.dst) with
  | some t => match look e t with
   | some (.bool b) => some (b == want)
   | some (.tuple _) => some false
   | _ => none
  | none => none
theorem wantE_spec (H : Has n ts e) (h : wantE ops e o = some b) : wantedA ops ts o = b := by
 unfold wantE at h
 unfold wantedA
 cases hg : o.guard with
 | none => rw [hg] at h; cases h; rfl
 | some g =>
  obtain ⟨j, want⟩ := g
  rw [hg] at h
  simp only at h ⊢
  cases hj : (ops[j]?).bind (·.dst) with
  | none => rw [hj] at h; cases h
  | some t =>
   rw [hj] at h
   simp only at h ⊢
   split at h
   ·rename_i c hc
    obtain ⟨h1, h2⟩ := H.at_ t _ hc
    have hb : Nat.blt t dIx = true := by
     rw [nblt, decide_eq_true_eq]
     have := H.few
     omega
    rw [hb, h2]
    cases h
    rfl
   ·rename_i c hc
    obtain ⟨h1, h2⟩ := H.at_ t _ hc
    have hb : Nat.blt t dIx = true := by
     rw [nblt, decide_eq_true_eq]
     have := H.few
     omega
    rw [hb, h2]
    cases h
    rfl
   cases h
section
variable {X : Cx} {ops : Array Oper} {e : Env} {h : Hp} {Q : Out → Prop} {o : Oper} {rest : List Oper} {t : Tmp} {v : Value}
theorem Ce.region {id : Nat} (q : Ie X ops e h ops.toList Q) : Ce X e h (.region id ops false) Q := fun ts m h1 h2 => by
 obtain ⟨k, o, g1, g2⟩ := q ts m h1 h2
 exact Ru.step (k := k) g1 g2
theorem Ie.nil (q : Ne X e h Q) : Ie X ops e h [] Q := fun ts m h1 h2 => ⟨0, _, rfl, q ts m h1 h2⟩
theorem doOp_h {o : Op} (hc : cls P o = .h) : doOp P s ts o m = opH P s ts o m := by unfold doOp; rw [hc]
theorem doOp_l {o : Op} (hc : cls P o = .l) : doOp P s ts o m = doL (opL P ts o) m := by unfold doOp; rw [hc]
theorem doOp_a {o : Op} (hc : cls P o = .a) : doOp P s ts o m = doA (opA P ts o) m := by unfold doOp; rw [hc]
theorem doOp_p {o : Op} (hc : cls P o = .p) : doOp P s ts o m = doP (opP P ts o) m := by unfold doOp; rw [hc]
theorem Io.op (hw : wantedA ops ts o = true) (hs : spc o.op = .no) (hd : doOp P (irun P k) ts o.op m = some (.val v m')) (hr : Io P n q ops rest (put n ts o.dst v) m' Q) : Io P n q ops (o :: rest) ts m Q := by
 obtain ⟨j, out, g1, g2⟩ := hr
 refine ⟨k + j, out, ?_, g2⟩
 unfold iops
 rw [hw]
 simp only [cond_true, hs]
 rw [doOp_le (irun_le (Nat.le_add_right k j)) hd]
 exact iops_le (irun_le (Nat.le_add_left j k)) g1
theorem Ie.val (h' : Hp) (hd : o.dst = some t) (ht : Nat.blt t X.n = true) (hg : wantE ops e o = some true) (hs : spc o.op = .no)
  (hv : ∀ ts m, Has X.n ts e → Knows X.S X.m0 m h → ∃ k m', doOp X.P (irun X.P k) ts o.op m = some (.val v m') ∧ Knows X.S X.m0 m' h') (q : Ie X ops ((t, v) :: e) h' rest Q) : Ie X ops e h (o :: rest) Q := fun ts m h1 h2 => by
 obtain ⟨k, m', g1, g2⟩ := hv ts m h1 h2
 refine Io.op (wantE_spec h1 hg) hs g1 ?_
 rw [hd]
 exact q _ m' (h1.put ht v) g2
theorem Ie.val_ (h' : Hp) (hd : o.dst = none) (hg : wantE ops e o = some true) (hs : spc o.op = .no)
  (hv : ∀ ts m, Has X.n ts e → Knows X.S X.m0 m h → ∃ k m', doOp X.P (irun X.P k) ts o.op m = some (.val v m') ∧ Knows X.S X.m0 m' h') (q : Ie X ops e h' rest Q) : Ie X ops e h (o :: rest) Q := fun ts m h1 h2 => by
 obtain ⟨k, m', g1, g2⟩ := hv ts m h1 h2
 refine Io.op (wantE_spec h1 hg) hs g1 ?_
 rw [hd]
 exact q _ m' h1 g2
theorem Ie.off (hd : o.dst = some t) (ht : Nat.blt t X.n = true) (hg : wantE ops e o = some false) (q : Ie X ops ((t, undef) :: e) h rest Q) : Ie X ops e h (o :: rest) Q := fun ts m h1 h2 => by
 obtain ⟨k, out, g1, g2⟩ := q _ m (h1.put ht undef) h2
 refine ⟨k, out, ?_, g2⟩
 unfold iops
 rw [wantE_spec h1 hg, hd]
 exact g1
theorem Ie.sub (e' : Env) (h' : Hp) (he : Sub e' e) (hh : h'.Sublist h) (q : Ie X ops e' h' rest Q) : Ie X ops e h rest Q := At.sub he hh q
end
def evPartsE (P : Program) (e : Env) : List (Nat × Operand) → Option (List (Nat × Value))
 | [] => some []
 | (i, x) :: xs => match evE P e x with
  | some v => match evPartsE P e xs with
   | some vs => some ((i, v) :: vs)
   | none => none
  | none => none
theorem evPartsE_spec {P : Program} {n : Nat} {ts : Tr Value} {e : Env} (H : Has n ts e) : ∀ {xs : List (Nat × Operand)} {vs : List (Nat × Value)}, evPartsE P e xs = some vs → evParts P ts xs = some vs
 | [], _, h => h
 | (i, x) :: xs, vs, h => by
  unfold evPartsE at h
  split at h
  ·rename_i v hv
   split at h
   ·rename_i ws hw
    cases h
    unfold evParts
    rw [evE_ev H hv, evPartsE_spec H hw]
    rfl
   cases h
  cases h
def evoE (P : Program) (e : Env) : Option Operand → Option (Option Value)
 | none => some none
 | some x => match evE P e x with
  | some v => some (some v)
  | none => none
theorem evoE_spec (H : Has n ts e) (h : evoE P e x = some v) : evo P ts x = some v := by
 cases x with
 | none => exact h
 | some x =>
  unfold evoE at h
  simp only at h
  cases hw : evE P e x with
  | none => rw [hw] at h; cases h
  | some w =>
   rw [hw] at h
   cases h
   unfold evo
   simp only [evE_ev H hw]
def opE (P : Program) (e : Env) : Op → Option Value
 | .move x => evE P e x
 | .assign x => evE P e x
 | .pick c a b => match evE P e c with
  | some (.bool true) => evE P e a
  | some (.bool false) => evE P e b
  | _ => none
 | .build t parts => match evPartsE P e parts.toList with
  | some ps => buildA P t ps
  | none => none
 | .nilCheck x => match evE P e x with
  | some v => nilCheckA P (some v)
  | none => none
 | .binOp op t x y _ => match evE P e x with
  | some a => match evE P e y with
   | some b => binS P op t x y a b
   | none => none
  | none => none
 | .unOp op _ x => match evE P e x with
  | some a => unS op a
  | none => none
 | .makeInterface t x => match evE P e x with
  | some v => ifaceA P t (some v)
  | none => none
 | .makeFunc fn first captured => match evsE P e first.toList with
  | some a => match evsE P e captured.toList with
   | some b => match fn with
    | .func f => some (.func (.func f) ⟨a⟩ ⟨b⟩)
    | .method n => some (.func (.method n) ⟨a⟩ ⟨b⟩)
    | _ => none
   | none => none
  | none => none
 | .slice t x l h m => match evE P e x with
  | some x => match evoE P e l with
   | some l => match evoE P e h with
    | some h => match evoE P e m with
     | some m => sliceA P t x l h m
     | none => none
    | none => none
   | none => none
  | none => none
 | .fieldAddr s x f => match evE P e x with
  | some v => fieldAddrA P s v f
  | none => none
 | .field t x f => match evE P e x with
  | some v => fieldA P t v f
  | none => none
 | .indexAddr t x i => match evE P e x with
  | some a => match evE P e i with
   | some b => indexAddrA P t a b
   | none => none
  | none => none
 | .index t x i => match evE P e x with
  | some a => match evE P e i with
   | some b => indexA P t a b
   | none => none
  | none => none
 | .extract t i => match evE P e t with
  | some t => extractA t i
  | none => none
 | .typeAssert x _ t ok => match evE P e x with
  | some x => assertA P x t ok
  | none => none
 | _ => none
theorem opE_spec (H : Has n ts e) (h : opE P e o = some v) : cls P o = .p ∧ spc o = .no ∧ opP P ts o = some v := by
 cases o
 case move x => exact ⟨rfl, rfl, evE_ev H h⟩
 case assign x => exact ⟨rfl, rfl, evE_ev H h⟩
 case pick c a b =>
  refine ⟨rfl, rfl, ?_⟩
  simp only [opE] at h
  split at h
  ·rename_i hc
   simp only [opP, pickA, evE_ev H hc]
   exact evE_ev H h
  ·rename_i hc
   simp only [opP, pickA, evE_ev H hc]
   exact evE_ev H h
  cases h
 case build t parts =>
  refine ⟨rfl, rfl, ?_⟩
  simp only [opE] at h
  split at h
  ·rename_i ps hp
   simp only [opP, evPartsE_spec H hp]
   exact h
  cases h
 case nilCheck x =>
  refine ⟨rfl, rfl, ?_⟩
  simp only [opE] at h
  split at h
  ·rename_i w hw
   simp only [opP, evE_ev H hw]
   exact h
  cases h
 case binOp op t x y u =>
  refine ⟨rfl, rfl, ?_⟩
  simp only [opE] at h
  split at h
  ·rename_i a ha
   split at h
   ·rename_i b hb
    simp only [opP, bin1, evE_ev H ha, evE_ev H hb]
    exact h
   cases h
  cases h
 case unOp op t x =>
  refine ⟨rfl, rfl, ?_⟩
  simp only [opE] at h
  split at h
  ·rename_i w hw
   simp only [opP, evE_ev H hw]
   exact h
  cases h
 case makeInterface t x =>
  refine ⟨rfl, rfl, ?_⟩
  simp only [opE] at h
  split at h
  ·rename_i w hw
   simp only [opP, evE_ev H hw]
   exact h
  cases h
 case makeFunc fn first captured =>
  refine ⟨rfl, rfl, ?_⟩
  simp only [opE] at h
  split at h
  ·rename_i a ha
   split at h
   ·rename_i b hb
    simp only [opP, funcA, evsE_evs H ha, evsE_evs H hb]
    cases fn <;> exact h
   cases h
  cases h
 case slice t x l hh m =>
  refine ⟨rfl, rfl, ?_⟩
  simp only [opE] at h
  split at h
  ·rename_i x' hx
   split at h
   ·rename_i l' hl
    split at h
    ·rename_i h' hh'
     split at h
     ·rename_i m' hm
      simp only [opP, slice1, evE_ev H hx, evoE_spec H hl, evoE_spec H hh', evoE_spec H hm]
      exact h
     cases h
    cases h
   cases h
  cases h
 case fieldAddr s x f =>
  refine ⟨rfl, rfl, ?_⟩
  simp only [opE] at h
  split at h
  ·rename_i w hw
   simp only [opP, evE_ev H hw]
   exact h
  cases h
 case field s x f =>
  refine ⟨rfl, rfl, ?_⟩
  simp only [opE] at h
  split at h
  ·rename_i w hw
   simp only [opP, evE_ev H hw]
   exact h
  cases h
 case indexAddr t x i =>
  refine ⟨rfl, rfl, ?_⟩
  simp only [opE] at h
  split at h
  ·rename_i a ha
   split at h
   ·rename_i b hb
    simp only [opP, bind2, evE_ev H ha, evE_ev H hb]
    exact h
   cases h
  cases h
 case index t x i =>
  refine ⟨rfl, rfl, ?_⟩
  simp only [opE] at h
  split at h
  ·rename_i a ha
   split at h
   ·rename_i b hb
    simp only [opP, bind2, evE_ev H ha, evE_ev H hb]
    exact h
   cases h
  cases h
 case extract t i =>
  refine ⟨rfl, rfl, ?_⟩
  simp only [opE] at h
  split at h
  ·rename_i w hw
   simp only [opP, evE_ev H hw]
   exact h
  cases h
 case typeAssert x s t ok =>
  refine ⟨rfl, rfl, ?_⟩
  simp only [opE] at h
  split at h
  ·rename_i w hw
   simp only [opP, evE_ev H hw]
   exact h
  cases h
 all_goals cases h
section
variable {X : Cx} {ops : Array Oper} {e : Env} {h : Hp} {Q : Out → Prop} {o : Oper} {rest : List Oper} {t : Tmp} {v : Value}
theorem Ie.p (hd : o.dst = some t) (ht : Nat.blt t X.n = true) (hg : wantE ops e o = some true) (hv : opE X.P e o.op = some v) (q : Ie X ops ((t, v) :: e) h rest Q) : Ie X ops e h (o :: rest) Q := fun ts m h1 h2 => by
 obtain ⟨c1, c2, c3⟩ := opE_spec h1 hv
 refine Ie.val h hd ht hg c2 (fun ts m h1 h2 => ?_) q ts m h1 h2
 obtain ⟨c1, c2, c3⟩ := opE_spec h1 hv
 exact ⟨0, m, by unfold doOp; rw [c1]; simp only [doP, c3], h2⟩
theorem Ie.conv (hd : o.dst = some t) (ht : Nat.blt t X.n = true) (hg : wantE ops e o = some true) (ho : o.op = .convert s d x) (hx : evE X.P e x = some a) (hc : cls X.P (.convert s d x) = .p) (hv : convS X.P s d a = some v) (q : Ie X ops ((t, v) :: e) h rest Q) : Ie X ops e h (o :: rest) Q := by
 refine Ie.val h hd ht hg (by rw [ho]; rfl) (fun ts m h1 h2 => ⟨0, m, ?_, h2⟩) q
 rw [ho]
 unfold doOp
 rw [hc]
 simp only [doP, opP, evE_ev h1 hx, Option.bind_some, hv]
theorem Ie.calln (A : α → Prop) (V : α → Value) (N : α → Hp) (hd : o.dst = some t) (ht : Nat.blt t X.n = true) (hg : wantE ops e o = some true) (ho : o.op = .call { callee := .value fo, args := as, argTypes := ats }) (ha : evsE X.P e as.toList = some vs) (hf : evE X.P e fo = some (.func (.func g) ⟨first⟩ ⟨cap⟩))
  (hc : ∀ m, KR X.S X.m0 m h → Fc X.P g (first ++ vs ++ cap) m fun v m' => ∃ x, A x ∧ v = V x ∧ Ext m m' ∧ News m m' (N x)) (q : ∀ x, A x → Ie X ops ((t, V x) :: e) (N x ++ h) rest Q) : Ie X ops e h (o :: rest) Q := fun ts m h1 h2 => by
 obtain ⟨k, v, m', g1, x, hA, rfl, hk, hn⟩ := hc m h2.kr
 refine Io.op (k := k) (m' := m') (v := V x) (wantE_spec h1 hg) (by rw [ho]; rfl) ?_ ?_
 ·rw [ho, doOp_h rfl]
  simp only [opH, callH, evsE_evs h1 ha, evE_ev h1 hf, callV, callA, g1]
 rw [hd]
 exact q x hA _ m' (h1.put ht _) (h2.of_news hk hn)
theorem Ie.callx (A : α → Prop) (V : α → Value) (H : α → Hp) (hd : o.dst = some t) (ht : Nat.blt t X.n = true) (hg : wantE ops e o = some true) (ho : o.op = .call { callee := .value fo, args := as, argTypes := ats }) (ha : evsE X.P e as.toList = some vs) (hf : evE X.P e fo = some (.func (.func g) ⟨first⟩ ⟨cap⟩))
  (hc : ∀ m, Knows X.S X.m0 m h → Fc X.P g (first ++ vs ++ cap) m fun v m' => ∃ x, A x ∧ v = V x ∧ Knows X.S X.m0 m' (H x)) (q : ∀ x, A x → Ie X ops ((t, V x) :: e) (H x) rest Q) : Ie X ops e h (o :: rest) Q := fun ts m h1 h2 => by
 obtain ⟨k, v, m', g1, x, hA, rfl, hk⟩ := hc m h2
 refine Io.op (k := k) (m' := m') (v := V x) (wantE_spec h1 hg) (by rw [ho]; rfl) ?_ ?_
 ·rw [ho, doOp_h rfl]
  simp only [opH, callH, evsE_evs h1 ha, evE_ev h1 hf, callV, callA, g1]
 rw [hd]
 exact q x hA _ m' (h1.put ht _) hk
theorem Ie.call (v : Value) (hd : o.dst = some t) (ht : Nat.blt t X.n = true) (hg : wantE ops e o = some true) (ho : o.op = .call { callee := .value fo, args := as, argTypes := ats }) (ha : evsE X.P e as.toList = some vs) (hf : evE X.P e fo = some (.func (.func g) ⟨first⟩ ⟨cap⟩))
  (hc : ∀ m, KR X.S X.m0 m h → Fc X.P g (first ++ vs ++ cap) m fun w m' => w = v ∧ Ext m m') (q : Ie X ops ((t, v) :: e) h rest Q) : Ie X ops e h (o :: rest) Q :=
 Ie.calln (α := Unit) (fun _ => True) (fun _ => v) (fun _ => []) hd ht hg ho ha hf (fun m hm => (hc m hm).mono fun _ _ ⟨e1, e2⟩ => ⟨(), trivial, e1, e2, News.nil _ _⟩) fun _ _ => q
def Sees (X : Cx) (h : Hp) (b : Nat) (o : AObj) : Prop := ∀ m, Knows X.S X.m0 m h → m.heap.get b = some o
theorem Sees.head {o : AObj} : Sees X ((b, o) :: h) b o := fun _ k => (k.has _ _ List.mem_cons_self).1
theorem Sees.tail {o : AObj} (s : Sees X h b o) : Sees X (p :: h) b o := fun m k => s m (k.sub (List.sublist_cons_self _ _))
theorem Sees.base {o : AObj} (hb : X.m0.heap.get b = some o) (hl : b < X.m0.next) (hs : b ∉ X.S) : Sees X h b o := fun _ k => (k.keep b hl hs).trans hb
theorem Ie.load {b off : Nat} (hd : o.dst = some t) (ht : Nat.blt t X.n = true) (hg : wantE ops e o = some true) (ho : o.op = .load ty a) (ha : evE X.P e a = some (.pointer (some ⟨b, off, none⟩))) (hty : aggT X.P ty = some false) (hs : Sees X h b (.cells cs el g md mate)) (hc : cs[off]? = some v) (q : Ie X ops ((t, v) :: e) h rest Q) : Ie X ops e h (o :: rest) Q := by
 refine Ie.val h hd ht hg (by rw [ho]; rfl) (fun ts m h1 h2 => ⟨0, m, ?_, h2⟩) q
 rw [ho, doOp_l rfl]
 have : loadA X.P ty (.pointer (some ⟨b, off, none⟩)) = some (.rd b fun o => match o with | .cells cs _ _ _ _ => cs[off]? | _ => none) := by
  unfold loadA
  simp only [hty]
  rfl
 simp only [opL, evE_ev h1 ha, Option.bind_some, this, doL, hs m h2, hc]
theorem Ie.loadAgg {b off n : Nat} (hd : o.dst = some t) (ht : Nat.blt t X.n = true) (hg : wantE ops e o = some true) (ho : o.op = .load ty a) (ha : evE X.P e a = some (.pointer (some ⟨b, off, none⟩))) (hty : aggT X.P ty = some true) (hsz : sizeT X.P ty = some n) (hs : Sees X h b (.cells cs el g md mate)) (hl : off + n ≤ cs.length) (hc : (cs.drop off).take n = vs) (q : Ie X ops ((t, .agg ⟨vs⟩) :: e) h rest Q) : Ie X ops e h (o :: rest) Q := by
 refine Ie.val h hd ht hg (by rw [ho]; rfl) (fun ts m h1 h2 => ⟨0, m, ?_, h2⟩) q
 rw [ho, doOp_l rfl]
 have : loadA X.P ty (.pointer (some ⟨b, off, none⟩)) = some (.rd b fun o => (rdCells o off n).map fun cs => .agg ⟨cs⟩) := by
  unfold loadA
  simp only [hty, hsz]
 have h3 : rdCells (.cells cs el g md mate) off n = some vs := by
  unfold rdCells
  simp only [nble, hl, decide_true, cond_true, hc]
 simp only [opL, evE_ev h1 ha, Option.bind_some, this, doL, hs m h2, h3, Option.map_some]
theorem Ie.store {b off n : Nat} (hd : o.dst = none) (hg : wantE ops e o = some true) (ho : o.op = .store ty a x) (ha : evE X.P e a = some (.pointer (some ⟨b, off, none⟩))) (hx : evE X.P e x = some y) (hsz : sizeT X.P ty = some (n + 1)) (hl : (cellsOfV y).length = n + 1) (hu : Upd h b (.cells cs el g md none) (.cells (putCells cs off (cellsOfV y)) el g md none) h') (hw : (md.writes && Nat.ble (off + (cellsOfV y).length) cs.length && flats (cellsOfV y)) = true) (q : Ie X ops e h' rest Q) : Ie X ops e h (o :: rest) Q := by
 refine Ie.val_ (v := undef) h' hd hg (by rw [ho]; rfl) (fun ts m h1 h2 => ⟨0, _, ?_, h2.set hu⟩) q
 rw [ho, doOp_h rfl]
 have h3 : m.heap.get b = some (.cells cs el g md none) := (h2.has _ _ hu.spec.1).1
 have h4 : storeA m b off (cellsOfV y) = some (m.set b (some (.cells (putCells cs off (cellsOfV y)) el g md none))) := by
  unfold storeA
  cases hc : cellsOfV y with
  | nil => rw [hc] at hl; simp at hl
  | cons c r =>
   rw [hc] at hw
   simp only [h3, hw, kill, cond_true]
 have h5 : Nat.beq (cellsOfV y).length (n + 1) = true := by rw [nbeq, hl]; simp
 simp only [opH, evE_ev h1 ha, evE_ev h1 hx, storeV, hsz, h5, cond_true, h4, valM]
theorem Ie.made (hd : o.dst = some t) (ht : Nat.blt t X.n = true) (hg : wantE ops e o = some true) (hs : spc o.op = .no) (hc : cls X.P o.op = .a) (hv : ∀ ts, Has X.n ts e → opA X.P ts o.op = some (ob, fv)) (q : ∀ b, X.m0.next ≤ b → Ie X ops ((t, fv b) :: e) ((b, ob) :: h) rest Q) : Ie X ops e h (o :: rest) Q := fun ts m h1 h2 => by
 refine Io.op (k := 0) (m' := m.new ob) (v := fv m.next) (wantE_spec h1 hg) hs ?_ ?_
 ·rw [doOp_a hc, hv ts h1]
  rfl
 rw [hd]
 exact q m.next h2.next _ _ (h1.put ht _) (h2.new ob)
theorem Ie.alloc (hd : o.dst = some t) (ht : Nat.blt t X.n = true) (hg : wantE ops e o = some true) (ho : o.op = .alloc el) (hz : zeroT X.P el = some z) (q : ∀ b, X.m0.next ≤ b → Ie X ops ((t, .pointer (some ⟨b, 0, none⟩)) :: e) ((b, .cells (cellsOfV z) el false .plain none) :: h) rest Q) : Ie X ops e h (o :: rest) Q :=
 Ie.made hd ht hg (by rw [ho]; rfl) (by rw [ho]; rfl) (fun ts _ => by rw [ho]; simp only [opA, hz]; rfl) q
theorem Ie.box (hd : o.dst = some t) (ht : Nat.blt t X.n = true) (hg : wantE ops e o = some true) (ho : o.op = .box el x) (hx : evE X.P e x = some y) (q : ∀ b, X.m0.next ≤ b → Ie X ops ((t, .pointer (some ⟨b, 0, none⟩)) :: e) ((b, .cells (cellsOfV y) el false .plain none) :: h) rest Q) : Ie X ops e h (o :: rest) Q :=
 Ie.made hd ht hg (by rw [ho]; rfl) (by rw [ho]; rfl) (fun ts H => by rw [ho]; simp only [opA, evE_ev H hx]; rfl) q
theorem Ie.makeMap (hd : o.dst = some t) (ht : Nat.blt t X.n = true) (hg : wantE ops e o = some true) (ho : o.op = .makeMap ty none) (q : ∀ b, X.m0.next ≤ b → Ie X ops ((t, .map (some b)) :: e) ((b, .map [] 0) :: h) rest Q) : Ie X ops e h (o :: rest) Q :=
 Ie.made (fv := mapTo) hd ht hg (by rw [ho]; rfl) (by rw [ho]; rfl) (fun ts _ => by rw [ho]; rfl) q
theorem Ie.len (hd : o.dst = some t) (ht : Nat.blt t X.n = true) (hg : wantE ops e o = some true) (ho : o.op = .call { callee := .builtin .len, args := #[x], argTypes := #[ty] }) (hx : evE X.P e x = some y) (hl : lenA X.P ty y = some (.imm v)) (q : Ie X ops ((t, v) :: e) h rest Q) : Ie X ops e h (o :: rest) Q := by
 refine Ie.val h hd ht hg (by rw [ho]; rfl) (fun ts m h1 h2 => ⟨0, m, ?_, h2⟩) q
 rw [ho, doOp_l rfl]
 have : evs X.P ts [x] = some [y] := by
  unfold evs evs
  rw [evE_ev h1 hx]
  rfl
 have h2 : (#[ty] : Array TypeId)[0]? = some ty := rfl
 simp only [opL, callL, this, h2, hl]
 rfl
end
end Go.Ab
namespace Go.Ab
variable [Vals]
section
variable {X : Cx} {ops : Array Oper} {e : Env} {h : Hp} {Q : Out → Prop} {o : Oper} {rest : List Oper} {t : Tmp} {v : Value}
theorem Ie.convInt (hd : o.dst = some t) (ht : Nat.blt t X.n = true) (hg : wantE ops e o = some true) (ho : o.op = .convert s d x) (hs : X.P.underlying s = some (.int k)) (hd' : X.P.underlying d = some (.int k')) (hx : evE X.P e x = some (.int k n)) (q : Ie X ops ((t, .int k' (wr k' n)) :: e) h rest Q) : Ie X ops e h (o :: rest) Q :=
 Ie.conv hd ht hg ho hx (by unfold cls; simp only [hs, hd']) (by unfold convS convA; simp only [hs, hd']) q
theorem Ie.fieldAddr {i b off k : Nat} (hd : o.dst = some t) (ht : Nat.blt t X.n = true) (hg : wantE ops e o = some true) (ho : o.op = .fieldAddr s x i) (hx : evE X.P e x = some (.pointer (some ⟨b, off, none⟩))) (hf : ∀ b off, fieldAddrA X.P s (.pointer (some ⟨b, off, none⟩)) i = some (.pointer (some ⟨b, off + k, none⟩))) (q : Ie X ops ((t, .pointer (some ⟨b, off + k, none⟩)) :: e) h rest Q) : Ie X ops e h (o :: rest) Q :=
 Ie.p hd ht hg (by rw [ho]; simp only [opE, hx, hf]) q
theorem Ie.indexAddr {b off len cap sz j : Nat} (hd : o.dst = some t) (ht : Nat.blt t X.n = true) (hg : wantE ops e o = some true) (ho : o.op = .indexAddr ty x i) (hu : X.P.underlying ty = some (.slice el)) (hs : sizeT X.P el = some sz) (hx : evE X.P e x = some (.slice (some ⟨b, off, none⟩) len cap)) (hi : evE X.P e i = some (.int k (Int.ofNat j))) (hj : j < len) (q : Ie X ops ((t, .pointer (some ⟨b, off + j * sz, none⟩)) :: e) h rest Q) : Ie X ops e h (o :: rest) Q :=
 Ie.p hd ht hg (by
  rw [ho]
  simp only [opE, hx, hi]
  unfold indexAddrA
  simp only [asInt?, hu, hs]
  rw [nblt, decide_eq_true hj]
  rfl) q
theorem Ie.splitB (u : Nat) (hl : look e u = some (.bool c)) (q1 : c = true → Ie X ops ((u, .bool true) :: e) h rest Q) (q2 : c = false → Ie X ops ((u, .bool false) :: e) h rest Q) : Ie X ops e h rest Q := fun ts m h1 h2 => by
 cases c with
 | true =>
  refine q1 rfl ts m ⟨h1.few, h1.defs, fun s w hw => ?_⟩ h2
  unfold look at hw
  cases hb : Nat.beq u s with
  | true =>
   rw [hb] at hw
   cases hw
   rw [nbeq, decide_eq_true_eq] at hb
   subst hb
   exact h1.at_ _ _ hl
  | false =>
   rw [hb] at hw
   exact h1.at_ _ _ hw
 | false =>
  refine q2 rfl ts m ⟨h1.few, h1.defs, fun s w hw => ?_⟩ h2
  unfold look at hw
  cases hb : Nat.beq u s with
  | true =>
   rw [hb] at hw
   cases hw
   rw [nbeq, decide_eq_true_eq] at hb
   subst hb
   exact h1.at_ _ _ hl
  | false =>
   rw [hb] at hw
   exact h1.at_ _ _ hw
theorem Ie.as (u : Nat) (w' : Value) (hl : look e u = some w) (hw : w = w') (q : Ie X ops ((u, w') :: e) h rest Q) : Ie X ops e h rest Q := fun ts m h1 h2 => by
 subst hw
 refine q ts m ⟨h1.few, h1.defs, fun s x hx => ?_⟩ h2
 unfold look at hx
 cases hb : Nat.beq u s with
 | true =>
  rw [hb] at hx
  cases hx
  rw [nbeq, decide_eq_true_eq] at hb
  subst hb
  exact h1.at_ _ _ hl
 | false =>
  rw [hb] at hx
  exact h1.at_ _ _ hx
end
end Go.Ab
namespace Go.Ab
variable [Vals]
def Do (P : Program) (n : Nat) (ops : Array Oper) (base lo : Nat) (l : List (Oper × Info)) (rs : List (Nat × Rd)) (ws : List (Nat × List Nat)) (as : List (Nat × Nat)) (ts : Tr Value) (m : AW) (Q : Out → Prop) : Prop :=
 ∃ k o, dops P (irun P k) n ops base lo l rs ws as ts m = some o ∧ Q o
def De (X : Cx) (ops : Array Oper) (base : Nat) (rI : List Nat) (cl : Bool) (as : List (Nat × Nat)) (e : Env) (h : Hp) (l : List (Oper × Info)) (Q : Out → Prop) : Prop :=
 ∀ ts m rs ws, Has X.n ts e → Knows X.S X.m0 m h → X.m0.next ≤ base ∧ base ≤ m.next → (∀ p ∈ rs, p.1 ∈ rI) → (cl = true → ∀ p ∈ ws, p.2 = []) → Do X.P X.n ops base X.m0.lo l rs ws as ts m Q
def allIn (pre : Nat) : List Nat → Bool
 | [] => true
 | j :: l => pre.testBit j && allIn pre l
theorem readOk_nil (pre b : Nat) : ∀ (ws : List (Nat × List Nat)), (∀ p ∈ ws, p.2 = []) → readOk pre b ws = true
 | [], _ => rfl
 | (h, w) :: ws, hw => by
  have : w = [] := hw (h, w) List.mem_cons_self
  subst this
  unfold readOk
  simp only [notIn, Bool.or_true, cond_true]
  exact readOk_nil pre b ws fun p hp => hw p (List.mem_cons_of_mem _ hp)
theorem writeOk_nil (pre : Nat) {h : Tr AObj} : ∀ (rs : List (Nat × Rd)), writeOk pre [] h rs = true
 | [] => rfl
 | (i, b) :: rs => by
  unfold writeOk
  simp only [notIn, Bool.or_true, Bool.true_or, cond_true]
  exact writeOk_nil pre rs
theorem allIn_mem {pre : Nat} : ∀ {l : List Nat} {j : Nat}, allIn pre l = true → j ∈ l → pre.testBit j = true
 | [], _, _, h => by cases h
 | x :: l, j, h, hj => by
  simp only [allIn, Bool.and_eq_true] at h
  rcases List.mem_cons.1 hj with rfl | hj
  ·exact h.1
  exact allIn_mem h.2 hj
theorem writeOk_in (pre : Nat) (w rI : List Nat) {h : Tr AObj} (hri : allIn pre rI = true) : ∀ (rs : List (Nat × Rd)), (∀ p ∈ rs, p.1 ∈ rI) → writeOk pre w h rs = true
 | [], _ => rfl
 | (i, b) :: rs, h => by
  have h1 := allIn_mem hri (h (i, b) List.mem_cons_self)
  unfold writeOk
  simp only [h1, Bool.true_or, cond_true]
  exact writeOk_in pre w rI hri rs fun p hp => h p (List.mem_cons_of_mem _ hp)
theorem hideB_all (pre : Nat) : ∀ (as : List (Nat × Nat)) (t : Tr AObj), allIn pre (as.map Prod.fst) = true → hideB pre as t = t
 | [], _, _ => rfl
 | (j, b) :: as, t, h => by
  simp only [allIn, List.map_cons, Bool.and_eq_true] at h
  unfold hideB
  simp only [h.1, cond_true]
  exact hideB_all pre as t h.2
theorem showB_all (pre : Nat) (old : Tr AObj) : ∀ (as : List (Nat × Nat)) (t : Tr AObj), allIn pre (as.map Prod.fst) = true → showB pre old as t = t
 | [], _, _ => rfl
 | (j, b) :: as, t, h => by
  simp only [allIn, List.map_cons, Bool.and_eq_true] at h
  unfold showB
  simp only [h.1, cond_true]
  exact showB_all pre old as t h.2
theorem plainB_all (pre : Nat) (old : Tr AObj) : ∀ (as : List (Nat × Nat)), allIn pre (as.map Prod.fst) = true → plainB pre old as = true
 | [], _ => rfl
 | (j, b) :: as, h => by
  simp only [allIn, List.map_cons, Bool.and_eq_true] at h
  unfold plainB
  simp only [h.1, Bool.true_or, Bool.true_and]
  exact plainB_all pre old as h.2
theorem seenB_all (pre b : Nat) : ∀ (as : List (Nat × Nat)), allIn pre (as.map Prod.fst) = true → seenB pre b as = true
 | [], _ => rfl
 | (j, c) :: as, h => by
  simp only [allIn, List.map_cons, Bool.and_eq_true] at h
  unfold seenB
  simp only [h.1, Bool.true_or, Bool.true_and]
  exact seenB_all pre b as h.2
section
variable {X : Cx} {ops : Array Oper} {base : Nat} {rI : List Nat} {cl : Bool} {as : List (Nat × Nat)} {e : Env} {h : Hp} {Q : Out → Prop} {o : Oper} {i : Info} {rest : List (Oper × Info)} {t : Tmp} {v : Value}
theorem Ce.draw {id : Nat} (inf : List Info) (hi : infos X.P ops.toList = inf) (htm : tmpsOk (ops.toList.zip inf) ops.toList = true) (q : ∀ base, X.m0.next ≤ base → (∀ b o, (b, o) ∈ h → b < base) → De X ops base [] true [] e h (ops.toList.zip inf) Q) : Ce X e h (.region id ops true) Q := fun ts m h1 h2 => by
 obtain ⟨k, o, g1, g2⟩ := q m.next h2.next (fun b o hb => (h2.has b o hb).2.1) ts m [] [] h1 h2 ⟨h2.next, Nat.le_refl _⟩ (fun _ hp => by cases hp) (fun _ _ hp => by cases hp)
 refine Ru.step (k := k) ?_ g2
 show drawA _ _ _ _ _ _ = _
 unfold drawA
 have hb : (Nat.ble m.lo m.next && tmpsOk (ops.toList.zip (infos X.P ops.toList)) ops.toList) = true := by
  rw [hi, htm, nble, decide_eq_true h2.lole']
  rfl
 rw [hb, hi, h2.lo]
 exact g1
theorem De.nil (q : Ne X e h Q) : De X ops base rI cl as e h [] Q := fun ts m _ _ h1 h2 _ _ _ => ⟨0, _, rfl, q ts m h1 h2⟩
theorem De.off (hd : o.dst = some t) (ht : Nat.blt t X.n = true) (hg : wantE ops e o = some false) (q : De X ops base rI cl as ((t, undef) :: e) h rest Q) : De X ops base rI cl as e h ((o, i) :: rest) Q := fun ts m rs ws h1 h2 h3 h4 h5 => by
 obtain ⟨k, out, g1, g2⟩ := q _ m rs ws (h1.put ht undef) h2 h3 h4 h5
 refine ⟨k, out, ?_, g2⟩
 unfold dops
 rw [wantE_spec h1 hg, hd]
 exact g1
theorem De.pure (hi : i.cls = .p) (hd : o.dst = some t) (ht : Nat.blt t X.n = true) (hg : wantE ops e o = some true) (hv : ∀ ts, Has X.n ts e → cls X.P o.op = .p ∧ opP X.P ts o.op = some v) (q : De X ops base rI cl as ((t, v) :: e) h rest Q) : De X ops base rI cl as e h ((o, i) :: rest) Q := fun ts m rs ws h1 h2 h3 h4 h5 => by
 obtain ⟨k, out, g1, g2⟩ := q _ m rs ws (h1.put ht v) h2 h3 h4 h5
 obtain ⟨c1, c2⟩ := hv ts h1
 refine ⟨k, out, ?_, g2⟩
 unfold dops
 rw [wantE_spec h1 hg]
 simp only [cond_true, hi, doOp_p c1, doP, c2, hd]
 exact g1
theorem De.p (hi : i.cls = .p) (hd : o.dst = some t) (ht : Nat.blt t X.n = true) (hg : wantE ops e o = some true) (hv : opE X.P e o.op = some v) (q : De X ops base rI cl as ((t, v) :: e) h rest Q) : De X ops base rI cl as e h ((o, i) :: rest) Q :=
 De.pure hi hd ht hg (fun _ H => ⟨(opE_spec H hv).1, (opE_spec H hv).2.2⟩) q
theorem De.conv (hi : i.cls = .p) (hd : o.dst = some t) (ht : Nat.blt t X.n = true) (hg : wantE ops e o = some true) (ho : o.op = .convert s d x) (hx : evE X.P e x = some a) (hc : cls X.P (.convert s d x) = .p) (hv : convS X.P s d a = some v) (q : De X ops base rI cl as ((t, v) :: e) h rest Q) : De X ops base rI cl as e h ((o, i) :: rest) Q :=
 De.pure hi hd ht hg (fun ts H => by
  rw [ho]
  exact ⟨hc, by simp only [opP, evE_ev H hx, Option.bind_some, hv]⟩) q
theorem De.fieldAddr {j b off k : Nat} (hi : i.cls = .p) (hd : o.dst = some t) (ht : Nat.blt t X.n = true) (hg : wantE ops e o = some true) (ho : o.op = .fieldAddr s x j) (hx : evE X.P e x = some (.pointer (some ⟨b, off, none⟩))) (hf : ∀ b off, fieldAddrA X.P s (.pointer (some ⟨b, off, none⟩)) j = some (.pointer (some ⟨b, off + k, none⟩))) (q : De X ops base rI cl as ((t, .pointer (some ⟨b, off + k, none⟩)) :: e) h rest Q) : De X ops base rI cl as e h ((o, i) :: rest) Q :=
 De.p hi hd ht hg (by rw [ho]; simp only [opE, hx, hf]) q
theorem De.indexAddr {b off len cap sz j : Nat} (hi : i.cls = .p) (hd : o.dst = some t) (ht : Nat.blt t X.n = true) (hg : wantE ops e o = some true) (ho : o.op = .indexAddr ty x y) (hu : X.P.underlying ty = some (.slice el)) (hs : sizeT X.P el = some sz) (hx : evE X.P e x = some (.slice (some ⟨b, off, none⟩) len cap)) (hy : evE X.P e y = some (.int k (Int.ofNat j))) (hj : j < len) (q : De X ops base rI cl as ((t, .pointer (some ⟨b, off + j * sz, none⟩)) :: e) h rest Q) : De X ops base rI cl as e h ((o, i) :: rest) Q :=
 De.p hi hd ht hg (by
  rw [ho]
  simp only [opE, hx, hy]
  unfold indexAddrA
  simp only [asInt?, hu, hs]
  rw [nblt, decide_eq_true hj]
  rfl) q
theorem De.imm (hi : i.cls = .l) (hd : o.dst = some t) (ht : Nat.blt t X.n = true) (hg : wantE ops e o = some true) (hv : ∀ ts, Has X.n ts e → opL X.P ts o.op = some (.imm v)) (q : De X ops base rI cl as ((t, v) :: e) h rest Q) : De X ops base rI cl as e h ((o, i) :: rest) Q := fun ts m rs ws h1 h2 h3 h4 h5 => by
 obtain ⟨k, out, g1, g2⟩ := q _ m rs ws (h1.put ht v) h2 h3 h4 h5
 refine ⟨k, out, ?_, g2⟩
 unfold dops
 rw [wantE_spec h1 hg]
 simp only [cond_true, hi, hv ts h1, hd]
 exact g1
theorem De.len (hi : i.cls = .l) (hd : o.dst = some t) (ht : Nat.blt t X.n = true) (hg : wantE ops e o = some true) (ho : o.op = .call { callee := .builtin .len, args := #[x], argTypes := #[ty] }) (hx : evE X.P e x = some y) (hl : lenA X.P ty y = some (.imm v)) (q : De X ops base rI cl as ((t, v) :: e) h rest Q) : De X ops base rI cl as e h ((o, i) :: rest) Q :=
 De.imm hi hd ht hg (fun ts h1 => by
  rw [ho]
  have : evs X.P ts [x] = some [y] := by
   unfold evs evs
   rw [evE_ev h1 hx]
   rfl
  have h2 : (#[ty] : Array TypeId)[0]? = some ty := rfl
  simp only [opL, callL, this, h2, hl]) q
theorem De.rdOld (hi : i.cls = .l) (hd : o.dst = some t) (ht : Nat.blt t X.n = true) (hg : wantE ops e o = some true) (hv : ∀ ts, Has X.n ts e → opL X.P ts o.op = some (.rd b f)) (hs : Sees X h b ob) (hf : f ob = some v) (hb : b < base) (q : De X ops base (i.i :: rI) true as ((t, v) :: e) h rest Q) : De X ops base rI true as e h ((o, i) :: rest) Q := fun ts m rs ws h1 h2 h3 h4 h5 => by
 have hr : (m.heap.get b).bind f = some v := by rw [hs m h2]; exact hf
 cases hfull : (i.full && seenB i.pre b as) with
 | true =>
  obtain ⟨k, out, g1, g2⟩ := q _ m rs ws (h1.put ht v) h2 h3 (fun p hp => List.mem_cons_of_mem _ (h4 p hp)) h5
  refine ⟨k, out, ?_, g2⟩
  unfold dops
  rw [wantE_spec h1 hg]
  simp only [cond_true, hi, hv ts h1, hd, hr, hfull]
  exact g1
 | false =>
  obtain ⟨k, out, g1, g2⟩ := q _ m ((i.i, b, f, v) :: rs) ws (h1.put ht v) h2 h3 (fun p hp => by
   rcases List.mem_cons.1 hp with rfl | hp
   ·exact List.mem_cons_self
   exact List.mem_cons_of_mem _ (h4 p hp)) h5
  refine ⟨k, out, ?_, g2⟩
  unfold dops
  rw [wantE_spec h1 hg]
  have : (Nat.blt b base && readOk i.pre b ws) = true := by
   rw [readOk_nil _ _ _ (h5 rfl), nblt, decide_eq_true hb]
   rfl
  simp only [cond_true, hi, hv ts h1, hd, hr, hfull, cond_false, this]
  exact g1
theorem De.rdFull (hi : i.cls = .l) (hfl : i.full = true) (hin : allIn i.pre (as.map Prod.fst) = true) (hd : o.dst = some t) (ht : Nat.blt t X.n = true) (hg : wantE ops e o = some true) (hv : ∀ ts, Has X.n ts e → opL X.P ts o.op = some (.rd b f)) (hs : Sees X h b ob) (hf : f ob = some v) (q : De X ops base rI cl as ((t, v) :: e) h rest Q) : De X ops base rI cl as e h ((o, i) :: rest) Q := fun ts m rs ws h1 h2 h3 h4 h5 => by
 have hr : (m.heap.get b).bind f = some v := by rw [hs m h2]; exact hf
 obtain ⟨k, out, g1, g2⟩ := q _ m rs ws (h1.put ht v) h2 h3 h4 h5
 refine ⟨k, out, ?_, g2⟩
 unfold dops
 rw [wantE_spec h1 hg]
 have : (i.full && seenB i.pre b as) = true := by rw [hfl, seenB_all _ _ _ hin]; rfl
 simp only [cond_true, hi, hv ts h1, hd, hr, this]
 exact g1
theorem loadA_false {b off : Nat} (hty : aggT P ty = some false) : loadA P ty (.pointer (some ⟨b, off, none⟩)) = some (.rd b fun o => match o with | .cells cs _ _ _ _ => cs[off]? | _ => none) := by
 unfold loadA
 simp only [hty]
 rfl
theorem loadA_true {b off n : Nat} (hty : aggT P ty = some true) (hsz : sizeT P ty = some n) : loadA P ty (.pointer (some ⟨b, off, none⟩)) = some (.rd b fun o => (rdCells o off n).map fun cs => .agg ⟨cs⟩) := by
 unfold loadA
 simp only [hty, hsz]
theorem rdCells_take {off n : Nat} (hl : off + n ≤ cs.length) (hc : (cs.drop off).take n = vs) : rdCells (.cells cs el g md mate) off n = some vs := by
 unfold rdCells
 simp only [nble, hl, decide_true, cond_true, hc]
theorem De.load {b off : Nat} (hi : i.cls = .l) (hfl : i.full = true) (hin : allIn i.pre (as.map Prod.fst) = true) (hd : o.dst = some t) (ht : Nat.blt t X.n = true) (hg : wantE ops e o = some true) (ho : o.op = .load ty a) (ha : evE X.P e a = some (.pointer (some ⟨b, off, none⟩))) (hty : aggT X.P ty = some false) (hs : Sees X h b (.cells cs el g md mate)) (hc : cs[off]? = some v) (q : De X ops base rI cl as ((t, v) :: e) h rest Q) : De X ops base rI cl as e h ((o, i) :: rest) Q :=
 De.rdFull hi hfl hin hd ht hg (fun ts H => by rw [ho]; simp only [opL, evE_ev H ha, Option.bind_some]; exact loadA_false hty) hs hc q
theorem De.loadOld {b off : Nat} (hi : i.cls = .l) (hd : o.dst = some t) (ht : Nat.blt t X.n = true) (hg : wantE ops e o = some true) (ho : o.op = .load ty a) (ha : evE X.P e a = some (.pointer (some ⟨b, off, none⟩))) (hty : aggT X.P ty = some false) (hs : Sees X h b (.cells cs el g md mate)) (hc : cs[off]? = some v) (hb : b < base) (q : De X ops base (i.i :: rI) true as ((t, v) :: e) h rest Q) : De X ops base rI true as e h ((o, i) :: rest) Q :=
 De.rdOld hi hd ht hg (fun ts H => by rw [ho]; simp only [opL, evE_ev H ha, Option.bind_some]; exact loadA_false hty) hs hc hb q
theorem De.made (hi : i.cls = .a) (hd : o.dst = some t) (ht : Nat.blt t X.n = true) (hg : wantE ops e o = some true) (hc : cls X.P o.op = .a) (hv : ∀ ts, Has X.n ts e → opA X.P ts o.op = some (ob, fv)) (q : ∀ b, base ≤ b → X.m0.next ≤ b → De X ops base rI cl ((i.i, b) :: as) ((t, fv b) :: e) ((b, ob) :: h) rest Q) : De X ops base rI cl as e h ((o, i) :: rest) Q := fun ts m rs ws h1 h2 h3 h4 h5 => by
 obtain ⟨k, out, g1, g2⟩ := q m.next h3.2 h2.next _ (m.new ob) rs ws (h1.put ht (fv m.next)) (h2.new ob) ⟨h3.1, by simp only [AW.new]; have := h3.2; omega⟩ h4 h5
 refine ⟨k, out, ?_, g2⟩
 unfold dops
 rw [wantE_spec h1 hg]
 have : doOp X.P (irun X.P k) ts o.op m = some (.val (fv m.next) (m.new ob)) := by rw [doOp_a hc, hv ts h1]; rfl
 simp only [cond_true, hi, this, hd]
 exact g1
theorem De.alloc (hi : i.cls = .a) (hd : o.dst = some t) (ht : Nat.blt t X.n = true) (hg : wantE ops e o = some true) (ho : o.op = .alloc el) (hz : zeroT X.P el = some z) (q : ∀ b, base ≤ b → X.m0.next ≤ b → De X ops base rI cl ((i.i, b) :: as) ((t, .pointer (some ⟨b, 0, none⟩)) :: e) ((b, .cells (cellsOfV z) el false .plain none) :: h) rest Q) : De X ops base rI cl as e h ((o, i) :: rest) Q :=
 De.made hi hd ht hg (by rw [ho]; rfl) (fun ts _ => by rw [ho]; simp only [opA, hz]; rfl) q
theorem De.box (hi : i.cls = .a) (hd : o.dst = some t) (ht : Nat.blt t X.n = true) (hg : wantE ops e o = some true) (ho : o.op = .box el x) (hx : evE X.P e x = some y) (q : ∀ b, base ≤ b → X.m0.next ≤ b → De X ops base rI cl ((i.i, b) :: as) ((t, .pointer (some ⟨b, 0, none⟩)) :: e) ((b, .cells (cellsOfV y) el false .plain none) :: h) rest Q) : De X ops base rI cl as e h ((o, i) :: rest) Q :=
 De.made hi hd ht hg (by rw [ho]; rfl) (fun ts H => by rw [ho]; simp only [opA, evE_ev H hx]; rfl) q
theorem De.calln (A : α → Prop) (V : α → Value) (N : α → Hp) (hi : i.cls = .h) (hok : i.hok = true) (hin : allIn i.pre (as.map Prod.fst) = true) (hd : o.dst = some t) (ht : Nat.blt t X.n = true) (hg : wantE ops e o = some true) (ho : o.op = .call { callee := .value fo, args := ag, argTypes := ats }) (ha : evsE X.P e ag.toList = some vs) (hf : evE X.P e fo = some (.func (.func g) ⟨first⟩ ⟨cap⟩))
  (hc : ∀ m, KR X.S X.m0 m h → Fc X.P g (first ++ vs ++ cap) m fun v m' => ∃ x, A x ∧ v = V x ∧ Ext m m' ∧ News m m' (N x)) (q : ∀ x, A x → De X ops base rI cl as ((t, V x) :: e) (N x ++ h) rest Q) : De X ops base rI cl as e h ((o, i) :: rest) Q := fun ts m rs ws h1 h2 h3 h4 h5 => by
 have hkr : KR X.S X.m0 ⟨m.heap, m.next, base, []⟩ h := ⟨h3.2, h2.next, h2.keep, fun b o hb => ⟨(h2.has b o hb).1, (h2.has b o hb).2.1⟩⟩
 obtain ⟨k, v, m', g1, x, hA, rfl, hx, hn⟩ := hc _ hkr
 have hlog : m'.log = [] := hx.log
 have hext : Ext m ⟨m'.heap, m'.next, X.m0.lo, m.log⟩ := ⟨hx.next, h2.lo.symm, rfl, hx.keep⟩
 have hnew : News m ⟨m'.heap, m'.next, X.m0.lo, m.log⟩ (N x) := ⟨hn.has, hn.apart⟩
 obtain ⟨j, out, g2, g3⟩ := q x hA _ ⟨m'.heap, m'.next, X.m0.lo, m.log⟩ rs ((i.i, []) :: ws) (h1.put ht (V x)) (h2.of_news hext hnew) ⟨h3.1, Nat.le_trans h3.2 hx.next⟩ h4 (fun hcl p hp => by
  rcases List.mem_cons.1 hp with rfl | hp
  ·rfl
  exact h5 hcl p hp)
 refine ⟨k + j, out, ?_, g3⟩
 unfold dops
 rw [wantE_spec h1 hg]
 have e1 : (i.hok && plainB i.pre m.heap as) = true := by rw [hok, plainB_all _ _ _ hin]; rfl
 have e2 : doOp X.P (irun X.P (k + j)) ts o.op ⟨hideB i.pre as m.heap, m.next, base, []⟩ = some (.val (V x) m') := by
  rw [hideB_all _ _ _ hin, ho, doOp_h rfl]
  simp only [opH, callH, evsE_evs h1 ha, evE_ev h1 hf, callV, callA, irun_le (Nat.le_add_right k j) _ _ _ _ g1]
 simp only [cond_true, hi, e1, e2, hlog, writeOk_nil, showB_all _ _ _ _ hin, below, List.nil_append, hd]
 exact dops_le (irun_le (Nat.le_add_left j k)) g2
theorem De.call (v : Value) (hi : i.cls = .h) (hok : i.hok = true) (hin : allIn i.pre (as.map Prod.fst) = true) (hd : o.dst = some t) (ht : Nat.blt t X.n = true) (hg : wantE ops e o = some true) (ho : o.op = .call { callee := .value fo, args := ag, argTypes := ats }) (ha : evsE X.P e ag.toList = some vs) (hf : evE X.P e fo = some (.func (.func g) ⟨first⟩ ⟨cap⟩))
  (hc : ∀ m, KR X.S X.m0 m h → Fc X.P g (first ++ vs ++ cap) m fun w m' => w = v ∧ Ext m m') (q : De X ops base rI cl as ((t, v) :: e) h rest Q) : De X ops base rI cl as e h ((o, i) :: rest) Q :=
 De.calln (α := Unit) (fun _ => True) (fun _ => v) (fun _ => []) hi hok hin hd ht hg ho ha hf (fun m hm => (hc m hm).mono fun _ _ ⟨e1, e2⟩ => ⟨(), trivial, e1, e2, News.nil _ _⟩) fun _ _ => q
end
end Go.Ab
namespace Go.Ab
variable [Vals]
section
variable {X : Cx} {ops : Array Oper} {base : Nat} {rI : List Nat} {cl : Bool} {mk : List (Nat × Nat)} {e : Env} {h : Hp} {Q : Out → Prop} {o : Oper} {i : Info} {rest : List (Oper × Info)} {t : Tmp} {v : Value}
theorem has_as (u : Nat) (hl : look e u = some w) (hw : w = w') (h1 : Has n ts e) : Has n ts ((u, w') :: e) := by
 subst hw
 refine ⟨h1.few, h1.defs, fun s x hx => ?_⟩
 unfold look at hx
 cases hb : Nat.beq u s with
 | true =>
  rw [hb] at hx
  cases hx
  rw [nbeq, decide_eq_true_eq] at hb
  subst hb
  exact h1.at_ _ _ hl
 | false =>
  rw [hb] at hx
  exact h1.at_ _ _ hx
theorem De.as (u : Nat) (w' : Value) (hl : look e u = some w) (hw : w = w') (q : De X ops base rI cl mk ((u, w') :: e) h rest Q) : De X ops base rI cl mk e h rest Q := fun ts m rs ws h1 h2 h3 h4 h5 => q ts m rs ws (has_as u hl hw h1) h2 h3 h4 h5
theorem De.sub (e' : Env) (h' : Hp) (he : Sub e' e) (hh : h'.Sublist h) (q : De X ops base rI cl mk e' h' rest Q) : De X ops base rI cl mk e h rest Q := fun ts m rs ws h1 h2 h3 h4 h5 => q ts m rs ws (h1.sub he) (h2.sub hh) h3 h4 h5
theorem De.bin (hi : i.cls = .p) (hd : o.dst = some t) (ht : Nat.blt t X.n = true) (hg : wantE ops e o = some true) (ho : o.op = .binOp op ty x y u) (hx : evE X.P e x = some a) (hy : evE X.P e y = some b) (hv : binS X.P op ty x y a b = some v) (q : De X ops base rI cl mk ((t, v) :: e) h rest Q) : De X ops base rI cl mk e h ((o, i) :: rest) Q :=
 De.p hi hd ht hg (by rw [ho]; simp only [opE, hx, hy]; exact hv) q
theorem Ie.bin {rest : List Oper} (hd : o.dst = some t) (ht : Nat.blt t X.n = true) (hg : wantE ops e o = some true) (ho : o.op = .binOp op ty x y u) (hx : evE X.P e x = some a) (hy : evE X.P e y = some b) (hv : binS X.P op ty x y a b = some v) (q : Ie X ops ((t, v) :: e) h rest Q) : Ie X ops e h (o :: rest) Q :=
 Ie.p hd ht hg (by rw [ho]; simp only [opE, hx, hy]; exact hv) q
theorem binS_geq (h : b ≤ a) : binS P .geq ty x y (.int k a) (.int k b) = some (.bool true) := by
 have : binS P .geq ty x y (.int k a) (.int k b) = some (.bool (!ltI a b)) := by
  unfold binS
  have h : binA P .geq ty x y (.int k a) (.int k b) = some (.bool (!ltI a b)) := by
   show (bif decide (k = k) then arithI .geq k a b else none) = _
   simp only [decide_true, cond_true, arithI, cmpInt, Option.map_some]
  rw [h]
 rw [this, ltI_eq, decide_eq_false (by omega)]
 rfl
theorem binS_ngeq (h : a < b) : binS P .geq ty x y (.int k a) (.int k b) = some (.bool false) := by
 have : binS P .geq ty x y (.int k a) (.int k b) = some (.bool (!ltI a b)) := by
  unfold binS
  have h : binA P .geq ty x y (.int k a) (.int k b) = some (.bool (!ltI a b)) := by
   show (bif decide (k = k) then arithI .geq k a b else none) = _
   simp only [decide_true, cond_true, arithI, cmpInt, Option.map_some]
  rw [h]
 rw [this, ltI_eq, decide_eq_true h]
 rfl
theorem binS_quo (hb : b ≠ 0) : binS P .quo ty x y (.int k a) (.int k b) = some (.int k (wr k (a.tdiv b))) := by
 have h : binA P .quo ty x y (.int k a) (.int k b) = some (.int k (wr k (a.tdiv b))) := by
  show (bif decide (k = k) then arithI .quo k a b else none) = _
  simp only [decide_true, cond_true, arithI, eqI_eq, hb, decide_false, cond_false]
 unfold binS
 rw [h]
theorem binS_rem (hb : b ≠ 0) : binS P .rem ty x y (.int k a) (.int k b) = some (.int k (a.tmod b)) := by
 have h : binA P .rem ty x y (.int k a) (.int k b) = some (.int k (a.tmod b)) := by
  show (bif decide (k = k) then arithI .rem k a b else none) = _
  simp only [decide_true, cond_true, arithI, eqI_eq, hb, decide_false, cond_false]
 unfold binS
 rw [h]
theorem De.store {b off n : Nat} (hi : i.cls = .h) (hok : i.hok = true) (hin : allIn i.pre (mk.map Prod.fst) = true) (hri : allIn i.pre rI = true) (hd : o.dst = none) (hg : wantE ops e o = some true) (ho : o.op = .store ty a x) (ha : evE X.P e a = some (.pointer (some ⟨b, off, none⟩))) (hx : evE X.P e x = some y) (hsz : sizeT X.P ty = some (n + 1)) (hl : (cellsOfV y).length = n + 1) (hu : Upd h b (.cells cs el g md none) (.cells (putCells cs off (cellsOfV y)) el g md none) h') (hw : (md.writes && Nat.ble (off + (cellsOfV y).length) cs.length && flats (cellsOfV y)) = true) (q : De X ops base rI false mk e h' rest Q) : De X ops base rI cl mk e h ((o, i) :: rest) Q := fun ts m rs ws h1 h2 h3 h4 h5 => by
 have hn : m.next = (m.set b (some (.cells (putCells cs off (cellsOfV y)) el g md none))).next := rfl
 obtain ⟨k, out, g1, g2⟩ := q ts (m.set b (some (.cells (putCells cs off (cellsOfV y)) el g md none))) rs ((i.i, bif Nat.blt b base then [b] else []) :: ws) h1 (h2.set hu) h3 h4 (fun hf => by cases hf)
 refine ⟨k, out, ?_, g2⟩
 have hb : m.heap.get b = some (.cells cs el g md none) := (h2.has _ _ hu.spec.1).1
 have e2 : doOp X.P (irun X.P k) ts o.op ⟨hideB i.pre mk m.heap, m.next, base, []⟩ = some (.val undef (AW.set ⟨m.heap, m.next, base, []⟩ b (some (.cells (putCells cs off (cellsOfV y)) el g md none)))) := by
  rw [hideB_all _ _ _ hin, ho, doOp_h rfl]
  have h4 : storeA ⟨m.heap, m.next, base, []⟩ b off (cellsOfV y) = some (AW.set ⟨m.heap, m.next, base, []⟩ b (some (.cells (putCells cs off (cellsOfV y)) el g md none))) := by
   unfold storeA
   cases hc : cellsOfV y with
   | nil => rw [hc] at hl; simp at hl
   | cons c r =>
    rw [hc] at hw
    simp only [hb, hw, kill, cond_true]
  have h5 : Nat.beq (cellsOfV y).length (n + 1) = true := by rw [nbeq, hl]; simp
  simp only [opH, evE_ev h1 ha, evE_ev h1 hx, storeV, hsz, h5, cond_true, h4, valM]
 have e1 : (i.hok && plainB i.pre m.heap mk) = true := by rw [hok, plainB_all _ _ _ hin]; rfl
 have e3 : ∀ w h, writeOk i.pre w h rs = true := fun w h => writeOk_in _ _ _ hri _ h4
 unfold dops
 rw [wantE_spec h1 hg]
 simp only [cond_true, hi, e1, e2, e3, showB_all _ _ _ _ hin, hd]
 have hlog : below X.m0.lo (AW.set ⟨m.heap, m.next, base, []⟩ b (some (.cells (putCells cs off (cellsOfV y)) el g md none))).log ++ m.log = (m.set b (some (.cells (putCells cs off (cellsOfV y)) el g md none))).log := by
  simp only [AW.set, h2.lo]
  cases hbb : Nat.blt b base with
  | true =>
   simp only [cond_true, below]
   cases Nat.blt b X.m0.lo <;> rfl
  | false =>
   simp only [cond_false, below, List.nil_append]
   have : Nat.blt b X.m0.lo = false := by
    rw [nblt, decide_eq_false_iff_not] at hbb ⊢
    have := h2.lole
    have := h3.1
    omega
   rw [this]
   rfl
 rw [hlog]
 have hput : put X.n ts none undef = ts := rfl
 have hheap : (⟨(AW.set ⟨m.heap, m.next, base, []⟩ b (some (.cells (putCells cs off (cellsOfV y)) el g md none))).heap, (AW.set ⟨m.heap, m.next, base, []⟩ b (some (.cells (putCells cs off (cellsOfV y)) el g md none))).next, X.m0.lo, (m.set b (some (.cells (putCells cs off (cellsOfV y)) el g md none))).log⟩ : AW) = m.set b (some (.cells (putCells cs off (cellsOfV y)) el g md none)) := by
  simp only [AW.set, h2.lo]
 rw [hheap, hput]
 exact g1
end
end Go.Ab
namespace Go.Ab
variable [Vals]
theorem Knows.news (k : Knows [] m0 m h) (hl : l.Sublist h) : News m0 m l where
 has := fun b o hb => by
  obtain ⟨h1, h2, h3⟩ := k.has b o (hl.subset hb)
  refine ⟨h1, ?_, h2⟩
  rcases h3 with h3 | h3
  ·exact h3
  cases h3
 apart := k.apart.sublist (hl.map _)
inductive ResH (X : Cx) (e : Env) (h : Hp) : List ResultVar → List Value → Prop where
 | nil : ResH X e h [] []
 | tmp {t : Nat} {v : Value} {rs : List ResultVar} {vs : List Value} (hl : look e t = some v) (r : ResH X e h rs vs) : ResH X e h (.tmp t :: rs) (v :: vs)
 | agg {a t b off n : Nat} {cs ws : List Value} {el : TypeId} {g : Bool} {md : CMode} {mate : Option Nat} {rs : List ResultVar} {vs : List Value} (hl : look e a = some (.pointer (some ⟨b, off, none⟩))) (hty : aggT X.P t = some true) (hsz : sizeT X.P t = some n) (hs : Sees X h b (.cells cs el g md mate)) (hn : off + n ≤ cs.length) (hc : (cs.drop off).take n = ws) (r : ResH X e h rs vs) : ResH X e h (.cell a t :: rs) (.agg ⟨ws⟩ :: vs)
 | cell {a t b off : Nat} {v : Value} {cs : List Value} {el : TypeId} {g : Bool} {md : CMode} {mate : Option Nat} {rs : List ResultVar} {vs : List Value} (hl : look e a = some (.pointer (some ⟨b, off, none⟩))) (hty : aggT X.P t = some false) (hs : Sees X h b (.cells cs el g md mate)) (hc : cs[off]? = some v) (r : ResH X e h rs vs) : ResH X e h (.cell a t :: rs) (v :: vs)
theorem ResH.spec (r : ResH X e h rs vs) (H : Has X.n ts e) (K : Knows X.S X.m0 m h) : resA.go X.P ts m rs = some vs := by
 have hlt : ∀ {t : Nat}, t < X.n → Nat.blt t dIx = true := fun {t} ht => by
  rw [nblt, decide_eq_true_eq]
  have := H.few
  omega
 induction r with
 | nil => rfl
 | tmp hl r ih =>
  obtain ⟨h1, h2⟩ := H.at_ _ _ hl
  unfold resA.go
  simp only [hlt h1, cond_true, ih, h2]
  rfl
 | agg hl hty hsz hs hn hc r ih =>
  obtain ⟨h1, h2⟩ := H.at_ _ _ hl
  unfold resA.go
  simp only [hlt h1, cond_true, ih, h2, Option.getD_some, loadA_true hty hsz, hs m K, Option.bind_some, rdCells_take hn hc, Option.map_some]
 | cell hl hty hs hc r ih =>
  obtain ⟨h1, h2⟩ := H.at_ _ _ hl
  unfold resA.go
  simp only [hlt h1, cond_true, ih, h2, Option.getD_some, loadA_false hty, hs m K, Option.bind_some, hc, Option.map_some]
section
variable {X : Cx} {e : Env} {h : Hp} {fn : Func} {Q : Value → AW → Prop}
theorem Re.endH (hr : fn.results.toList = rs) (hv : ResH X e h rs vs) (q : ∀ m, Knows X.S X.m0 m h → Q (tupV vs) m) : Re X e h (End X.P fn Q) := fun ts m h1 h2 =>
 ⟨h1.defs, tupV vs, by unfold resA; rw [hr, hv.spec h1 h2]; unfold tupV; rfl, q m h2⟩
end
theorem Fc.extern (hf : P.funcs[f]? = some fn) (hb : fn.body = none) (he : externA fn args = some v) : Fc P f args m fun w m' => w = v ∧ Ext m m' := by
 refine ⟨1, v, m, ?_, rfl, .refl _⟩
 show stFn P _ f args m = _
 unfold stFn
 simp only [hf, hb, he]
theorem hasL_congr {h h' : Tr AObj} : ∀ {l : List (Nat × Bool × List Value)}, (∀ p ∈ l, h'.get p.1 = h.get p.1) → hasL h' l = hasL h l
 | [], _ => rfl
 | (b, g, vs) :: l, hp => by
  unfold hasL
  have e1 : h'.get b = h.get b := hp (b, g, vs) List.mem_cons_self
  rw [e1, hasL_congr fun p hm => hp p (List.mem_cons_of_mem _ hm)]
def LaidAt (l : List (Nat × Bool × List Value)) (m : AW) : Prop := hasL m.heap l = true ∧ ∀ p ∈ l, p.1 < m.next
theorem LaidAt.kr (x : LaidAt l m0) (k : KR [] m0 m h) : LaidAt l m :=
 ⟨(hasL_congr fun p hp => k.keep p.1 (x.2 p hp) (by simp)).trans x.1, fun p hp => Nat.lt_of_lt_of_le (x.2 p hp) k.next⟩
theorem Fc.said (hf : P.funcs[f]? = some fn) (hb : fn.body.isSome = true) (hv : Vals.call f args = some v) (hs : (scals args && scalT v) = true) (hg : Nat.ble P.globals.size laidEnd = true) (hl : LaidAt Vals.laid m) : Fc P f args m fun w m' => w = v ∧ Ext m m' :=
 (Fc.known hf hb hv hs (by rw [hg, hl.1]; rfl)).mono fun _ _ ⟨e1, e2⟩ => ⟨e1, by rw [e2]; exact .refl _⟩
theorem calls_fc [FactsOk P] (hP : PlainNames P) (hmx : P.follows .mixedOrders = true) (h : ∀ tt, Fc P f args ⟨laidT tt l, nx, lo, []⟩ fun v _ => v = .bool b) (hf : P.funcs[f]? = some fn) (hb : fn.body.isSome = true)
  (hl : LiesBy P W l) (hnx : Nat.ble laidEnd nx = true) (ha : ∀ ρ, VsRel ρ args args') :
  Calls P f ⟨args'⟩ W fun e W' => e = .returned (.bool b) ∧ Still W W' := by
 obtain ⟨tt, ρ, hr, hn⟩ := relLaid (nx := nx) (lo := lo) (lg := []) hl
 obtain ⟨k, v, m', h1, rfl⟩ := h tt
 rw [nble, decide_eq_true_eq] at hnx
 refine (calls_of_irun hP hmx h1 rfl hf hb hr (fun i hi _ => hn i (Nat.le_trans hnx hi)) (ha ρ)).mono fun e W' ⟨v', ρ', q1, q2, _, q4⟩ => ?_
 cases q2
 refine ⟨q1, q4.rest, q4.size, fun B hB => q4.keep B hB ?_⟩
 rintro ⟨c, o, s, g1, g2, _⟩
 obtain ⟨t, vs, _, rfl⟩ := laidT_get g1
 cases g2
theorem wr_if (k : IntKind) (n : Int) : wr k n = if k.signed = true ∧ (2 : Int) ^ (k.bits - 1) ≤ n % (2 : Int) ^ k.bits then n % (2 : Int) ^ k.bits - (2 : Int) ^ k.bits else n % (2 : Int) ^ k.bits := by
 rw [wr_eq]
 unfold IntKind.wrap
 simp only [Bool.and_eq_true, decide_eq_true_eq, ge_iff_le]
theorem wr_in (h1 : k.min ≤ n) (h2 : n ≤ k.max) : wr k n = n := by
 rw [wr_if]
 cases k <;> simp only [IntKind.bits, IntKind.signed, IntKind.min, IntKind.max, true_and, false_and, Bool.false_eq_true, if_false, if_true, Nat.reduceSub, Int.reducePow, Int.reduceNeg, Int.reduceSub] at * <;> first | omega | (split <;> omega)
end Go.Ab