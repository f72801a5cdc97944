/-
  The engine, part 3: an interpreter over abstract memories, and the proof that the model's machine does what it reckons. Conditions: none.
-/
import Derived.Test.YtdgbgmpnjggikaaGreatDoorEng2
import Derived.Defers
import Derived.Lib.MakeNoZero
import Derived.Orders

set_option autoImplicit true
set_option relaxedAutoImplicit true
set_option linter.unusedSectionVars false
set_option linter.unusedVariables false
set_option linter.unusedSimpArgs false
namespace Go.Ab
variable [Vals]
section
variable {P : Program} [FactsOk P] {ρ ρ' : Ren} {m m' : AW} {w w' : World} {ts : Tr Value} {self : Self}
def PlainNames (P : Program) : Prop := ∀ (f : FuncId) (fn : Func), P.funcs[f]? = some fn → fn.body.isSome = true → fn.name ≠ "runtime.NumGoroutine"
theorem callFunc_enter (hP : PlainNames P) (hf : P.funcs[f]? = some fn) (hb : fn.body = some c) (args : Array Value) (w : World) : (callFunc f args).run P w = .ok (.enter f args) w := by
 have hn := hP f fn hf (by rw [hb]; rfl)
 have hn2 : (fn.name == "runtime.NumGoroutine") = false := by simpa using hn
 unfold callFunc
 simp [hf, hn, hb]
theorem Rel.globals (h : Rel P ρ m w) : P.globals.size ≤ w.heap.size := by
 rcases Nat.eq_zero_or_pos P.globals.size with h0 | h0
 ·omega
 obtain ⟨c, hc⟩ := h.glob (P.globals.size - 1) (by omega)
 have := h.inb _ _ hc
 simp only at this
 omega
def low (ρ : Ren) : Ren := fun i => if i < laidEnd then ρ i else none
theorem low_le (ρ : Ren) : (low ρ).le ρ := by
 intro i s h
 unfold low at h
 split at h
 ·exact h
 cases h
theorem eqAdr_spec (h : eqAdr a b = true) : a = b ∧ a.spot = none ∧ a.block < laidEnd := by
 unfold eqAdr at h
 simp only [Bool.and_eq_true, nbeq, nblt, decide_eq_true_eq, Option.isNone_iff_eq_none] at h
 obtain ⟨h1, h2, h3, h4, h5⟩ := h
 obtain ⟨x, y, z⟩ := a
 obtain ⟨x', y', z'⟩ := b
 simp only at h1 h2 h3 h4 h5
 subst h1 h2 h3 h4
 exact ⟨rfl, rfl, h5⟩
theorem eqS_lrel (h : eqS a b = true) (hr : VRel ρ a a') : LRel (low ρ) b a' := by
 unfold eqS at h
 split at h
 ·simp only [Bool.and_eq_true, decide_eq_true_eq] at h
  obtain ⟨rfl, rfl⟩ := h
  cases hr
  exact ⟨rfl, rfl⟩
 ·simp only [beq_iff_eq] at h
  subst h
  cases hr
  exact ⟨rfl, rfl⟩
 ·rename_i s t
  rw [eqBytes_eq, decide_eq_true_eq] at h
  have : s = t := by
   cases s
   cases t
   congr 1
   exact Array.ext' h
  subst this
  cases hr
  exact ⟨rfl, rfl⟩
 ·simp only [Bool.and_eq_true, decide_eq_true_eq] at h
  obtain ⟨rfl, rfl⟩ := h
  cases hr
  exact ⟨rfl, rfl⟩
 ·rename_i x l c x' l' c'
  simp only [Bool.and_eq_true, nbeq, nblt, decide_eq_true_eq] at h
  obtain ⟨h1, rfl, rfl, h2, h3⟩ := h
  obtain ⟨rfl, h4, h5⟩ := eqAdr_spec h1
  cases hr with
  | slice hb hc => exact ⟨rfl, h3, _, by unfold low; rw [if_pos h5]; exact hb, rfl⟩
  | empty => omega
  | open_ hb hi hcap ha =>
   exfalso
   unfold big at hcap h3
   unfold top at h3
   omega
 ·obtain ⟨rfl, h4, h5⟩ := eqAdr_spec h
  cases hr with
  | ptr hb => exact ⟨rfl, _, by unfold low; rw [if_pos h5]; exact hb, rfl⟩
 ·rw [nbeq, decide_eq_true_eq] at h
  subst h
  cases hr
  exact rfl
 cases h
theorem eqSs_get : ∀ {as bs : List Value}, eqSs as bs = true → as.length = bs.length ∧ ∀ {i : Nat} {b : Value}, bs[i]? = some b → ∃ a, as[i]? = some a ∧ eqS a b = true
 | [], [], _ => ⟨rfl, fun h => by simp at h⟩
 | [], _ :: _, h => by cases h
 | _ :: _, [], h => by cases h
 | a :: as, b :: bs, h => by
  simp only [eqSs, Bool.and_eq_true] at h
  obtain ⟨h1, h2⟩ := eqSs_get h.2
  refine ⟨by simp [h1], fun {i} {b'} hb => ?_⟩
  cases i with
  | zero =>
   simp only [List.getElem?_cons_zero, Option.some.injEq] at hb
   subst hb
   exact ⟨a, rfl, h.1⟩
  | succ i => exact h2 hb
theorem hasL_item (hr : Rel P ρ m w) {b : Nat} {g : Bool} {vs : List Value} : ∀ {l : List (Nat × Bool × List Value)}, hasL m.heap l = true → (b, g, vs) ∈ l →
  ∃ s c t fr, low ρ b = some s ∧ w.heap[s.blk]? = some (.cells c t fr) ∧ s.off + vs.length ≤ c.size ∧ (∀ (i : Nat) v, vs[i]? = some v → ∃ v', c[s.off + i]? = some v' ∧ LRel (low ρ) v v') ∧
   (g = false → s.off = 0 ∧ c.size = vs.length) ∧ (g = true → s.cap < big ∧ s.off + s.cap * P.cellsOf t ≤ c.size)
 | (b', g', vs') :: l, h, hm => by
  simp only [hasL, Bool.and_eq_true] at h
  cases hm with
  | tail _ hm => exact hasL_item hr h.2.2 hm
  | head =>
   have h1 := h.1
   split at h1
   ·rename_i cs t2 g2 md mt hget
    simp only [Bool.and_eq_true, beq_iff_eq] at h1
    obtain ⟨rfl, he⟩ := h1
    obtain ⟨hlen, hel⟩ := eqSs_get he
    have hb : b < laidEnd := by
     have := h.2.1
     rwa [nblt, decide_eq_true_eq] at this
    obtain ⟨s, x, q1, q2, c, fr, rfl, q4, q5, q6, q7, _⟩ := hr.obj _ _ hget
    refine ⟨s, c, t2, fr, by unfold low; rw [if_pos hb]; exact q1, q2, by rw [← hlen]; exact q4, fun i v hv => ?_, fun hg => ?_, q7⟩
    ·obtain ⟨a, ha, hab⟩ := hel hv
     obtain ⟨v', e1, e2⟩ := q5 i a ha
     exact ⟨v', e1, eqS_lrel hab e2⟩
    rw [← hlen]
    exact q6 hg
   cases h1
theorem hasL_spec (hr : Rel P ρ m w) (hg : P.globals.size ≤ laidEnd) (h : hasL m.heap l = true) : LiesBy P w l :=
 ⟨low ρ, fun g hg' => (hr.glob g hg').imp fun c hc => by unfold low; rw [if_pos (Nat.lt_of_lt_of_le hg' hg)]; exact hc,
  fun b s hb => ⟨(by
   unfold low at hb
   split at hb
   ·assumption
   cases hb), hr.inb b s (low_le ρ _ _ hb)⟩, fun _ _ _ hm => hasL_item hr h hm⟩
theorem bytesA_rel (hf : P.funcs[f]? = some fn) (hb : fn.body = none) (h : bytesA P fn args m = some (v, m')) (hr : Rel P ρ m w) (hn0 : ρ m.next = none) (ha : VsRel ρ args args') :
  ∃ ρ' w' v', (callFunc f ⟨args'⟩).run P w = .ok (.value v') w' ∧ Rel P ρ' m' w' ∧ Grow ρ ρ' m m' w w' ∧ VRel ρ' v v' := by
 unfold bytesA at h
 split at h
 ·rename_i hn
  split at h
  ·rename_i n t hrt
   split at h
   ·rename_i e ht
    obtain ⟨hc, h⟩ := bif_some h
    simp only [Bool.and_eq_true, nbeq, nble, decide_eq_true_eq] at hc
    cases h
    cases ha with
    | cons h1 h2 =>
     cases h2
     cases h1
     have hmax : n ≤ maxLen := by have := hc.2; unfold maxLen; omega
     obtain ⟨cs, q1, q2, q3⟩ := Lib.run_makeNoZero (P := P) w fn.params t e ht n (by omega)
     have hcb : cs.size < big := by have := q3 hmax; unfold maxLen at this; unfold big; omega
     have hw : (w.drew.drew.alloc (.cells cs e)).heap = w.heap.push (.cells cs e) := rfl
     obtain ⟨r1, r2⟩ := hr.new (w' := w.drew.drew.alloc (.cells cs e)) (x := .cells [] e true .plain none) (cap := cs.size) hn0 hw ⟨rfl, rfl, rfl⟩
      ⟨cs, (0, 0), rfl, by simp, fun i v hi => (by simp at hi), fun hg => (by cases hg), fun _ => ⟨hcb, by rw [hc.1]; simp⟩, rfl⟩
     refine ⟨_, _, _, ?_, r1, r2, VRel.open_ (i := 0) (s := ⟨w.heap.size, 0, cs.size⟩) (Ren.set_same _ _ _) (by simpa using q2) hcb (fun _ => rfl)⟩
     rw [run_callFunc_extern hf (by rw [hn.1]; rfl) (by rw [hb]; rfl) (e := Extern.BytealgMakeNoZero.makeNoZero fn.params fn.resultTypes) (by unfold Extern.findNext; rw [hn.1, hn.2]; rfl) (by unfold Extern.find; rw [hn.1, hn.2]; rfl), hrt]
     rw [show (#[t] : Array TypeId) = ⟨[t]⟩ from rfl] at q1
     have e1 : (⟨[Value.int .i64 (Int.ofNat n)]⟩ : Array Value) = #[.int .i64 (n : Int)] := rfl
     rw [e1, q1]
     rfl
   cases h
  cases h
 cases h
theorem Rel.later (h : Rel P ρ m w) (hrest : w'.os = w.os ∧ w'.tape = w.tape ∧ w'.output = w.output) (hs : w.heap.size ≤ w'.heap.size) (hk : ∀ b, b < w.heap.size → w'.heap[b]? = w.heap[b]?) : Rel P ρ m w' ∧ Grow ρ ρ m m w w' :=
 ⟨⟨fun b o hb => by
   obtain ⟨s, x, h1, h2, h3⟩ := h.obj b o hb
   exact ⟨s, x, h1, by rw [hk _ (h.inb _ _ h1)]; exact h2, h3⟩, h.sep, h.glob, fun b s hb => Nat.lt_of_lt_of_le (h.inb b s hb) hs⟩,
 ⟨.refl _, fun _ _ => rfl, hrest, hs, fun B hB _ => hk B hB, fun _ h => .inl h, Nat.le_refl _, fun _ h => .inl h⟩⟩
section
variable (hM : ∀ fr t m out, self fr t m = some out → Mono m out.m) (hS : ∀ fr t m out, self fr t m = some out → Sound P fr t m out) (hP : PlainNames P)
include hM hS hP
theorem unwind_mix {ρ0 : Ren} {m0 m' : AW} {w0 : World} {b : Frame} {tmps : Array Value} {todo : List Item} {cs : List Frame} : ∀ (ds : List Deferred) (dv : List Value) (Bs : List Nat) (ρ : Ren) (m : AW) (w : World), Mix ρ dv Bs ds → Rel P ρ m w → Fresh ρ m m' → runD self dv m = some m' → Grow ρ0 ρ m0 m w0 w → Bs.Nodup →
  (∀ B ∈ Bs, w0.heap.size ≤ B ∧ B < w.heap.size ∧ w.heap[B]? = some (.deferred (some [])) ∧ ¬ Own ρ m B) →
  ∃ ρ' w', Steps P (lone (off b ⟨tmps, ds⟩ todo .returning) cs w) (lone (off b ⟨tmps, []⟩ todo .returning) cs w') ∧ Rel P ρ' m' w' ∧ Grow ρ0 ρ' m0 m' w0 w' ∧ ρ.le ρ'
 | [], dv, Bs, ρ, m, w, hx, hr, hf, hd, hg, _, _ => by
  cases hx
  cases hd
  exact ⟨ρ, w, .refl _ _, hr, hg, .refl _⟩
 | d :: ds, dv, Bs, ρ, m, w, hx, hr, hf, hd, hg, hnd, hB => by
  cases hx with
  | mark B hx =>
   rename_i Bs
   obtain ⟨h1, h3, h2, h4⟩ := hB B List.mem_cons_self
   have hnb := List.nodup_cons.1 hnd
   have t1 : Taken w0.heap.size w (setBlk w B (.deferred none)) := by
    refine ⟨⟨rfl, rfl, rfl⟩, setBlk_size, fun j hj => ?_, fun j x hx => ?_⟩
    ·rw [setBlk_get h3, if_neg (by omega)]
    rw [setBlk_get h3]
    by_cases hj : j = B
    ·subst hj
     rw [h2] at hx
     cases hx
     exact .inr ⟨_, none, rfl, by rw [if_pos rfl]⟩
    exact .inl (by rw [if_neg hj]; exact hx)
   obtain ⟨ρ', w', q1, q2, q3, q4⟩ := unwind_mix (b := b) (tmps := tmps) (todo := todo) (cs := cs) ds dv Bs ρ m _ hx (hr.taken t1) hf hd (hg.taken t1) hnb.2 fun B2 hB2 => by
    obtain ⟨e1, e2, e3, e4⟩ := hB B2 (List.mem_cons_of_mem _ hB2)
    refine ⟨e1, by rw [setBlk_size]; exact e2, ?_, e4⟩
    rw [setBlk_get h3, if_neg (fun e => hnb.1 (by rw [← e]; exact hB2))]
    exact e3
   exact ⟨ρ', w', .head (step_take (by simp) h2) q1, q2, q3, q4⟩
  | call ha hc hx =>
   rename_i dv g a1 a2 c1 c2
   unfold runD at hd
   simp only at hd
   split at hd
   ·rename_i ts2 v2 m2 heq
    have h2 := runD_mono hM _ hd
    obtain ⟨ρ1, w1, q1, q2, q3⟩ := hS _ _ _ _ heq ρ w (a2 ++ c2) (off b ⟨tmps, ds⟩ todo .returning :: cs) (fun fr hk => by simp [tryRecover, hk, off]) hr (hf.left h2.next) (ha.append hc)
    have hi : ∀ n, (callFunc g ⟨a2 ++ c2⟩).run P w = n → (invoke (Target.fn (.func g) ⟨c2⟩) ⟨a2⟩).run P w = n := by
     rintro n rfl
     simp [invoke]
    have fin : ∃ ρ1' w1', Steps P (lone (off b ⟨tmps, { target := .fn (.func g) ⟨c2⟩, args := ⟨a2⟩ } :: ds⟩ todo .returning) cs w) (lone (off b ⟨tmps, ds⟩ todo .returning) cs w1') ∧ ρ1' = ρ1 ∧ w1' = w1 := by
     rcases q3 with ⟨v', _, _, q4⟩ | ⟨q4, fr, _, q6, q7⟩
     ·refine ⟨ρ1, w1, .one ?_, rfl, rfl⟩
      exact step_lone_go (by simp [stepG, unwind, callDeferred, off, hi _ q4])
     rcases q7 with ⟨v', _, _, g1, g2, g3, g4⟩ | ⟨v, v', q8, _⟩
     ·refine ⟨ρ1, w1, .head (step_defer (fr := off b ⟨tmps, _ :: ds⟩ todo .returning) (by simp [off]) rfl rfl (hi _ q4)) (q6.trans (.one ?_)), rfl, rfl⟩
      have := step_going_returned (P := P) (fr := fr) (c := off b ⟨tmps, ds⟩ todo .returning) (cs := cs) (w := w1) (v := v') g3 ⟨g1, g2, g4⟩
      rw [this]
      rfl
     cases q8
    obtain ⟨_, _, s1, rfl, rfl⟩ := fin
    obtain ⟨ρ', w', r1, r2, r3, r4⟩ := unwind_mix (b := b) (tmps := tmps) (todo := todo) (cs := cs) ds dv Bs _ m2 _ (hx.mono q2.le) q1 (hf.right q2) hd (hg.trans q2) hnd fun B2 hB2 => by
     obtain ⟨e1, e2, e3, e4⟩ := hB B2 hB2
     refine ⟨e1, Nat.lt_of_lt_of_le e2 q2.size, by rw [q2.keep B2 e2 e4]; exact e3, fun ho => ?_⟩
     rcases q2.own B2 ho with h5 | h5
     ·exact e4 h5
     omega
    exact ⟨ρ', w', s1.trans r1, r2, r3, q2.le.trans r4⟩
   cases hd
theorem stFb_follows (hfn : P.funcs[f]? = some fn) (hb : fn.body = some c) (h : stFb P self f fn c args m = some out) : FollowsK P kd f args m out := by
  intro ρ w args' cs hnr hr hf ha
  unfold stFb at h
  obtain ⟨hle, h⟩ := bif_some h
  simp only [Bool.and_eq_true, nble, decide_eq_true_eq] at hle
  have hcf := callFunc_enter hP hfn hb ⟨args'⟩ w
  have hen := enter_on (kd := kd) (args := ⟨args'⟩) hfn hb
  let a0 : Act := ⟨(⟨args'⟩ : Array Value) ++ Array.replicate (fn.ntmps - (⟨args'⟩ : Array Value).size) undef, []⟩
  have hts0 := args_ts ha hle.1 hle.2
  have hd0 : defsOf (argsT args 0 .lf) = [] := by
    unfold defsOf
    rw [argsT_get, if_neg ?_]
    · rfl
    · rintro ⟨_, h2⟩
      have := Nat.le_trans hle.1 hle.2
      omega
  have hok : FOk ρ w.heap.size ⟨f, fn.ntmps, argsT args 0 .lf, none⟩ (baseK kd f) a0 m w :=
    ⟨rfl, hts0, .inr ⟨rfl, rfl, [], by rw [hd0]; exact .nil, List.nodup_nil, fun B hB => by cases hB⟩⟩
  have hNR : NR (baseK kd f) cs := fun _ fr hk => hnr fr hk
  have back : ∀ (ρ1 : Ren) (w1 : World) (a1 : Act) (todo : List Item) (ts1 : Tr Value) (m1 : AW), retD P self fn ts1 m1 = some out → Fresh ρ1 m1 out.m → Steps P (lone (Frame.enter P f ⟨args'⟩ kd) cs w) (lone (off (baseK kd f) a1 todo .returning) cs w1) →
      Rel P ρ1 m1 w1 → Grow ρ ρ1 m m1 w w1 → FOk ρ1 w.heap.size ⟨f, fn.ntmps, ts1, none⟩ (baseK kd f) a1 m1 w1 →
      ∃ ρ' w', Rel P ρ' out.m w' ∧ Grow ρ ρ' m out.m w w' ∧ ((∃ v', out.ex = .ret ∧ VRel ρ' out.v v' ∧ (callFunc f ⟨args'⟩).run P w = .ok (.value v') w') ∨
        ((callFunc f ⟨args'⟩).run P w = .ok (.enter f ⟨args'⟩) w ∧ ∃ fr, fr.fn = f ∧ Steps P (lone (Frame.enter P f ⟨args'⟩ kd) cs w) (lone fr cs w') ∧
          ((∃ v', out.ex = .ret ∧ VRel ρ' out.v v' ∧ Goes P kd fr w' v') ∨ (∃ v v', out.ex = .panic v ∧ VRel ρ' v v' ∧ fr.leaving P w' (.panicked [{ v := v', recovered := false }]))))) := by
    intro ρ1 w1 a1 todo ts1 m1 hret hf1 hst hr1 hg1 hok1
    unfold retD at hret
    split at hret
    · rename_i m2 hd
      unfold retFn at hret
      split at hret
      · rename_i v hv
        cases hret
        rcases hok1.round with ⟨l, s, h1, _⟩ | ⟨_, _, Bs, h2, h3, h4⟩
        · cases h1
        · obtain ⟨ρ2, w2, q1, q2, q3, q4⟩ := unwind_mix hM hS hP (b := baseK kd f) (tmps := a1.tmps) (todo := todo) (cs := cs) a1.defers _ Bs ρ1 m1 w1 h2 hr1 hf1 hd hg1 h3 h4
          obtain ⟨v', r1, r2⟩ := resA_rel q2 (hok1.tmps.mono q4) hv
          exact ⟨ρ2, w2, q2, q3, .inr ⟨hcf, _, rfl, hst.trans q1, .inl ⟨v', rfl, r2, rfl, rfl, rfl, fn, hfn, r1⟩⟩⟩
      · cases hret
    · cases hret
  split at h
  · rename_i ts1 v1 m1 heq
    have hle2 := (retD_mono hM h).next
    obtain ⟨ρ1, w1, a1, fx, q1, q2, q3, q4, q5⟩ := hS _ _ _ _ heq ρ w (baseK kd f) a0 w.heap.size [] cs [.code c] hNR hr (hf.left hle2) hok (Nat.le_refl _) (.inl rfl)
    have q2 : fx = on (baseK kd f) a1 [] := q2
    subst q2
    rw [← hen] at q1
    exact back ρ1 w1 a1 [] ts1 m1 h (hf.right q4) (q1.trans (.one (on_end rfl))) q3 q4 q5
  · rename_i ts1 v1 m1 heq
    have hle2 := (retD_mono hM h).next
    obtain ⟨ρ1, w1, a1, fx, q1, q2, q3, q4, q5⟩ := hS _ _ _ _ heq ρ w (baseK kd f) a0 w.heap.size [] cs [.code c] hNR hr (hf.left hle2) hok (Nat.le_refl _) (.inl rfl)
    obtain ⟨k', rfl⟩ := q2
    rw [← hen] at q1
    exact back ρ1 w1 a1 _ ts1 m1 h (hf.right q4) (q1.trans (.one (on_ret rfl))) q3 q4 q5
  · rename_i v1 ts1 v2 m1 heq
    split at h
    · rename_i hdf
      cases h
      obtain ⟨ρ1, w1, a1, fx, q1, q2, q3, q4, q5⟩ := hS _ _ _ _ heq ρ w (baseK kd f) a0 w.heap.size [] cs [.code c] hNR hr hf hok (Nat.le_refl _) (.inl rfl)
      obtain ⟨k', v', rfl, hv⟩ := q2
      rw [← hen] at q1
      rcases q5.round with ⟨l, s, h1, _⟩ | ⟨_, _, Bs, h2, h3, h4⟩
      · cases h1
      · have hmap : a1.defers = Bs.map mark1 := by
          have h2' : Mix ρ1 [] Bs a1.defers := by
            rw [← hdf]
            exact h2
          have gen : ∀ (dv : List Value) (Bs : List Nat) (ds : List Deferred), Mix ρ1 dv Bs ds → dv = [] → ds = Bs.map mark1 := by
            intro dv Bs ds hx
            induction hx with
            | nil => intro _; rfl
            | mark B _ ih => intro e; rw [ih e]; rfl
            | call _ _ _ _ => intro e; cases e
          exact gen _ _ _ h2' rfl
        obtain ⟨w2, r1, r2⟩ := unwind_all (P := P) (n0 := w.heap.size) (b := baseK kd f) (tmps := a1.tmps) (todo := k') (cs := cs) (mode := .panicking [{ v := v', recovered := false }]) (by simp) Bs w1 h3 fun B hB => ⟨(h4 B hB).1, (h4 B hB).2.2.1⟩
        have e : off (baseK kd f) a1 k' (.panicking [{ v := v', recovered := false }]) = off (baseK kd f) ⟨a1.tmps, Bs.map mark1⟩ k' (.panicking [{ v := v', recovered := false }]) := by
          unfold off
          rw [hmap]
        rw [e] at q1
        exact ⟨ρ1, w2, q3.taken r2, q4.taken r2, .inr ⟨hcf, _, rfl, q1.trans r1, .inr ⟨v1, v', rfl, hv, rfl, rfl, fn, hfn⟩⟩⟩
    · cases h
  · cases h
theorem stFn_follows (h : stFn P self f args m = some out) : FollowsFn P f args m out := by
 unfold stFn at h
 split at h
 ·cases h
 rename_i fn hfn
 split at h
 ·intro ρ w args' cs hr hf ha
  rename_i hb
  split at h
  ·rename_i v hv
   cases h
   obtain ⟨v', h1, h2⟩ := externA_rel (w := w) hfn hb hv ha
   exact ⟨ρ, w, hr, .refl _ _ _, .inl ⟨v', rfl, h2, h1⟩⟩
  split at h
  ·rename_i v hv
   obtain ⟨hc, h⟩ := bif_some h
   simp only [Bool.and_eq_true] at hc
   cases h
   rw [scals_den hc.1 ha]
   exact ⟨ρ, w, hr, .refl _ _ _, .inl ⟨_, rfl, den_rel hc.2, FactsOk.ext f args v hv w⟩⟩
  split at h
  ·rename_i v m2 hv
   cases h
   obtain ⟨ρ2, w2, v2, h1, h2, h3, h4⟩ := bytesA_rel hfn hb hv hr (hf _ (Nat.le_refl _) (by
    obtain ⟨o, rfl⟩ := bytesA_new hv
    exact Nat.lt_succ_self _)) ha
   exact ⟨ρ2, w2, h2, h3, .inl ⟨v2, rfl, h4, h1⟩⟩
  cases h
 rename_i c hb
 split at h
 ·intro ρ w args' cs hr hf ha
  rename_i v hv
  obtain ⟨hc, h⟩ := bif_some h
  simp only [Bool.and_eq_true] at hc
  obtain ⟨hc, hL⟩ := hc
  cases h
  rw [scals_den hc.1 ha]
  obtain ⟨e, w', fr, ⟨rfl, h1, h2, h3⟩, h4, h5, h6⟩ := FactsOk.call f args v hv w (hasL_spec hr (by rw [nble, decide_eq_true_eq] at hL; exact hL.1) hL.2) cs
  exact ⟨ρ, w', (hr.later h1 h2 h3).1, (hr.later h1 h2 h3).2, .inr ⟨callFunc_enter hP hfn hb _ w, fr, h5, h4, .inl ⟨_, rfl, denT_rel hc.2, h6⟩⟩⟩
 exact (stFb_follows hM hS hP hfn hb h).fn
theorem stDfn_follows (h : stDfn P self f args m = some out) : FollowsK P .deferred f args m out := by
 unfold stDfn at h
 split at h
 ·cases h
 rename_i fn hfn
 split at h
 ·cases h
 rename_i c hb
 exact stFb_follows hM hS hP hfn hb h
end
end
end Go.Ab
namespace Go.Ab
variable [Vals]
section
variable {P : Program} [FactsOk P] {ρ ρ' : Ren} {m m' : AW} {w w' : World} {ts : Tr Value} {self : Self}
theorem loop_obj (hr : Rel P ρ m w) (hs : ρ l = some s) (h : m.heap.get l = some (.loop st p fn n ts ps as bo d)) :
  ∃ r : Loop, w.heap[s.blk]? = some (.loop r) ∧ r.state = st ∧ r.pending = p ∧ r.fn = fn ∧ TsRel ρ n ts r.tmps ∧ r.params.toList = ps ∧ r.assign = as ∧ r.body = bo ∧ ∃ sd, ρ d = some sd ∧ sd.blk = r.defers := by
 obtain ⟨s2, x, h1, h2, r, rfl, h3⟩ := hr.obj _ _ h
 rw [hs] at h1
 cases h1
 exact ⟨r, h2, h3⟩
theorem run_getLoop (h : w.heap[b]? = some (.loop r)) : (Instr.getLoop b).run P w = .ok r w := by
 have hg : (getObj b).run P w = .ok (.loop r) w := by simp [getObj, Sem.run, h]
 simp only [Instr.getLoop, Sem.run_bind, hg, Result.andThen_ok, Sem.run_pure]
theorem loop_put (hr : Rel P ρ m w) (hs : ρ l = some s) (h : m.heap.get l = some (.loop st p fn n ts ps as bo d)) (hw : w.heap[s.blk]? = some (.loop r)) :
  (setObj s.blk (.loop { r with state := st', pending := p' })).run P w = .ok () (setBlk w s.blk (.loop { r with state := st', pending := p' })) ∧
   Rel P ρ (m.set l (some (.loop st' p' fn n ts ps as bo d))) (setBlk w s.blk (.loop { r with state := st', pending := p' })) ∧ Grow ρ ρ m (m.set l (some (.loop st' p' fn n ts ps as bo d))) w (setBlk w s.blk (.loop { r with state := st', pending := p' })) := by
 obtain ⟨r2, h1, h2, h3, h4, h5, h6, h7, h8, h9⟩ := loop_obj hr hs h
 rw [hw] at h1
 cases h1
 have := hr.put (o' := .loop st' p' fn n ts ps as bo d) (y := .loop { r with state := st', pending := p' }) h hs rfl rfl (alone hr h hs rfl) ⟨_, rfl, rfl, rfl, h4, h5, h6, h7, h8, h9⟩
 exact ⟨run_setObj_any hw (by intros; simp), this⟩
theorem step_leave_round (hro : b.roundOf = some B) (hk : b.kind = .normal)
  (hj : (todo = [] ∧ jump = none) ∨ (∃ k, todo = .code .ret :: k ∧ jump = some .ret) ∨ (∃ id k, todo = .code (.exit id) :: k ∧ jump = some (.exit id) ∧ exitTo id k = none)) (hr : (Instr.endRound B jump).run P w = .ok v w') :
  step P (lone (on b a todo) (c :: cs) w) = .next (lone (c.finish v) cs w') := by
 refine step_lone_go ?_
 rcases hj with ⟨rfl, rfl⟩ | ⟨k, rfl, rfl⟩ | ⟨id, k, rfl, rfl, hx⟩
 ·simp [stepG, stepG.exec, on, hro, hr, doReturn, hk]
 ·simp [stepG, stepG.exec, on, hro, hr, doReturn, hk]
 simp [stepG, stepG.exec, on, hro, hr, doReturn, hk, hx]
theorem step_raise_round (hd : a.defers = []) (hf : P.funcs[b.fn]? = some fn) :
  step P (lone (off b a todo (.panicking ch)) (c :: cs) w) = .next (lone (c.raise ch) cs w) := by
 refine step_lone_go ?_
 simp [stepG, unwind, off, hd, Frame.catches, hf]
theorem on_beginRound (hro : b.roundOf = some B) (hr : (Instr.beginRound B).run P w = .ok () w') :
  step P (lone (on b a (.beginRound :: k)) cs w) = .next (lone (on b a k) cs w') := by
 refine step_lone_go ?_
 simp [stepG, stepG.exec, stepG.apply, on, hro, hr, Frame.finish]
def roundFr (f : FuncId) (B : Nat) : Frame := { fn := f, tmps := #[], todo := [], defers := [], mode := .run, kind := .normal, roundOf := some B }
theorem params_ts {n : Nat} : ∀ (ps : List Tmp) {args args' : List Value} {ts : Tr Value} {tmps : Array Value}, VsRel ρ args args' → TsRel ρ n ts tmps →
  TsRel ρ n ((ps.zip args).foldl (fun ts x => put n ts (some x.1) x.2) ts) ((ps.zip args').foldl (fun tmps x => tmps.setIfInBounds x.1 x.2) tmps)
 | [], _, _, _, _, _, ht => by simpa using ht
 | p :: ps, _, _, _, _, .nil, ht => by simpa using ht
 | p :: ps, _, _, ts, tmps, .cons h hs, ht => by
  simp only [List.zip_cons_cons, List.foldl_cons]
  exact params_ts ps hs (TsRel.put (a := ⟨tmps, []⟩) ht h (some p))
section
variable (hM : ∀ fr t m out, self fr t m = some out → Mono m out.m) (hS : ∀ fr t m out, self fr t m = some out → Sound P fr t m out)
include hM hS
theorem stYield_follows (h : stYield P self l args m = some out) : FollowsYield P l args m out := by
  intro ρ w args' c cs s hr hf ha hs
  unfold stYield at h
  split at h
  · rename_i p fn n ts ps as bo d hl
    obtain ⟨hlen, h⟩ := bif_some h
    simp only [nbeq, decide_eq_true_eq] at hlen
    obtain ⟨r, r1, r2, r3, r4, r5, r6, r7, r8, r9⟩ := loop_obj hr hs hl
    have hsize : ¬ ((⟨args'⟩ : Array Value).size ≠ r.params.size) := by
      have e1 : (⟨args'⟩ : Array Value).size = args'.length := rfl
      have e2 : r.params.size = r.params.toList.length := by simp
      rw [e1, e2, r6, ← ha.length_eq, hlen]
      simp
    let tmps : Array Value := (r.params.zip (⟨args'⟩ : Array Value)).foldl (fun tmps (x : Tmp × Value) => tmps.setIfInBounds x.1 x.2) r.tmps
    have htm : tmps = (ps.zip args').foldl (fun tmps x => tmps.setIfInBounds x.1 x.2) r.tmps := by
      show Array.foldl _ _ _ = _
      rw [← Array.foldl_toList, Array.toList_zip, r6]
    have hy : (Instr.yield s.blk ⟨args'⟩).run P w = .ok (.round s.blk fn tmps as bo) w := by
      simp only [Instr.yield, Sem.run_bind, run_getLoop r1, Result.andThen_ok, hsize, if_false, Sem.run_pure, r4, r7, r8]
      rfl
    have hfr : Frame.round s.blk fn tmps as bo .normal = on (roundFr fn s.blk) ⟨tmps, []⟩ [.code as, .beginRound, .code bo] := rfl
    have hts : TsRel ρ n ((ps.zip args).foldl (fun ts x => put n ts (some x.1) x.2) ts) tmps := by
      rw [htm]
      exact params_ts ps ha r5
    have hok : FOk ρ w.heap.size ⟨fn, n, (ps.zip args).foldl (fun ts x => put n ts (some x.1) x.2) ts, some l⟩ (roundFr fn s.blk) ⟨tmps, []⟩ m w := ⟨rfl, hts, .inl ⟨l, s, rfl, hs, rfl, rfl⟩⟩
    have pan : ∀ (v v' : Value) (ρ1 : Ren) (w1 : World) (a1 : Act) (todo : List Item) (m1 : AW), panOf P fn v m1 = some out → a1.defers = [] → VRel ρ1 v v' → Rel P ρ1 m1 w1 → Grow ρ ρ1 m m1 w w1 →
        Steps P (lone (on (roundFr fn s.blk) ⟨tmps, []⟩ [.code as, .beginRound, .code bo]) (c :: cs) w) (lone (off (roundFr fn s.blk) a1 todo (.panicking [{ v := v', recovered := false }])) (c :: cs) w1) →
        ∃ ρ' w' f tmps x y, (Instr.yield s.blk ⟨args'⟩).run P w = .ok (.round s.blk f tmps x y) w ∧ Rel P ρ' out.m w' ∧ Grow ρ ρ' m out.m w w' ∧
          ((∃ v', out.ex = .ret ∧ VRel ρ' out.v v' ∧ Steps P (lone (Frame.round s.blk f tmps x y .normal) (c :: cs) w) (lone (c.finish v') cs w')) ∨
           (∃ v v', out.ex = .panic v ∧ VRel ρ' v v' ∧ Steps P (lone (Frame.round s.blk f tmps x y .normal) (c :: cs) w) (lone (c.raise [{ v := v', recovered := false }]) cs w'))) := by
      intro v v' ρ1 w1 a1 todo m1 hp hd hv hr1 hg1 hst
      unfold panOf at hp
      obtain ⟨hfn, hp⟩ := bif_some hp
      obtain ⟨fnn, hfn⟩ := Option.isSome_iff_exists.1 hfn
      cases hp
      exact ⟨ρ1, w1, fn, tmps, as, bo, hy, hr1, hg1, .inr ⟨v, v', rfl, hv, by rw [hfr]; exact hst.trans (.one (step_raise_round hd hfn))⟩⟩
    split at h
    · rename_i ts2 v2 m1 heq
      have hle : m1.next ≤ out.m.next := by
        unfold stBody at h
        split at h
        · exact (endRound_mono (m := m1) hM h fun _ ho => (Mono.set _ _ _).trans (hM _ _ _ _ ho)).next
        · cases h
      obtain ⟨ρ1, w1, a1, f1, q1, q2, q3, q4, q5⟩ := hS _ _ _ _ heq ρ w (roundFr fn s.blk) ⟨tmps, []⟩ w.heap.size [.beginRound, .code bo] (c :: cs) _ (fun e => by cases e) hr (hf.left hle) hok (Nat.le_refl _) (.inl rfl)
      have q2 : f1 = on (roundFr fn s.blk) a1 [.beginRound, .code bo] := q2
      subst q2
      unfold stBody at h
      split at h
      · rename_i p' fn' n' ts' ps' as' bo' d' hl1
        obtain ⟨rr, t1, t2, t3, t4⟩ := loop_obj q3 (q4.le _ _ hs) hl1
        obtain ⟨u1, u2, u3⟩ := loop_put (st' := .busy) (p' := p') q3 (q4.le _ _ hs) hl1 t1
        have hbegin : (Instr.beginRound s.blk).run P w1 = .ok () (setBlk w1 s.blk (.loop { rr with state := .busy, pending := p' })) := by
          simp only [Instr.beginRound, Sem.run_bind, run_getLoop t1, Result.andThen_ok]
          rw [← t3] at u1 ⊢
          rw [u1]
          simp only [Result.andThen_ok, t2, Sem.run_pure]
        have hok2 : FOk ρ1 w.heap.size ⟨fn, n, ts2, some l⟩ (roundFr fn s.blk) a1 (m1.set l (some (.loop .busy p' fn' n' ts' ps' as' bo' d'))) (setBlk w1 s.blk (.loop { rr with state := .busy, pending := p' })) :=
          FOk.grow (fr := ⟨fn, n, ts2, some l⟩) q5 u3 rfl rfl q5.tmps
        have st1 : Steps P (lone (on (roundFr fn s.blk) ⟨tmps, []⟩ [.code as, .beginRound, .code bo]) (c :: cs) w) (lone (on (roundFr fn s.blk) a1 [.code bo]) (c :: cs) (setBlk w1 s.blk (.loop { rr with state := .busy, pending := p' }))) :=
          q1.trans (.one (on_beginRound rfl hbegin))
        have body : ∀ o2, self ⟨fn, n, ts2, some l⟩ (.code bo) (m1.set l (some (.loop .busy p' fn' n' ts' ps' as' bo' d'))) = some o2 → o2.m.next ≤ out.m.next →
            ∃ ρ2 w2 a2 f2, Steps P (lone (on (roundFr fn s.blk) ⟨tmps, []⟩ [.code as, .beginRound, .code bo]) (c :: cs) w) (lone f2 (c :: cs) w2) ∧ Ends ρ2 (roundFr fn s.blk) a2 [] o2.ex f2 ∧ Rel P ρ2 o2.m w2 ∧ Grow ρ ρ2 m o2.m w w2 ∧ a2.defers = [] ∧ ρ2 l = some s := by
          intro o2 ho2 hle2
          obtain ⟨ρ2, w2, a2, f2, x1, x2, x3, x4, x5⟩ := hS _ _ _ _ ho2 ρ1 _ (roundFr fn s.blk) a1 w.heap.size [] (c :: cs) _ (fun e => by cases e) u2 (((hf.right q4).right u3).left hle2) hok2 (by rw [setBlk_size]; exact q4.size) (.inl rfl)
          refine ⟨ρ2, w2, a2, f2, st1.trans x1, x2, x3, (q4.trans u3).trans x4, ?_, x4.le _ _ (q4.le _ _ hs)⟩
          rcases x5.round with ⟨_, _, _, _, _, y1⟩ | ⟨y1, _⟩
          · exact y1
          · cases y1
        have fin : ∀ (v : Value) (jump : Option Code) (st : LoopState) (o2 : Out) (ρ2 : Ren) (w2 : World) (a2 : Act) (todo : List Item), outOf v (setLoop o2.m l st jump) = some out → st = (if jump.isNone then .ready else .done) → v = .bool jump.isNone →
            Steps P (lone (on (roundFr fn s.blk) ⟨tmps, []⟩ [.code as, .beginRound, .code bo]) (c :: cs) w) (lone (on (roundFr fn s.blk) a2 todo) (c :: cs) w2) → Rel P ρ2 o2.m w2 → Grow ρ ρ2 m o2.m w w2 → ρ2 l = some s →
            ((todo = [] ∧ jump = none) ∨ (∃ k, todo = .code .ret :: k ∧ jump = some .ret) ∨ (∃ id k, todo = .code (.exit id) :: k ∧ jump = some (.exit id) ∧ exitTo id k = none)) →
            ∃ ρ' w' f tmps x y, (Instr.yield s.blk ⟨args'⟩).run P w = .ok (.round s.blk f tmps x y) w ∧ Rel P ρ' out.m w' ∧ Grow ρ ρ' m out.m w w' ∧
              ((∃ v', out.ex = .ret ∧ VRel ρ' out.v v' ∧ Steps P (lone (Frame.round s.blk f tmps x y .normal) (c :: cs) w) (lone (c.finish v') cs w')) ∨
               (∃ v v', out.ex = .panic v ∧ VRel ρ' v v' ∧ Steps P (lone (Frame.round s.blk f tmps x y .normal) (c :: cs) w) (lone (c.raise [{ v := v', recovered := false }]) cs w'))) := by
          intro v jump st o2 ρ2 w2 a2 todo hout hst hv x1 x3 x4 x5 hj
          unfold outOf at hout
          split at hout
          · rename_i m3 hm3
            cases hout
            unfold setLoop at hm3
            split at hm3
            · rename_i y1 y2 y3 y4 y5 y6 y7 y8 y9 hl2
              cases hm3
              obtain ⟨r3, z1, _⟩ := loop_obj x3 x5 hl2
              obtain ⟨z2, z3, z4⟩ := loop_put (st' := st) (p' := jump) x3 x5 hl2 z1
              have hend : (Instr.endRound s.blk jump).run P w2 = .ok (.bool jump.isNone) (setBlk w2 s.blk (.loop { r3 with state := st, pending := jump })) := by
                simp only [Instr.endRound, Sem.run_bind, run_getLoop z1, Result.andThen_ok]
                rw [← hst, z2]
                simp only [Result.andThen_ok, Sem.run_pure]
              refine ⟨ρ2, _, fn, tmps, as, bo, hy, z3, x4.trans z4, .inl ⟨_, rfl, by rw [hv]; exact .bool _, ?_⟩⟩
              rw [hfr]
              exact x1.trans (.one (step_leave_round rfl rfl hj hend))
            · cases hm3
          · cases hout
        unfold endRound at h
        split at h
        · rename_i ts3 v3 m3 heq2
          have hle3 : m3.next ≤ out.m.next := (outOf_mono (m := m3) h fun _ hs => setLoop_mono (self := self) hM hs).next
          obtain ⟨ρ2, w2, a2, f2, x1, x2, x3, x4, x5, x6⟩ := body _ heq2 hle3
          have x2 : f2 = on (roundFr fn s.blk) a2 [] := x2
          subst x2
          exact fin _ none .ready ⟨.normal, ts3, v3, m3⟩ ρ2 w2 a2 [] h rfl rfl x1 x3 x4 x6 (.inl ⟨rfl, rfl⟩)
        · rename_i ts3 v3 m3 heq2
          have hle3 : m3.next ≤ out.m.next := (outOf_mono (m := m3) h fun _ hs => setLoop_mono (self := self) hM hs).next
          obtain ⟨ρ2, w2, a2, f2, x1, x2, x3, x4, x5, x6⟩ := body _ heq2 hle3
          obtain ⟨k', rfl⟩ := x2
          exact fin _ (some .ret) .done ⟨.ret, ts3, v3, m3⟩ ρ2 w2 a2 _ h rfl rfl x1 x3 x4 x6 (.inr (.inl ⟨k', rfl, rfl⟩))
        · rename_i id ts3 v3 m3 heq2
          have hle3 : m3.next ≤ out.m.next := (outOf_mono (m := m3) h fun _ hs => setLoop_mono (self := self) hM hs).next
          obtain ⟨ρ2, w2, a2, f2, x1, x2, x3, x4, x5, x6⟩ := body _ heq2 hle3
          obtain ⟨k', rfl, hx⟩ := x2
          exact fin _ (some (.exit id)) .done ⟨.exit id, ts3, v3, m3⟩ ρ2 w2 a2 _ h rfl rfl x1 x3 x4 x6 (.inr (.inr ⟨id, k', rfl, rfl, hx⟩))
        · rename_i v ts3 v3 m3 heq2
          have hle3 : m3.next ≤ out.m.next := by rw [← panOf_mono h]; exact Nat.le_refl _
          obtain ⟨ρ2, w2, a2, f2, x1, x2, x3, x4, x5, x6⟩ := body _ heq2 hle3
          obtain ⟨k', v', rfl, hv⟩ := x2
          exact pan v v' ρ2 w2 a2 k' m3 h x5 hv x3 x4 x1
        · cases h
      · cases h
    · rename_i v ts2 v2 m1 heq
      have hle : m1.next ≤ out.m.next := by rw [← panOf_mono h]; exact Nat.le_refl _
      obtain ⟨ρ1, w1, a1, f1, q1, q2, q3, q4, q5⟩ := hS _ _ _ _ heq ρ w (roundFr fn s.blk) ⟨tmps, []⟩ w.heap.size [.beginRound, .code bo] (c :: cs) _ (fun e => by cases e) hr (hf.left hle) hok (Nat.le_refl _) (.inl rfl)
      obtain ⟨k', v', rfl, hv⟩ := q2
      refine pan v v' ρ1 w1 a1 k' m1 h ?_ hv q3 q4 q1
      rcases q5.round with ⟨_, _, _, _, _, y1⟩ | ⟨y1, _⟩
      · exact y1
      · cases y1
    · cases h
  · cases h
end
end
end Go.Ab
namespace Go.Ab
variable [Vals]
section
variable {P : Program} [FactsOk P] {ρ ρ' : Ren} {m m' : AW} {w w' : World} {ts : Tr Value} {self : Self}
def rfCall (f : Operand) (L : Nat) : Call := { callee := .value f, args := #[.const (.func (.yield L) #[] #[])], argTypes := #[] }
def rfSem (a : Act) (f : Operand) (L : Nat) : Sem Next := do let d ← resolve a.eval (rfCall f L) 0; invoke d.target d.args
theorem on_range_enter {mark : List Deferred}
  (he : (Instr.enterLoop b.fn a.tmps params assign body b.roundOf).run P w = .ok (L, mark) w1) (hc : (rfSem a f L).run P w1 = .ok (.enter g args) w2) :
  step P (lone (on b a (.code (.rangeFunc f params assign body) :: k)) cs w) = .next (lone (Frame.enter P g args .normal) (on b ⟨a.tmps, mark ++ a.defers⟩ (.inRangeFunc L :: k) :: cs) w2) := by
 have h1 := on_eval b ⟨a.tmps, mark ++ a.defers⟩ (.inRangeFunc L :: k)
 simp only [on] at h1
 have h2 : (Act.eval ⟨a.tmps, mark ++ a.defers⟩) = a.eval := by funext x; cases x <;> rfl
 rw [h2] at h1
 unfold rfSem rfCall at hc
 refine step_lone_go ?_
 simp [stepG, stepG.exec, stepG.apply, on, he, h1, hc]
theorem on_range_value {mark : List Deferred}
  (he : (Instr.enterLoop b.fn a.tmps params assign body b.roundOf).run P w = .ok (L, mark) w1) (hc : (rfSem a f L).run P w1 = .ok (.value v) w2) :
  step P (lone (on b a (.code (.rangeFunc f params assign body) :: k)) cs w) = .next (lone (on b ⟨a.tmps, mark ++ a.defers⟩ (.endRangeFunc L :: k)) cs w2) := by
 have h1 := on_eval b ⟨a.tmps, mark ++ a.defers⟩ (.inRangeFunc L :: k)
 simp only [on] at h1
 have h2 : (Act.eval ⟨a.tmps, mark ++ a.defers⟩) = a.eval := by funext x; cases x <;> rfl
 rw [h2] at h1
 unfold rfSem rfCall at hc
 refine step_lone_go ?_
 simp [stepG, stepG.exec, stepG.apply, on, he, h1, hc, Frame.finish]
theorem on_endRange (he : (Instr.endLoop L).run P w = .ok jump w') :
  step P (lone (on b a (.endRangeFunc L :: k)) cs w) = .next (lone (on b a ((jump.map Item.code).toList ++ k)) cs w') := by
 refine step_lone_go ?_
 simp [stepG, stepG.exec, on, he]
theorem not_own (h : Rel P ρ m w) (hd : m.heap.get d = some o) (hro : isRo o = true) (hmt : mateOf o = none) (hs : ρ d = some s) : ¬ Own ρ m s.blk := by
 rintro ⟨b2, o2, s2, h1, h2, h3, h4⟩
 by_cases e : b2 = d
 ·subst e
  rw [hd] at h1
  cases h1
  rw [hro] at h2
  cases h2
 rcases h.sep b2 d o2 o s2 s e h1 hd h3 hs h4 with ⟨_, h5⟩ | ⟨h5, _⟩
 ·rw [hmt] at h5; cases h5
 rw [h2] at h5; cases h5
theorem begin_rel (hr : Rel P ρ m w) (h : beginRF fr params.toList assign body m = some (l, m2)) (hf : Fresh ρ m m2) (hok : FOk ρ n0 fr b a m w) (hn : n0 ≤ w.heap.size) :
  ∃ ρ2 w2 s mark, (Instr.enterLoop b.fn a.tmps params assign body b.roundOf).run P w = .ok (s.blk, mark) w2 ∧ ρ2 l = some s ∧ Rel P ρ2 m2 w2 ∧ Grow ρ ρ2 m m2 w w2 ∧ FOk ρ2 n0 fr b ⟨a.tmps, mark ++ a.defers⟩ m2 w2 := by
 unfold beginRF at h
 rcases hok.round with ⟨lo, so, h1, h2, h3, h4⟩ | ⟨h1, h2, h3⟩
 ·rw [h1] at h
  simp only at h
  split at h
  ·rename_i y1 y2 y3 y4 y5 y6 y7 y8 d hlo
   cases h
   obtain ⟨r, r1, r2, r3, r4, r5, r6, r7, r8, sd, r9, r10⟩ := loop_obj hr h2 hlo
   have hfr := hf _ (Nat.le_refl _) (by simp [AW.new])
   have hle : ρ.le (ρ.set m.next ⟨w.heap.size, 0, 0⟩) := Ren.le_set hfr
   obtain ⟨q1, q2⟩ := hr.new (w' := w.alloc (.loop { state := .ready, pending := none, fn := b.fn, tmps := a.tmps, params := params, assign := assign, body := body, defers := r.defers })) hfr (x := .loop .ready none fr.fn fr.n fr.ts params.toList assign body d) (cap := 0)
    (y := .loop { state := .ready, pending := none, fn := b.fn, tmps := a.tmps, params := params, assign := assign, body := body, defers := r.defers }) rfl ⟨rfl, rfl, rfl⟩
    ⟨_, rfl, rfl, rfl, hok.fn, hok.tmps.mono hle, rfl, rfl, rfl, sd, hle _ _ r9, r10⟩
   refine ⟨_, _, ⟨w.heap.size, 0, 0⟩, [], ?_, Ren.set_same _ _ _, q1, q2, ?_⟩
   ·simp only [Instr.enterLoop, h3, Sem.run_bind, run_getLoop r1, Result.andThen_ok, Sem.run_pure, run_newObj]
    rfl
   exact FOk.grow (fr := fr) hok q2 rfl rfl (hok.tmps.mono hle)
  cases h
 rw [h1] at h
 cases h
 have hfr := hf m.next (Nat.le_refl _) (by simp [AW.new]; omega)
 have hfr2 := hf (m.next + 1) (by omega) (by simp [AW.new])
 obtain ⟨q1, q2⟩ := hr.new (w' := w.alloc (.deferred (some []))) hfr (x := .deferred) (cap := 0) (y := .deferred (some [])) rfl ⟨rfl, rfl, rfl⟩ ⟨_, rfl⟩
 have hle := q2.le
 have hfr3 : (ρ.set m.next ⟨w.heap.size, 0, 0⟩) (m.new .deferred).next = none := by
  rw [q2.only _ (.inr (Nat.le_refl _))]
  exact hfr2
 have hle2 : (ρ.set m.next ⟨w.heap.size, 0, 0⟩).le ((ρ.set m.next ⟨w.heap.size, 0, 0⟩).set (m.new .deferred).next ⟨(w.alloc (.deferred (some []))).heap.size, 0, 0⟩) := Ren.le_set hfr3
 obtain ⟨q3, q4⟩ := q1.new (w' := (w.alloc (.deferred (some []))).alloc (.loop { state := .ready, pending := none, fn := b.fn, tmps := a.tmps, params := params, assign := assign, body := body, defers := w.heap.size })) hfr3
  (x := .loop .ready none fr.fn fr.n fr.ts params.toList assign body m.next) (cap := 0)
  (y := .loop { state := .ready, pending := none, fn := b.fn, tmps := a.tmps, params := params, assign := assign, body := body, defers := w.heap.size }) rfl ⟨rfl, rfl, rfl⟩
  ⟨_, rfl, rfl, rfl, hok.fn, (hok.tmps.mono hle).mono hle2, rfl, rfl, rfl, ⟨w.heap.size, 0, 0⟩, hle2 _ _ (Ren.set_same _ _ _), rfl⟩
 have g := q2.trans q4
 refine ⟨_, _, ⟨(w.alloc (.deferred (some []))).heap.size, 0, 0⟩, [mark1 w.heap.size], ?_, Ren.set_same _ _ _, q3, g, ⟨hok.fn, (hok.tmps.mono hle).mono hle2, .inr ⟨h1, h2, ?_⟩⟩⟩
 ·simp only [Instr.enterLoop, h2, Sem.run_bind, Result.andThen_ok, Sem.run_pure, run_newObj]
  rfl
 obtain ⟨Bs, u1, u2, u3⟩ := h3
 have hd2 : (ρ.set m.next ⟨w.heap.size, 0, 0⟩) m.next = some ⟨w.heap.size, 0, 0⟩ := Ren.set_same _ _ _
 have hget : ((m.new .deferred).new (.loop .ready none fr.fn fr.n fr.ts params.toList assign body m.next)).heap.get m.next = some .deferred := by
  rw [AW.new_get, AW.new_get]
  simp [AW.new]
 refine ⟨w.heap.size :: Bs, .mark _ (u1.mono g.le), List.nodup_cons.2 ⟨fun hin => ?_, u2⟩, fun B hB => ?_⟩
 ·have := (u3 _ hin).2.1
  omega
 cases hB with
 | head =>
  refine ⟨hn, ?_, ?_, not_own q3 hget rfl rfl (hle2 _ _ hd2)⟩
  ·show w.heap.size < ((w.heap.push _).push _).size
   rw [Array.size_push, Array.size_push]
   omega
  have : ((w.alloc (.deferred (some []))).alloc (.loop { state := .ready, pending := none, fn := b.fn, tmps := a.tmps, params := params, assign := assign, body := body, defers := w.heap.size })).heap[w.heap.size]? = some (.deferred (some [])) := by
   show ((w.heap.push _).push _)[w.heap.size]? = _
   rw [heap_push_old (by rw [Array.size_push]; omega)]
   simp
  exact this
 | tail _ hB => exact mark_grow g (u3 B hB)
section
variable (hM : ∀ fr t m out, self fr t m = some out → Mono m out.m) (hS : ∀ fr t m out, self fr t m = some out → Sound P fr t m out)
include hM hS
theorem stRF_follows (h : stRF P self fr f params.toList assign body m = some out) : Follows P fr m out (Starts (.rangeFunc f params assign body)) := by
  intro ρ w b a n0 k cs todo hnr hr hf hok hn hst
  rcases hst with rfl | ⟨body, hb, _⟩
  · have hE : ERel P ρ fr.ts a.eval := erel_of hok.tmps hr.glob
    unfold stRF at h
    split at h
    · rename_i g first captured hfv
      split at h
      · rename_i l m2 hbeg
        have hm2 := beginRF_mono (self := self) hM hbeg
        have key : ∀ o3, self noFr (.fn g (first ++ [.func (.yield l) #[] #[]] ++ captured)) m2 = some o3 → o3.m.next ≤ out.m.next →
            ∃ ρ3 w3 s a', ρ3 l = some s ∧ Rel P ρ3 o3.m w3 ∧ Grow ρ ρ3 m o3.m w w3 ∧ FOk ρ3 n0 fr b a' o3.m w3 ∧
              ((o3.ex = .ret ∧ Steps P (lone (on b a (.code (.rangeFunc f params assign body) :: k)) cs w) (lone (on b a' (.endRangeFunc s.blk :: k)) cs w3)) ∨
               (∃ v v', o3.ex = .panic v ∧ VRel ρ3 v v' ∧ Steps P (lone (on b a (.code (.rangeFunc f params assign body) :: k)) cs w) (lone (off b a' (.inRangeFunc s.blk :: k) (.panicking [{ v := v', recovered := false }])) cs w3))) := by
          intro o3 ho3 hle
          have hm3 := hM _ _ _ _ ho3
          obtain ⟨ρ2, w2, s, mark, e1, e2, e3, e4, e5⟩ := begin_rel hr hbeg (hf.left (Nat.le_trans hm3.next hle)) hok hn
          have hfv' := hE _ _ hfv
          generalize he : a.eval f = fv' at hfv'
          cases hfv' with
          | func h1 h2 =>
            rename_i first' captured'
            have hrun : ∀ w, (rfSem a f s.blk).run P w = (callFunc g ⟨first' ++ [.func (.yield s.blk) #[] #[]] ++ captured'⟩).run P w := by
              intro w
              simp only [rfSem, rfCall, resolve, Sem.run_bind, he, Deferred.ofValue, Sem.run_pure, Result.andThen_ok, invoke]
              congr 2
              simp [Act.eval]
            have hargs : VsRel ρ2 (first ++ [.func (.yield l) #[] #[]] ++ captured) (first' ++ [.func (.yield s.blk) #[] #[]] ++ captured') :=
              ((h1.mono e4.le).append (.cons (.yield e2) .nil)).append (h2.mono e4.le)
            obtain ⟨ρ3, w3, q1, q2, q3⟩ := hS _ _ _ _ ho3 ρ2 w2 _ (on b ⟨a.tmps, mark ++ a.defers⟩ (.inRangeFunc s.blk :: k) :: cs) e3 ((hf.right e4).left hle) hargs
            have hok3 : FOk ρ3 n0 fr b ⟨a.tmps, mark ++ a.defers⟩ o3.m w3 := FOk.grow (fr := fr) e5 q2 rfl rfl (e5.tmps.mono q2.le)
            refine ⟨ρ3, w3, s, ⟨a.tmps, mark ++ a.defers⟩, q2.le _ _ e2, q1, e4.trans q2, hok3, ?_⟩
            rcases q3 with ⟨v', t1, _, t2⟩ | ⟨t1, frx, t2, t3, t4⟩
            · exact .inl ⟨t1, .one (on_range_value e1 (by rw [hrun]; exact t2))⟩
            · have hent := on_range_enter (k := k) (cs := cs) e1 (by rw [hrun]; exact t1)
              rcases t4 with ⟨v', t5, _, t6⟩ | ⟨v, v', t5, t6, t7⟩
              · refine .inl ⟨t5, .head hent (t3.trans (.one ?_))⟩
                rw [step_leave_returned t6]
                rfl
              · refine .inr ⟨v, v', t5, t6, .head hent (t3.trans (.one ?_))⟩
                rw [step_leave_panicked t7]
                rfl
        split at h
        · rename_i ts3 v3 m3 heq
          have hle := (endRF_mono (self := self) hM h).next
          obtain ⟨ρ3, w3, s, a', q1, q2, q3, q4, q5⟩ := key _ heq hle
          rcases q5 with ⟨_, q5⟩ | ⟨_, _, q5, _⟩
          · unfold endRF at h
            split at h
            · rename_i st pending y3 y4 y5 y6 y7 y8 y9 hl
              obtain ⟨r, z1, z2, z3, z4⟩ := loop_obj q2 q1 hl
              obtain ⟨u1, u2, u3⟩ := loop_put (st' := .exhausted) (p' := pending) q2 q1 hl z1
              have hend : st ≠ .busy → (Instr.endLoop s.blk).run P w3 = .ok pending (setBlk w3 s.blk (.loop { r with state := .exhausted, pending := pending })) := by
                intro hst
                have hb : (r.state == LoopState.busy) = false := by
                  rw [z2]
                  cases st <;> first | rfl | exact absurd rfl hst
                simp only [Instr.endLoop, Sem.run_bind, run_getLoop z1, Result.andThen_ok, hb, Bool.false_eq_true, if_false, Sem.run_pure]
                rw [← z3] at u1 ⊢
                rw [u1]
                rfl
              have hok4 : FOk ρ3 n0 fr b a' (m3.set l (some (.loop .exhausted pending y3 y4 y5 y6 y7 y8 y9))) (setBlk w3 s.blk (.loop { r with state := .exhausted, pending := pending })) := FOk.grow (fr := fr) q4 u3 rfl rfl q4.tmps
              split at h
              · cases h
              · rename_i hnb
                have hend := hend (fun e => hnb e)
                have st4 := q5.trans (.one (on_endRange (k := k) (b := b) (a := a') (cs := cs) hend))
                split at h
                · cases h
                  exact ⟨ρ3, _, a', _, st4, rfl, u2, q3.trans u3, hok4⟩
                · cases h
                  exact ⟨ρ3, _, a', _, st4, ⟨k, rfl⟩, u2, q3.trans u3, hok4⟩
                · cases h
                  exact ⟨ρ3, _, a', _, st4, ⟨k, rfl, rfl⟩, u2, q3.trans u3, hok4⟩
                · cases h
            · cases h
          · cases q5
        · rename_i v ts3 v3 m3 heq
          cases h
          obtain ⟨ρ3, w3, s, a', q1, q2, q3, q4, q5⟩ := key _ heq (Nat.le_refl _)
          rcases q5 with ⟨q5, _⟩ | ⟨v2, v', q5, q6, q7⟩
          · cases q5
          · cases q5
            exact ⟨ρ3, w3, a', _, q7, ⟨_, v', rfl, q6⟩, q2, q3, q4⟩
        · cases h
      · cases h
    · cases h
  · cases hb
end
end
end Go.Ab
namespace Go.Ab
variable [Vals]
section
variable {P : Program} [FactsOk P] {ts ts2 : Tr Value} {self : Self} {m : AW}
theorem evs_congr : ∀ {xs : List Operand}, (∀ x ∈ xs, ev P ts x = ev P ts2 x) → evs P ts xs = evs P ts2 xs
 | [], _ => rfl
 | x :: xs, h => by
  simp only [evs, h x List.mem_cons_self, evs_congr (xs := xs) fun y hy => h y (List.mem_cons_of_mem _ hy)]
theorem evParts_congr : ∀ {xs : List (Nat × Operand)}, (∀ x ∈ xs, ev P ts x.2 = ev P ts2 x.2) → evParts P ts xs = evParts P ts2 xs
 | [], _ => rfl
 | (i, x) :: xs, h => by
  simp only [evParts, h (i, x) List.mem_cons_self, evParts_congr (xs := xs) fun y hy => h y (List.mem_cons_of_mem _ hy)]
theorem evo_congr (h : ∀ y ∈ x.toArray, ev P ts y = ev P ts2 y) : evo P ts x = evo P ts2 x := by
 cases x with
 | none => rfl
 | some x =>
  simp only [evo, h x (by simp)]
theorem call_args {c : Call} (h : ∀ x ∈ c.operands, ev P ts x = ev P ts2 x) : evs P ts c.args.toList = evs P ts2 c.args.toList :=
 evs_congr fun x hx => h x (by simp only [Call.operands, Array.mem_append]; right; simpa using hx)
theorem opP_congr (h : ∀ x ∈ o.operands, ev P ts x = ev P ts2 x) : opP P ts o = opP P ts2 o := by
 cases o <;> simp only [Op.operands] at h <;> simp only [opP]
 case move x => rw [h x (by simp)]
 case assign x => rw [h x (by simp)]
 case pick a b c => simp only [pickA, h a (by simp), h b (by simp), h c (by simp)]
 case build t ps => rw [evParts_congr fun x hx => h x.2 (by simp; exact ⟨x.1, by simpa using hx⟩)]
 case nilCheck x => rw [h x (by simp)]
 case binOp op t x y ty => simp only [bin1, h x (by simp), h y (by simp)]
 case unOp op t x => rw [h x (by simp)]
 case convert s d x => rw [h x (by simp)]
 case makeInterface t x => rw [h x (by simp)]
 case makeFunc fn a b =>
  have h1 : evs P ts a.toList = evs P ts2 a.toList := evs_congr fun x hx => h x (by simp; left; simpa using hx)
  have h2 : evs P ts b.toList = evs P ts2 b.toList := evs_congr fun x hx => h x (by simp; right; simpa using hx)
  simp only [funcA, h1, h2]
 case slice t x l hi mx =>
  have h1 := evo_congr (ts := ts) (ts2 := ts2) (P := P) (x := l) fun y hy => h y (by simp only [Array.mem_append]; exact .inl (.inl (.inr hy)))
  have h2 := evo_congr (ts := ts) (ts2 := ts2) (P := P) (x := hi) fun y hy => h y (by simp only [Array.mem_append]; exact .inl (.inr hy))
  have h3 := evo_congr (ts := ts) (ts2 := ts2) (P := P) (x := mx) fun y hy => h y (by simp only [Array.mem_append]; exact .inr hy)
  simp only [slice1, h x (by simp), h1, h2, h3]
 case fieldAddr s x f => rw [h x (by simp)]
 case field s x f => rw [h x (by simp)]
 case indexAddr t x i => simp only [bind2, h x (by simp), h i (by simp)]
 case index t x i => simp only [bind2, h x (by simp), h i (by simp)]
 case extract t i => rw [h t (by simp)]
 case typeAssert x a b c => rw [h x (by simp)]
 case call c => simp only [callP, call_args h]
theorem opL_congr (h : ∀ x ∈ o.operands, ev P ts x = ev P ts2 x) : opL P ts o = opL P ts2 o := by
 cases o <;> simp only [Op.operands] at h <;> simp only [opL]
 case load t x => rw [h x (by simp)]
 case lookup t x k ok => simp only [lookup1, h x (by simp), h k (by simp)]
 case convert s d x => rw [h x (by simp)]
 case call c => simp only [callL, call_args h]
theorem opA_congr (h : ∀ x ∈ o.operands, ev P ts x = ev P ts2 x) : opA P ts o = opA P ts2 o := by
 cases o <;> simp only [Op.operands] at h <;> simp only [opA]
 case box t x => rw [h x (by simp)]
 case buildSlice t n ps => rw [evParts_congr fun x hx => h x.2 (by simp; exact ⟨x.1, by simpa using hx⟩)]
 case makeSlice t x y => rw [h x (by simp), h y (by simp)]
 case makeMap t r =>
  cases r with
  | none => rfl
  | some r => simp only [Option.map_some, h r (by simp)]
 case convert s d x => rw [h x (by simp)]
theorem opH_congr (h : ∀ x ∈ o.operands, ev P ts x = ev P ts2 x) : opH P self ts o m = opH P self ts2 o m := by
 cases o <;> simp only [Op.operands] at h <;> simp only [opH]
 case store t x y => rw [h x (by simp), h y (by simp)]
 case mapUpdate t x y z => rw [evs_congr (xs := [x, y, z]) fun u hu => h u (by simpa using hu)]
 case insert t x y z => rw [evs_congr (xs := [x, y, z]) fun u hu => h u (by simpa using hu)]
 case range t x => rw [h x (by simp)]
 case next x b => rw [h x (by simp)]
 case entry x => rw [h x (by simp)]
 case panic x => rw [h x (by simp)]
 case call c =>
  simp only [callH, call_args h]
  cases hc : c.callee with
  | value f => simp only [h f (by simp [Call.operands, hc])]
  | invoke a b => simp only [h a (by simp [Call.operands, hc])]
  | builtin b => rfl
theorem doOp_congr (h : ∀ x ∈ o.operands, ev P ts x = ev P ts2 x) : doOp P self ts o m = doOp P self ts2 o m := by
 unfold doOp
 rw [opP_congr h, opL_congr h, opA_congr h, opH_congr h]
end
end Go.Ab
namespace Go.Ab
variable [Vals]
section
variable {P : Program} [FactsOk P] {self : Self}
inductive DStep (P : Program) (self : Self) (n : Nat) (ops : Array Oper) (base lo : Nat) (o : Oper) (inf : Info) (ts : Tr Value) (m : AW) (as : List (Nat × Nat)) : Tr Value → AW → List Nat → Option Rd → List (Nat × Nat) → Prop where
 | skip (hw : wantedA ops ts o = false) : DStep P self n ops base lo o inf ts m as (put n ts o.dst undef) m [] none as
 | pure {v : Value} (hw : wantedA ops ts o = true) (hc : cls P o.op = .p) (h : opP P ts o.op = some v) : DStep P self n ops base lo o inf ts m as (put n ts o.dst v) m [] none as
 | imm {v : Value} (hw : wantedA ops ts o = true) (hc : cls P o.op = .l) (h : opL P ts o.op = some (.imm v)) : DStep P self n ops base lo o inf ts m as (put n ts o.dst v) m [] none as
 | full {v : Value} {b : Nat} {f : AObj → Option Value} (hw : wantedA ops ts o = true) (hc : cls P o.op = .l) (h : opL P ts o.op = some (.rd b f)) (hv : (m.heap.get b).bind f = some v) (hf : inf.full = true) (hsn : seenB inf.pre b as = true) : DStep P self n ops base lo o inf ts m as (put n ts o.dst v) m [] none as
 | read {v : Value} {b : Nat} {f : AObj → Option Value} (hw : wantedA ops ts o = true) (hc : cls P o.op = .l) (h : opL P ts o.op = some (.rd b f)) (hv : (m.heap.get b).bind f = some v) (hb : b < base) : DStep P self n ops base lo o inf ts m as (put n ts o.dst v) m [] (some (b, f, v)) as
 | make {x : AObj} {f : Nat → Value} (hw : wantedA ops ts o = true) (hc : cls P o.op = .a) (h : opA P ts o.op = some (x, f)) : DStep P self n ops base lo o inf ts m as (put n ts o.dst (f m.next)) (m.new x) [] none ((inf.i, m.next) :: as)
 | call {v : Value} {m1 : AW} (hw : wantedA ops ts o = true) (hc : cls P o.op = .h) (hk : inf.hok = true) (hp : plainB inf.pre m.heap as = true) (h : doOp P self ts o.op ⟨hideB inf.pre as m.heap, m.next, base, []⟩ = some (.val v m1)) :
   DStep P self n ops base lo o inf ts m as (put n ts o.dst v) ⟨showB inf.pre m.heap as m1.heap, m1.next, lo, below lo m1.log ++ m.log⟩ m1.log none as
theorem notIn_spec {b : Nat} : ∀ {l : List Nat}, notIn b l = true → b ∉ l
 | [], _, h => by cases h
 | x :: xs, hn, h => by
  unfold notIn at hn
  by_cases e : x = b
  ·subst e
   simp at hn
  simp only [nbeq, e, decide_false, cond_false] at hn
  cases h with
  | head => exact e rfl
  | tail _ h => exact notIn_spec hn h
theorem readOk_spec {pre b : Nat} : ∀ {ws : List (Nat × List Nat)}, readOk pre b ws = true → ∀ h w, (h, w) ∈ ws → pre.testBit h = false → b ∉ w
 | (h, w) :: ws, hr, h', w', hm, hp => by
  unfold readOk at hr
  obtain ⟨hc, hr⟩ : (pre.testBit h || notIn b w) = true ∧ readOk pre b ws = true := by
   cases hcc : (pre.testBit h || notIn b w) with
   | true => rw [hcc] at hr; exact ⟨rfl, hr⟩
   | false => rw [hcc] at hr; cases hr
  cases hm with
  | head =>
   rw [hp] at hc
   exact notIn_spec (by simpa using hc)
  | tail _ hm => exact readOk_spec hr h' w' hm hp
theorem writeOk_spec {pre : Nat} {w : List Nat} {h : Tr AObj} : ∀ {rs : List (Nat × Rd)}, writeOk pre w h rs = true → ∀ j r, (j, r) ∈ rs → pre.testBit j = false → r.1 ∉ w ∨ sameR h r = true
 | (j, b) :: rs, hr, j', b', hm, hp => by
  unfold writeOk at hr
  obtain ⟨hc, hr⟩ : (pre.testBit j || (notIn b.1 w || sameR h b)) = true ∧ writeOk pre w h rs = true := by
   cases hcc : (pre.testBit j || (notIn b.1 w || sameR h b)) with
   | true => rw [hcc] at hr; exact ⟨rfl, hr⟩
   | false => rw [hcc] at hr; cases hr
  cases hm with
  | head =>
   rw [hp, Bool.false_or, Bool.or_eq_true] at hc
   exact hc.imp notIn_spec id
  | tail _ hm => exact writeOk_spec hr j' b' hm hp
theorem sameA_eq : ∀ {a b : Option Addr}, sameA a b = true → a = b
 | none, none, _ => rfl
 | none, some _, h => by cases h
 | some _, none, h => by cases h
 | some ⟨x, y, p⟩, some ⟨x', y', p'⟩, h => by
  simp only [sameA, Bool.and_eq_true, nbeq, decide_eq_true_eq, Option.isNone_iff_eq_none] at h
  obtain ⟨rfl, rfl, rfl, rfl⟩ := h
  rfl
theorem sameV_eq {a b : Value} (h : sameV a b = true) : a = b := by
 unfold sameV at h
 split at h
 ·simp only [Bool.and_eq_true, decide_eq_true_eq] at h
  rw [h.1, h.2]
 ·simp only [beq_iff_eq] at h
  rw [h]
 ·rw [eqBytes_eq, decide_eq_true_eq] at h
  rename_i a b
  cases a with
  | mk a => cases b with
   | mk b => rw [show a = b from Array.toList_inj.1 h]
 ·simp only [Bool.and_eq_true, nbeq, decide_eq_true_eq] at h
  rw [sameA_eq h.1, h.2.1, h.2.2]
 ·rw [sameA_eq h]
 cases h
theorem sameR_eq {h : Tr AObj} {r : Rd} (k : sameR h r = true) : (h.get r.1).bind r.2.1 = some r.2.2 := by
 unfold sameR at k
 split at k
 ·rename_i v hv
  rw [hv, sameV_eq k]
 cases k
structure DTrace (P : Program) (slf : Self) (n : Nat) (ops : Array Oper) (base lo : Nat) (i0 : Nat) (l : List (Oper × Info)) (T : Nat → Tr Value) (M : Nat → AW) (L : Nat → List Nat) (R : Nat → Option Rd) (A : Nat → List (Nat × Nat)) : Prop where
 step : ∀ i o inf, i0 ≤ i → l[i - i0]? = some (o, inf) → DStep P slf n ops base lo o inf (T i) (M i) (A i) (T (i + 1)) (M (i + 1)) (L i) (R i) (A (i + 1))
 apart : ∀ i j o inf, i0 ≤ j → j < i → l[i - i0]? = some (o, inf) → inf.pre.testBit j = false → (∀ r, R i = some r → r.1 ∉ L j) ∧ (∀ r, R j = some r → r.1 ∉ L i ∨ sameR (M (i + 1)).heap r = true)
theorem dops_trace {n : Nat} {ops : Array Oper} {base lo : Nat} : ∀ (l : List (Oper × Info)) (i0 : Nat) (rs : List (Nat × Rd)) (ws : List (Nat × List Nat)) (as : List (Nat × Nat)) (ts : Tr Value) (m : AW) (out : Out),
  (∀ k o inf, l[k]? = some (o, inf) → inf.i = i0 + k ∧ inf.cls = cls P o.op) → dops P self n ops base lo l rs ws as ts m = some out →
  ∃ T M L R A, T i0 = ts ∧ M i0 = m ∧ A i0 = as ∧ T (i0 + l.length) = out.ts ∧ M (i0 + l.length) = out.m ∧ out.ex = .normal ∧ DTrace P self n ops base lo i0 l T M L R A ∧
   (∀ i o inf, i0 ≤ i → l[i - i0]? = some (o, inf) → (∀ h w, (h, w) ∈ ws → inf.pre.testBit h = false → ∀ b, R i = some b → b.1 ∉ w) ∧ (∀ j r, (j, r) ∈ rs → inf.pre.testBit j = false → r.1 ∉ L i ∨ sameR (M (i + 1)).heap r = true))
 | [], i0, rs, ws, as, ts, m, out, _, h => by
  simp only [dops, Option.some.injEq] at h
  subst h
  exact ⟨fun _ => ts, fun _ => m, fun _ => [], fun _ => none, fun _ => as, rfl, rfl, rfl, rfl, rfl, rfl, ⟨fun i o inf _ hl => by simp at hl, fun i j o inf _ _ hl => by simp at hl⟩, fun i o inf _ hl => by simp at hl⟩
 | (o, inf) :: l, i0, rs, ws, as, ts, m, out, hinf, h => by
  obtain ⟨hi, hcl⟩ := hinf 0 o inf rfl
  have hinf' : ∀ k o inf, l[k]? = some (o, inf) → inf.i = i0 + 1 + k ∧ inf.cls = cls P o.op := by
   intro k o2 inf2 hk
   obtain ⟨h1, h2⟩ := hinf (k + 1) o2 inf2 (by simpa using hk)
   exact ⟨by omega, h2⟩
  -- what is common to all cases
  have glue : ∀ (ts1 : Tr Value) (m1 : AW) (log : List Nat) (rd : Option Rd) (rs1 : List (Nat × Rd)) (ws1 : List (Nat × List Nat)) (as1 : List (Nat × Nat)), dops P self n ops base lo l rs1 ws1 as1 ts1 m1 = some out →
    DStep P self n ops base lo o inf ts m as ts1 m1 log rd as1 → (∀ x ∈ ws, x ∈ ws1) → (∀ x ∈ rs, x ∈ rs1) → (log ≠ [] → (i0, log) ∈ ws1) → (∀ b, rd = some b → (i0, b) ∈ rs1) →
    (∀ h w, (h, w) ∈ ws → inf.pre.testBit h = false → ∀ b, rd = some b → b.1 ∉ w) → (∀ j r, (j, r) ∈ rs → inf.pre.testBit j = false → r.1 ∉ log ∨ sameR m1.heap r = true) →
    ∃ T M L R A, T i0 = ts ∧ M i0 = m ∧ A i0 = as ∧ T (i0 + ((o, inf) :: l).length) = out.ts ∧ M (i0 + ((o, inf) :: l).length) = out.m ∧ out.ex = .normal ∧ DTrace P self n ops base lo i0 ((o, inf) :: l) T M L R A ∧
     (∀ i o2 inf2, i0 ≤ i → ((o, inf) :: l)[i - i0]? = some (o2, inf2) → (∀ h w, (h, w) ∈ ws → inf2.pre.testBit h = false → ∀ b, R i = some b → b.1 ∉ w) ∧ (∀ j r, (j, r) ∈ rs → inf2.pre.testBit j = false → r.1 ∉ L i ∨ sameR (M (i + 1)).heap r = true)) := by
   intro ts1 m1 log rd rs1 ws1 as1 hd hst hws hrs hlog hrd hw1 hw2
   obtain ⟨T, M, L, R, A, t1, t2, ta, t3, t4, t5, t6, t7⟩ := dops_trace l (i0 + 1) rs1 ws1 as1 ts1 m1 out hinf' hd
   have hidx : ∀ i, i0 < i → ((o, inf) :: l)[i - i0]? = l[i - (i0 + 1)]? := by
    intro i hi
    rw [show i - i0 = (i - (i0 + 1)) + 1 by omega, List.getElem?_cons_succ]
   refine ⟨fun i => if i = i0 then ts else T i, fun i => if i = i0 then m else M i, fun i => if i = i0 then log else L i, fun i => if i = i0 then rd else R i, fun i => if i = i0 then as else A i, by simp, by simp, by simp, ?_, ?_, t5, ⟨?_, ?_⟩, ?_⟩
   ·simp only [List.length_cons]
    rw [if_neg (by omega), show i0 + (l.length + 1) = i0 + 1 + l.length by omega]
    exact t3
   ·simp only [List.length_cons]
    rw [if_neg (by omega), show i0 + (l.length + 1) = i0 + 1 + l.length by omega]
    exact t4
   ·intro i o2 inf2 hle hl2
    by_cases e : i = i0
    ·subst e
     simp only [Nat.sub_self, List.getElem?_cons_zero, Option.some.injEq, Prod.mk.injEq] at hl2
     obtain ⟨rfl, rfl⟩ := hl2
     simp only [if_true]
     rw [if_neg (by omega), if_neg (by omega), if_neg (by omega), t1, t2, ta]
     exact hst
    rw [hidx i (by omega)] at hl2
    simp only [if_neg e]
    rw [if_neg (by omega), if_neg (by omega), if_neg (by omega)]
    exact t6.1 i o2 inf2 (by omega) hl2
   ·intro i j o2 inf2 hle hji hl2 hp
    rw [hidx i (by omega)] at hl2
    have e : i ≠ i0 := by omega
    simp only [if_neg e]
    by_cases ej : j = i0
    ·subst ej
     simp only [if_true]
     obtain ⟨u1, u2⟩ := t7 i o2 inf2 (by omega) hl2
     refine ⟨fun b hb hin => ?_, fun b hb => by rw [if_neg (by omega)]; exact u2 j b (hrd b hb) hp⟩
     have hne : log ≠ [] := fun e0 => by rw [e0] at hin; cases hin
     exact u1 j log (hlog hne) hp b hb hin
    simp only [if_neg ej]
    rw [if_neg (by omega)]
    exact t6.2 i j o2 inf2 (by omega) hji hl2 hp
   intro i o2 inf2 hle hl2
   by_cases e : i = i0
   ·subst e
    simp only [Nat.sub_self, List.getElem?_cons_zero, Option.some.injEq, Prod.mk.injEq] at hl2
    obtain ⟨rfl, rfl⟩ := hl2
    simp only [if_true]
    refine ⟨hw1, fun j r hm hp => ?_⟩
    rw [if_neg (by omega), t2]
    exact hw2 j r hm hp
   rw [hidx i (by omega)] at hl2
   simp only [if_neg e]
   obtain ⟨u1, u2⟩ := t7 i o2 inf2 (by omega) hl2
   rw [if_neg (by omega)]
   exact ⟨fun h w hm => u1 h w (hws _ hm), fun j b hm => u2 j b (hrs _ hm)⟩
  have nil1 : ∀ (h : Nat) (w : List Nat), (h, w) ∈ ws → inf.pre.testBit h = false → ∀ b, (none : Option Rd) = some b → b.1 ∉ w := fun _ _ _ _ _ hb => by cases hb
  have nil2 : ∀ (m2 : AW) (j : Nat) (r : Rd), (j, r) ∈ rs → inf.pre.testBit j = false → r.1 ∉ ([] : List Nat) ∨ sameR m2.heap r = true := fun _ _ _ _ _ => .inl fun hb => by cases hb
  unfold dops at h
  cases hw : wantedA ops ts o with
  | false =>
   rw [hw] at h
   exact glue _ _ [] none _ _ _ h (.skip hw) (fun _ h => h) (fun _ h => h) (fun h => absurd rfl h) (fun _ h => by cases h) nil1 (nil2 _)
  | true =>
   rw [hw] at h
   simp only [cond_true] at h
   cases hc : cls P o.op with
   | l =>
    rw [hcl, hc] at h
    simp only at h
    split at h
    ·rename_i v hv
     exact glue _ _ [] none _ _ _ h (.imm hw hc hv) (fun _ h => h) (fun _ h => h) (fun h => absurd rfl h) (fun _ h => by cases h) nil1 (nil2 _)
    ·rename_i b f hv
     split at h
     ·rename_i v hb
      cases hfull : (inf.full && seenB inf.pre b as) with
      | true =>
       rw [hfull] at h
       simp only [Bool.and_eq_true] at hfull
       exact glue _ _ [] none _ _ _ h (.full hw hc hv hb hfull.1 hfull.2) (fun _ h => h) (fun _ h => h) (fun h => absurd rfl h) (fun _ h => by cases h) nil1 (nil2 _)
      | false =>
       rw [hfull] at h
       simp only [cond_false] at h
       obtain ⟨hcond, h⟩ := bif_some h
       simp only [Bool.and_eq_true, nblt, decide_eq_true_eq] at hcond
       refine glue _ _ [] (some (b, f, v)) _ _ _ h (.read hw hc hv hb hcond.1) (fun _ h => h) (fun _ h => List.mem_cons_of_mem _ h) (fun h => absurd rfl h) (fun b' h => ?_) (fun h w hm hp b' hb' => ?_) (nil2 _)
       ·cases h
        rw [hi]
        exact List.mem_cons_self
       cases hb'
       exact readOk_spec hcond.2 h w hm hp
     cases h
    cases h
   | h =>
    rw [hcl, hc] at h
    simp only at h
    obtain ⟨hk, h⟩ := bif_some h
    simp only [Bool.and_eq_true] at hk
    split at h
    ·rename_i v m1 hd
     obtain ⟨hwo, h⟩ := bif_some h
     refine glue _ _ m1.log none _ _ _ h (.call hw hc hk.1 hk.2 hd) (fun _ h => List.mem_cons_of_mem _ h) (fun _ h => h) (fun _ => ?_) (fun _ h => by cases h) nil1 (fun j b hm hp => writeOk_spec hwo j b hm hp)
     rw [hi]
     exact List.mem_cons_self
    cases h
   | p =>
    rw [hcl, hc] at h
    simp only at h
    split at h
    ·rename_i v m1 hd
     unfold doOp at hd
     rw [hc] at hd
     simp only [doP] at hd
     split at hd
     ·rename_i v2 hv
      cases hd
      exact glue _ _ [] none _ _ _ h (.pure hw hc hv) (fun _ h => h) (fun _ h => h) (fun h => absurd rfl h) (fun _ h => by cases h) nil1 (nil2 _)
     cases hd
    cases h
   | a =>
    rw [hcl, hc] at h
    simp only at h
    split at h
    ·rename_i v m1 hd
     unfold doOp at hd
     rw [hc] at hd
     simp only [doA] at hd
     split at hd
     ·rename_i x f hv
      cases hd
      exact glue _ _ [] none _ _ _ h (.make hw hc hv) (fun _ h => h) (fun _ h => h) (fun h => absurd rfl h) (fun _ h => by cases h) nil1 (nil2 _)
     cases hd
    cases h
end
end Go.Ab
namespace Go.Ab
variable [Vals]
section
variable {P : Program} [FactsOk P] {self : Self}
theorem Rel.beside (hr : Rel P ρ m w) (hsub : ∀ c y, mA.heap.get c = some y → m.heap.get c = some y) (h1 : Rel P ρ' m1 w') (g : Grow ρ ρ' mA m1 w w') (X : Nat → Prop) (hX : ∀ c, X c → mA.heap.get c = none)
  (hpl : ∀ c y, X c → m.heap.get c = some y → mateOf y = none ∧ isRo y = false) (h' : ∀ c y, m'.heap.get c = some y → (X c ∧ m.heap.get c = some y) ∨ (¬ X c ∧ m1.heap.get c = some y)) :
  Rel P ρ' m' w' ∧ (∀ B, Own ρ' m' B → Own ρ' m1 B ∨ Own ρ m B) ∧ (∀ B, Occ ρ' m' B → Occ ρ' m1 B ∨ Occ ρ m B) := by
 have hapart : ∀ c d x y s t, X c → m.heap.get c = some x → m1.heap.get d = some y → ρ c = some s → ρ' d = some t → s.blk = t.blk → False := by
  intro c d x y s t hc hx hy hs ht hst
  rcases g.occ t.blk ⟨d, y, t, hy, ht, rfl⟩ with ⟨e, z, u, u1, u2, u3⟩ | h5
  ·have hne : c ≠ e := by
    rintro rfl
    rw [hX c hc] at u1
    cases u1
   rcases hr.sep c e x z s u hne hx (hsub _ _ u1) hs u2 (by rw [u3]; exact hst) with h6 | h6
   ·rw [(hpl c x hc hx).1] at h6
    cases h6.1
   rw [(hpl c x hc hx).2] at h6
   cases h6.1
  have := hr.inb _ _ hs
  omega
 have hkeep : ∀ c x s, X c → m.heap.get c = some x → ρ c = some s → w'.heap[s.blk]? = w.heap[s.blk]? := by
  intro c x s hc hx hs
  refine g.keep s.blk (hr.inb _ _ hs) ?_
  rintro ⟨e, z, u, u1, u2, u3, u4⟩
  have hne : c ≠ e := by
   rintro rfl
   rw [hX c hc] at u1
   cases u1
  rcases hr.sep c e x z s u hne hx (hsub _ _ u1) hs u3 u4.symm with h6 | h6
  ·rw [(hpl c x hc hx).1] at h6
   cases h6.1
  rw [u2] at h6
  cases h6.2
 have hback : ∀ c x t, X c → m.heap.get c = some x → ρ' c = some t → ρ c = some t := by
  intro c x t hc hx ht
  obtain ⟨s, _, r1, _⟩ := hr.obj _ _ hx
  rw [g.le _ _ r1] at ht
  cases ht
  exact r1
 refine ⟨⟨fun c y hy => ?_, fun c1 c2 y1 y2 s1 s2 hne g1 g2 r1 r2 hs => ?_, h1.glob, h1.inb⟩, ?_, ?_⟩
 ·rcases h' c y hy with ⟨e1, e2⟩ | ⟨_, e1⟩
  ·obtain ⟨s, z, r1, r2, r3⟩ := hr.obj _ _ e2
   exact ⟨s, z, g.le _ _ r1, by rw [hkeep c y s e1 e2 r1]; exact r2, r3.mono g.le⟩
  exact h1.obj c y e1
 ·rcases h' c1 y1 g1 with ⟨e1, e2⟩ | ⟨_, e1⟩
  ·rcases h' c2 y2 g2 with ⟨f1, f2⟩ | ⟨_, f1⟩
   ·exact hr.sep _ _ _ _ _ _ hne e2 f2 (hback _ _ _ e1 e2 r1) (hback _ _ _ f1 f2 r2) hs
   exact (hapart c1 c2 y1 y2 s1 s2 e1 e2 f1 (hback _ _ _ e1 e2 r1) r2 hs).elim
  rcases h' c2 y2 g2 with ⟨f1, f2⟩ | ⟨_, f1⟩
  ·exact (hapart c2 c1 y2 y1 s2 s1 f1 f2 e1 (hback _ _ _ f1 f2 r2) r1 hs.symm).elim
  exact h1.sep c1 c2 y1 y2 s1 s2 hne e1 f1 r1 r2 hs
 ·rintro B ⟨c, y, t, e1, e2, e3, e4⟩
  rcases h' c y e1 with ⟨f1, f2⟩ | ⟨_, f1⟩
  ·exact .inr ⟨c, y, t, f2, e2, hback _ _ _ f1 f2 e3, e4⟩
  exact .inl ⟨c, y, t, f1, e2, e3, e4⟩
 rintro B ⟨c, y, t, e1, e3, e4⟩
 rcases h' c y e1 with ⟨f1, f2⟩ | ⟨_, f1⟩
 ·exact .inr ⟨c, y, t, f2, hback _ _ _ f1 f2 e3, e4⟩
 exact .inl ⟨c, y, t, f1, e3, e4⟩
theorem plainO_spec (h : plainO (some x) = true) : mateOf x = none ∧ isRo x = false := by
 cases x with
 | cells cs e g md mt => cases md <;> cases mt <;> simp_all [plainO, mateOf, isRo]
 | deferred => simp [plainO] at h
 | _ => exact ⟨rfl, rfl⟩
theorem DStep.does (h : DStep P self n ops base lo o inf ts m as ts' m' lg rd as') :
    (wantedA ops ts o = false ∧ ts' = put n ts o.dst undef ∧ m' = m) ∨
    (wantedA ops ts o = true ∧ ∃ v mm m1, (∀ c y, mm.heap.get c = some y → m.heap.get c = some y) ∧ mm.next = m.next ∧ doOp P self ts o.op mm = some (.val v m1) ∧ ts' = put n ts o.dst v ∧ m'.next = m1.next ∧
      ∃ X : Nat → Prop, (∀ c, X c → mm.heap.get c = none) ∧ (∀ c y, X c → m.heap.get c = some y → mateOf y = none ∧ isRo y = false) ∧ ∀ c, (X c → m'.heap.get c = m.heap.get c) ∧ (¬ X c → m'.heap.get c = m1.heap.get c)) := by
  have plain : ∀ v (m1 : AW), wantedA ops ts o = true → doOp P self ts o.op m = some (.val v m1) → ts' = put n ts o.dst v → m' = m1 →
      (wantedA ops ts o = true ∧ ∃ v mm m1, (∀ c y, mm.heap.get c = some y → m.heap.get c = some y) ∧ mm.next = m.next ∧ doOp P self ts o.op mm = some (.val v m1) ∧ ts' = put n ts o.dst v ∧ m'.next = m1.next ∧
        ∃ X : Nat → Prop, (∀ c, X c → mm.heap.get c = none) ∧ (∀ c y, X c → m.heap.get c = some y → mateOf y = none ∧ isRo y = false) ∧ ∀ c, (X c → m'.heap.get c = m.heap.get c) ∧ (¬ X c → m'.heap.get c = m1.heap.get c)) := by
    rintro v m1 hw hd ht rfl
    exact ⟨hw, v, m, m', fun _ _ h => h, rfl, hd, ht, rfl, fun _ => False, fun _ h => h.elim, fun _ _ h => h.elim, fun _ => ⟨fun h => h.elim, fun _ => rfl⟩⟩
  cases h with
  | skip hw => exact .inl ⟨hw, rfl, rfl⟩
  | pure hw hc h => exact .inr (plain _ _ hw (by unfold doOp; rw [hc]; simp only [doP, h]) rfl rfl)
  | imm hw hc h => exact .inr (plain _ _ hw (by unfold doOp; rw [hc]; simp only [doL, h]) rfl rfl)
  | full hw hc h hv hf hsn => exact .inr (plain _ _ hw (by unfold doOp; rw [hc]; simp only [doL, h, hv]) rfl rfl)
  | read hw hc h hv hb => exact .inr (plain _ _ hw (by unfold doOp; rw [hc]; simp only [doL, h, hv]) rfl rfl)
  | make hw hc h => exact .inr (plain _ _ hw (by unfold doOp; rw [hc]; simp only [doA, h]) rfl rfl)
  | call hw hc hk hp h =>
    refine .inr ⟨hw, _, ⟨hideB inf.pre as m.heap, m.next, base, []⟩, _, fun c y hy => ?_, rfl, h, rfl, rfl, fun c => ∃ j, (j, c) ∈ as ∧ inf.pre.testBit j = false, fun c ⟨j, h1, h2⟩ => hide_in h1 h2, fun c y ⟨j, h1, h2⟩ hy => ?_, fun c => ⟨fun ⟨j, h1, h2⟩ => show_in h1 h2, fun hno => ?_⟩⟩
    · by_cases hx : ∃ j, (j, c) ∈ as ∧ inf.pre.testBit j = false
      · obtain ⟨j, h1, h2⟩ := hx
        rw [show (hideB inf.pre as m.heap).get c = none from hide_in h1 h2] at hy
        cases hy
      · rwa [show (hideB inf.pre as m.heap).get c = m.heap.get c from hide_out fun j hj => by
          cases hp2 : inf.pre.testBit j with
          | true => rfl
          | false => exact absurd ⟨j, hj, hp2⟩ hx] at hy
    · have := plain_in hp h1 h2
      rw [hy] at this
      exact plainO_spec this
    · refine show_out fun j hj => ?_
      cases hp2 : inf.pre.testBit j with
      | true => rfl
      | false => exact absurd ⟨j, hj, hp2⟩ hno
section
variable (hM : ∀ fr t m out, self fr t m = some out → Mono m out.m) (hS : ∀ fr t m out, self fr t m = some out → Sound P fr t m out)
include hM
theorem DStep.next (h : DStep P self n ops base lo o inf ts m as ts' m' lg rd as') : m.next ≤ m'.next := by
 rcases h.does with ⟨_, _, rfl⟩ | ⟨_, v, mm, m1, _, h2, h3, _, h4, _⟩
 ·exact Nat.le_refl _
 rw [h4, ← h2]
 exact (doOp_mono hM h3).next
theorem trace_next {n : Nat} {ops : Array Oper} {base lo : Nat} {l : List (Oper × Info)} {T : Nat → Tr Value} {M : Nat → AW} {L : Nat → List Nat} {R : Nat → Option Rd} {A : Nat → List (Nat × Nat)} (h : DTrace P self n ops base lo 0 l T M L R A) : ∀ (d i : Nat), i + d ≤ l.length → (M i).next ≤ (M (i + d)).next
 | 0, i, _ => Nat.le_refl _
 | d + 1, i, hd => by
  have h1 := trace_next h d i (by omega)
  have hlt : i + d < l.length := by omega
  have h2 := h.1 (i + d) (l[i + d]).1 (l[i + d]).2 (by omega) (by rw [Nat.sub_zero, List.getElem?_eq_getElem hlt])
  exact Nat.le_trans h1 (h2.next hM)
include hS
theorem ghost_run {n : Nat} {ops : Array Oper} {base lo : Nat} {l : List (Oper × Info)} {T : Nat → Tr Value} {M : Nat → AW} {L : Nat → List Nat} {R : Nat → Option Rd} {A : Nat → List (Nat × Nat)} (h : DTrace P self n ops base lo 0 l T M L R A) (hl : ∀ (k : Nat) o inf, l[k]? = some (o, inf) → ops[k]? = some o) {ρ0 : Ren} {w0 : World} {a0 : Act}
  (hr : Rel P ρ0 (M 0) w0) (hf : Fresh ρ0 (M 0) (M l.length)) (ht : TsRel ρ0 n (T 0) a0.tmps) : ∀ (k : Nat), k ≤ l.length → ∃ (ρ : Ren) (w : World) (a : Act), Rel P ρ (M k) w ∧ Fresh ρ (M k) (M l.length) ∧ TsRel ρ n (T k) a.tmps
 | 0, _ => ⟨ρ0, w0, a0, hr, hf, ht⟩
 | k + 1, hk => by
  obtain ⟨ρ, w, a, q1, q2, q3⟩ := ghost_run h hl hr hf ht k (by omega)
  have hlt : k < l.length := by omega
  have hget : l[k]? = some (l[k].1, l[k].2) := by rw [List.getElem?_eq_getElem hlt]
  have hst := h.1 k _ _ (by omega) (by rw [Nat.sub_zero]; exact hget)
  have ho := hl k _ _ hget
  have hnx := trace_next hM h (l.length - (k + 1)) (k + 1) (by omega)
  rw [show k + 1 + (l.length - (k + 1)) = l.length by omega] at hnx
  have hw := wanted_rel q3 ops l[k].1
  rcases hst.does with ⟨_, h2, h3⟩ | ⟨hwt, v, mm, m1, h1, h2, h3, h4, h6, X, x1, x2, x3⟩
  ·rw [h2, h3]
   exact ⟨ρ, w, a.put l[k].1.dst undef, q1, q2, q3.put (undef_rel _) _⟩
  have hrm : Rel P ρ mm w := q1.sub h1
  have hE : ERel P ρ (T k) a.eval := erel_of q3 q1.glob
  rw [hwt] at hw
  have hfm : Fresh ρ mm m1 := fun i x y => q2 i (by rw [← h2]; exact x) (by rw [← h6] at y; omega)
  obtain ⟨ρ', w', v', _, r2, r3, r4⟩ := op_follows (b := baseFr 0) (k := []) (cs := []) (rest := []) hS ho hw.symm rfl hE hrm h3 hfm
  have hb := Rel.beside (m' := M (k + 1)) q1 h1 r2 r3 X x1 x2 fun c y hy => by
   by_cases hx : X c
   ·exact .inl ⟨hx, by rw [← (x3 c).1 hx]; exact hy⟩
   exact .inr ⟨hx, by rw [← (x3 c).2 hx]; exact hy⟩
  refine ⟨ρ', w', a.put l[k].1.dst v', hb.1, fun i x y => ?_, ?_⟩
  ·rw [r3.only i (.inr (by rw [← h6]; exact x))]
   have := r3.next
   exact q2 i (by rw [← h2]; omega) y
  rw [h4]
  exact (q3.mono r3.le).put r4 _
theorem no_junk (h : DTrace P self n ops base lo 0 l T M L R A) (hl : ∀ (k : Nat) o inf, l[k]? = some (o, inf) → ops[k]? = some o) {a0 : Act}
  (hr : Rel P ρ0 (M 0) w0) (hf : Fresh ρ0 (M 0) (M l.length)) (ht : TsRel ρ0 n (T 0) a0.tmps) (hk : k ≤ l.length) (h1 : (M k).next ≤ b) (h2 : b < (M l.length).next) : (M k).heap.get b = none := by
 obtain ⟨ρ, w, a, q1, q2, q3⟩ := ghost_run hM hS h hl hr hf ht k hk
 cases hg : (M k).heap.get b with
 | none => rfl
 | some o =>
  obtain ⟨s, x, r1, _⟩ := q1.obj b o hg
  rw [q2 b h1 h2] at r1
  cases r1
end
end
end Go.Ab
namespace Go.Ab
variable [Vals]
def preOf (acc : List Nat) (o : Oper) : Nat := o.after.toList.foldl (fun s e => bif Region.binds .any e then s ||| (2 ^ e.on) ||| (acc.getD e.on 0) else s) 0
theorem predsGo_eq : ∀ (os : List Oper) (acc : List Nat), predsGo os acc = match os with | [] => acc | o :: os => predsGo os (acc ++ [preOf acc o])
 | [], _ => rfl
 | _ :: _, _ => rfl
theorem predsGo_spec : ∀ (os : List Oper) (acc : List Nat), (predsGo os acc).length = acc.length + os.length ∧ (∀ i, i < acc.length → (predsGo os acc)[i]? = acc[i]?) ∧
  ∀ k o, os[k]? = some o → (predsGo os acc)[acc.length + k]? = some (preOf ((predsGo os acc).take (acc.length + k)) o)
 | [], acc => ⟨by simp [predsGo], fun _ _ => rfl, fun k o h => by simp at h⟩
 | o :: os, acc => by
  rw [predsGo_eq]
  obtain ⟨h1, h2, h3⟩ := predsGo_spec os (acc ++ [preOf acc o])
  have hlen : (acc ++ [preOf acc o]).length = acc.length + 1 := by simp
  have htake : (predsGo os (acc ++ [preOf acc o])).take acc.length = acc := by
   apply List.ext_getElem?
   intro i
   rw [List.getElem?_take]
   by_cases hi : i < acc.length
   ·rw [if_pos hi, h2 i (by omega), List.getElem?_append_left hi]
   rw [if_neg hi, List.getElem?_eq_none (by omega)]
  refine ⟨by rw [h1, hlen]; simp; omega, fun i hi => by rw [h2 i (by omega), List.getElem?_append_left hi], fun k o' hk => ?_⟩
  cases k with
  | zero =>
   simp only [List.getElem?_cons_zero, Option.some.injEq] at hk
   subst hk
   rw [Nat.add_zero, htake, h2 acc.length (by omega)]
   simp
  | succ k =>
   have := h3 k o' (by simpa using hk)
   rw [hlen] at this
   rw [show acc.length + (k + 1) = acc.length + 1 + k by omega]
   exact this
theorem bits_fold (acc : List Nat) (j : Nat) : ∀ (es : List Edge) (s : Nat), (es.foldl (fun s e => bif Region.binds .any e then s ||| (2 ^ e.on) ||| (acc.getD e.on 0) else s) s).testBit j = true →
  s.testBit j = true ∨ ∃ e ∈ es, Region.binds .any e = true ∧ (j = e.on ∨ (acc.getD e.on 0).testBit j = true)
 | [], s, h => .inl h
 | e :: es, s, h => by
  rw [List.foldl_cons] at h
  rcases bits_fold acc j es _ h with h1 | ⟨e', h1, h2⟩
  ·cases hb : Region.binds .any e with
   | true =>
    rw [hb] at h1
    simp only [cond_true, Nat.testBit_or, Bool.or_eq_true, Nat.testBit_two_pow, decide_eq_true_eq] at h1
    rcases h1 with (h1 | h1) | h1
    ·exact .inl h1
    ·exact .inr ⟨e, List.mem_cons_self, hb, .inl h1.symm⟩
    exact .inr ⟨e, List.mem_cons_self, hb, .inr h1⟩
   | false =>
    rw [hb] at h1
    exact .inl h1
  exact .inr ⟨e', List.mem_cons_of_mem _ h1, h2⟩
theorem pre_spec (ho : os[i]? = some o) (h : ((preds os).getD i 0).testBit j = true) : ∃ e ∈ o.after, Region.binds .any e = true ∧ (j = e.on ∨ ((preds os).getD e.on 0).testBit j = true) := by
 obtain ⟨h1, _, h3⟩ := predsGo_spec os []
 have hi := h3 i o ho
 simp only [List.length_nil, Nat.zero_add] at hi
 have e1 : (preds os).getD i 0 = preOf ((preds os).take i) o := by
  unfold preds
  rw [List.getD_eq_getElem?_getD, hi]
  rfl
 rw [e1] at h
 rcases bits_fold _ j _ 0 h with h2 | ⟨e, q1, q2, q3⟩
 ·simp at h2
 refine ⟨e, by simpa using q1, q2, q3.imp id fun q4 => ?_⟩
 rw [List.getD_eq_getElem?_getD, List.getElem?_take] at q4
 split at q4
 ·rw [List.getD_eq_getElem?_getD]
  exact q4
 simp at q4
structure InfoOk (P : Program) (ops : Array Oper) (i : Nat) (o : Oper) (inf : Info) : Prop where
 at_ : ops[i]? = some o
 num : inf.i = i
 kind : inf.cls = Ab.cls P o.op
 prec : inf.pre = (preds ops.toList).getD i 0
 fullOk : inf.full = true → ∀ (j : Nat) (oj : Oper), ops[j]? = some oj → Ab.cls P oj.op = .h → j = i ∨ ((preds ops.toList).getD i 0).testBit j = true ∨ ((preds ops.toList).getD j 0).testBit i = true
 hokOk : inf.hok = true → ∀ (j : Nat) (oj : Oper), j < i → ops[j]? = some oj → Ab.cls P oj.op = .h → ((preds ops.toList).getD i 0).testBit j = true
theorem infos_ok [FactsOk P] (h : (ops.toList.zip (infos P ops.toList))[i]? = some (o, inf)) : InfoOk P ops i o inf := by
 rw [List.getElem?_zip_eq_some] at h
 obtain ⟨h1, h2⟩ := h
 have ho : ops[i]? = some o := by simpa using h1
 have hlt : i < ops.size := (Array.getElem?_eq_some_iff.1 ho).1
 simp only [infos, Array.length_toList] at h2
 rw [List.getElem?_map, List.getElem?_range hlt] at h2
 simp only [Option.map_some, Option.some.injEq] at h2
 have hc : ∀ (j : Nat) (oj : Oper), ops[j]? = some oj → (ops.toList.map fun o => Ab.cls P o.op).getD j .h = Ab.cls P oj.op := by
  intro j oj hj
  rw [List.getD_eq_getElem?_getD, List.getElem?_map]
  have : ops.toList[j]? = some oj := by simpa using hj
  rw [this]
  rfl
 subst h2
 refine ⟨ho, rfl, hc i o ho, rfl, fun hf j oj hj hcl => ?_, fun hk j oj hji hj hcl => ?_⟩
 ·have hjl : j < ops.size := (Array.getElem?_eq_some_iff.1 hj).1
  have := List.all_eq_true.1 hf j (List.mem_range.2 hjl)
  rw [hc j oj hj] at this
  rw [hcl] at this
  simp only [nbeq, Bool.or_eq_true, decide_eq_true_eq] at this
  rcases this with (h | h) | h
  ·exact .inl h
  ·exact .inr (.inl h)
  exact .inr (.inr h)
 have := List.all_eq_true.1 hk j (List.mem_range.2 hji)
 rw [hc j oj hj] at this
 rw [hcl] at this
 exact this
end Go.Ab
namespace Go.Ab
variable [Vals]
theorem dstsOf_mem : ∀ {os : List Oper} {i0 k : Nat} {o : Oper} {d : Tmp}, os[k]? = some o → o.dst = some d → (d, i0 + k) ∈ dstsOf os i0
 | [], _, _, _, _, h, _ => by simp at h
 | o :: os, i0, 0, o', d, h, hd => by
  simp only [List.getElem?_cons_zero, Option.some.injEq] at h
  subst h
  unfold dstsOf
  rw [hd]
  exact List.mem_cons_self
 | o :: os, i0, k + 1, o', d, h, hd => by
  have := dstsOf_mem (i0 := i0 + 1) (by simpa using h : os[k]? = some o') hd
  rw [show i0 + (k + 1) = i0 + 1 + k by omega]
  unfold dstsOf
  split
  ·exact List.mem_cons_of_mem _ this
  exact this
theorem apartT_spec : ∀ {ds : List (Tmp × Nat)} {d : Tmp} {i j : Nat}, apartT ds = true → (d, i) ∈ ds → (d, j) ∈ ds → i = j
 | [], _, _, _, _, h, _ => by cases h
 | (e, k) :: ds, d, i, j, h, h1, h2 => by
  simp only [apartT, Bool.and_eq_true, List.all_eq_true, Bool.not_eq_true', nbeq, decide_eq_false_iff_not] at h
  cases h1 with
  | head =>
   cases h2 with
   | head => rfl
   | tail _ h2 => exact absurd rfl (h.1 _ h2)
  | tail _ h1 =>
   cases h2 with
   | head => exact absurd rfl (h.1 _ h1)
   | tail _ h2 => exact apartT_spec h.2 h1 h2
theorem looksAll_spec {ds : List (Tmp × Nat)} {ps : List Nat} : ∀ {l : List (Oper × Info)} {k : Nat} {o : Oper} {inf : Info}, looksAll ds ps l = true → l[k]? = some (o, inf) → inf.pre < 2 ^ inf.i ∧ looksOk ds ps inf.i inf.pre o = true
 | [], _, _, _, _, h => by simp at h
 | (o, inf) :: l, 0, o', inf', h, hk => by
  simp only [List.getElem?_cons_zero, Option.some.injEq, Prod.mk.injEq] at hk
  obtain ⟨rfl, rfl⟩ := hk
  simp only [looksAll, Bool.and_eq_true, nblt, decide_eq_true_eq] at h
  exact h.1
 | (o, inf) :: l, k + 1, o', inf', h, hk => by
  simp only [looksAll, Bool.and_eq_true] at h
  exact looksAll_spec h.2 (by simpa using hk)
theorem looksOk_spec (h : looksOk ds ps i pre o = true) (hm : (d, j) ∈ ds) : pre.testBit j = true ∨ ((Operand.tmp d ∉ opsOf o.op ∨ (ps.getD j 0).testBit i = true) ∧ ∀ g w, o.guard = some (g, w) → g ≠ j) := by
 have := List.all_eq_true.1 h _ hm
 simp only [Bool.or_eq_true, Bool.and_eq_true, Bool.not_eq_true', List.any_eq_false] at this
 refine this.imp id fun ⟨h1, h2⟩ => ⟨h1.imp (fun h1 hin => ?_) id, fun g w hg => ?_⟩
 ·have := h1 _ hin
  simp [isTmp, nbeq] at this
 rw [hg] at h2
 simpa [nbeq] using h2
theorem opsOf_mem [FactsOk P] (h : doOp P self ts o m = some r) (hx : x ∈ o.operands) : x ∈ opsOf o := by
 cases o <;> simp only [Op.operands, Call.operands] at hx <;> simp only [opsOf, callOps]
 case call c =>
  cases hc : c.callee <;> rw [hc] at hx <;> simpa using hx
 all_goals first
  | (simp at hx; done)
  | (simp [doOp, cls, opH] at h; done)
  | (simpa [or_assoc] using hx; done)
structure TmpsOk (ops : Array Oper) (pre : Nat → Nat) : Prop where
 one : ∀ (i j : Nat) (oi oj : Oper) (d : Tmp), ops[i]? = some oi → ops[j]? = some oj → oi.dst = some d → oj.dst = some d → i = j
 below : ∀ (i j : Nat), i < ops.size → (pre i).testBit j = true → j < i
 looks : ∀ (i j : Nat) (oi oj : Oper) (d : Tmp), ops[i]? = some oi → ops[j]? = some oj → oj.dst = some d → Operand.tmp d ∈ opsOf oi.op → (pre i).testBit j = true ∨ (pre j).testBit i = true
 guards : ∀ (i g : Nat) (w : Bool) (oi og : Oper) (d : Tmp), ops[i]? = some oi → oi.guard = some (g, w) → ops[g]? = some og → og.dst = some d → (pre i).testBit g = true
theorem tmps_ok [FactsOk P] (h : tmpsOk (ops.toList.zip (infos P ops.toList)) ops.toList = true) : TmpsOk ops (fun i => (preds ops.toList).getD i 0) := by
 simp only [tmpsOk, Bool.and_eq_true] at h
 obtain ⟨h1, h2⟩ := h
 have mem : ∀ {i : Nat} {o : Oper} {d : Tmp}, ops[i]? = some o → o.dst = some d → (d, i) ∈ dstsOf ops.toList 0 := by
  intro i o d ho hd
  have := dstsOf_mem (os := ops.toList) (i0 := 0) (k := i) (by simpa using ho) hd
  rwa [Nat.zero_add] at this
 have at_ : ∀ {i : Nat} {o : Oper}, ops[i]? = some o → ∃ inf, (ops.toList.zip (infos P ops.toList))[i]? = some (o, inf) ∧ InfoOk P ops i o inf := by
  intro i o ho
  have hlt : i < ops.size := (Array.getElem?_eq_some_iff.1 ho).1
  have hl : i < (ops.toList.zip (infos P ops.toList)).length := by simp [infos, hlt]
  have hget := List.getElem?_eq_getElem hl
  have hinf := infos_ok (P := P) (ops := ops) (i := i) (o := (ops.toList.zip (infos P ops.toList))[i].1) (inf := (ops.toList.zip (infos P ops.toList))[i].2) hget
  have : (ops.toList.zip (infos P ops.toList))[i].1 = o := by
   have := hinf.at_
   rw [ho] at this
   exact (Option.some.inj this).symm
  exact ⟨_, by rw [hget, ← this], by rw [← this]; exact hinf⟩
 have pres : ∀ {j : Nat} {o : Oper}, ops[j]? = some o → ((ops.toList.zip (infos P ops.toList)).map fun x => x.2.pre).getD j 0 = (preds ops.toList).getD j 0 := by
  intro j o ho
  obtain ⟨inf, q1, q2⟩ := at_ ho
  rw [List.getD_eq_getElem?_getD, List.getElem?_map, q1]
  simp only [Option.map_some, Option.getD_some]
  exact q2.prec
 refine ⟨fun i j oi oj d hi hj hd1 hd2 => apartT_spec h1 (mem hi hd1) (mem hj hd2), fun i j hi hb => ?_, fun i j oi oj d hi hj hd hin => ?_, fun i g w oi og d hi hg ho hd => ?_⟩
 ·obtain ⟨inf, q1, q2⟩ := at_ (Array.getElem?_eq_getElem hi)
  have := (looksAll_spec h2 q1).1
  rw [q2.num, q2.prec] at this
  exact Nat.lt_of_not_le fun hle => by
   have := Nat.testBit_lt_two_pow (Nat.lt_of_lt_of_le this (Nat.pow_le_pow_right (by omega) hle))
   have hb2 : ((preds ops.toList).getD i 0).testBit j = true := hb
   rw [this] at hb2
   cases hb2
 ·obtain ⟨inf, q1, q2⟩ := at_ hi
  have := (looksAll_spec h2 q1).2
  rw [q2.prec, q2.num] at this
  rcases looksOk_spec this (mem hj hd) with h3 | ⟨h3 | h3, _⟩
  ·exact .inl h3
  ·exact absurd hin h3
  rw [pres hj] at h3
  exact .inr h3
 obtain ⟨inf, q1, q2⟩ := at_ hi
 have := (looksAll_spec h2 q1).2
 rw [q2.prec] at this
 rcases looksOk_spec this (mem ho hd) with h3 | ⟨_, h3⟩
 ·exact h3
 exact absurd rfl (h3 g w hg)
end Go.Ab
namespace Go.Ab
variable [Vals]
theorem infos_at [FactsOk P] (ho : ops[i]? = some o) : ∃ inf, (ops.toList.zip (infos P ops.toList))[i]? = some (o, inf) ∧ InfoOk P ops i o inf := by
 have hlt : i < ops.size := (Array.getElem?_eq_some_iff.1 ho).1
 have hl : i < (ops.toList.zip (infos P ops.toList)).length := by simp [infos, hlt]
 have hget := List.getElem?_eq_getElem hl
 have hinf := infos_ok (P := P) (ops := ops) (i := i) (o := (ops.toList.zip (infos P ops.toList))[i].1) (inf := (ops.toList.zip (infos P ops.toList))[i].2) hget
 have : (ops.toList.zip (infos P ops.toList))[i].1 = o := by
  have := hinf.at_
  rw [ho] at this
  exact (Option.some.inj this).symm
 exact ⟨_, by rw [hget, ← this], by rw [← this]; exact hinf⟩
abbrev preAt (ops : Array Oper) (i : Nat) : Nat := (preds ops.toList).getD i 0
structure Ctx (P : Program) (slf : Self) (n base lo : Nat) (ops : Array Oper) (T : Nat → Tr Value) (M : Nat → AW) (L : Nat → List Nat) (R : Nat → Option Rd) (A : Nat → List (Nat × Nat)) : Prop where
 mono : ∀ fr t m out, slf fr t m = some out → Mono m out.m
 sound : ∀ fr t m out, slf fr t m = some out → Sound P fr t m out
 tr : DTrace P slf n ops base lo 0 (ops.toList.zip (infos P ops.toList)) T M L R A
 a0 : A 0 = []
 tm : TmpsOk ops (preAt ops)
 nj : ∀ k b, k ≤ ops.size → (M k).next ≤ b → b < (M ops.size).next → (M k).heap.get b = none
 low : base = (M 0).next
def Amk (P : Program) (ops : Array Oper) (T : Nat → Tr Value) (i : Nat) (x : AObj) : Prop := ∃ o f, ops[i]? = some o ∧ wantedA ops (T i) o = true ∧ cls P o.op = .a ∧ opA P (T i) o.op = some (x, f)
def Hst (P : Program) (ops : Array Oper) (T : Nat → Tr Value) (i : Nat) : Prop := ∃ o, ops[i]? = some o ∧ wantedA ops (T i) o = true ∧ cls P o.op = .h
section
variable {P : Program} [FactsOk P] {slf : Self} {n base lo : Nat} {ops : Array Oper} {T : Nat → Tr Value} {M : Nat → AW} {L : Nat → List Nat} {R : Nat → Option Rd} {A : Nat → List (Nat × Nat)}
theorem Amk.lt (h : Amk P ops T i x) : i < ops.size := by
 obtain ⟨o, f, h1, _⟩ := h
 exact (Array.getElem?_eq_some_iff.1 h1).1
theorem Amk.uniq (h : Amk P ops T i x) (k : Amk P ops T i y) : x = y := by
 obtain ⟨o, f, h1, _, _, h4⟩ := h
 obtain ⟨o2, f2, k1, _, _, k4⟩ := k
 rw [h1] at k1
 cases k1
 rw [h4] at k4
 cases k4
 rfl
namespace Ctx
variable (C : Ctx P slf n base lo ops T M L R A)
include C
theorem len : (ops.toList.zip (infos P ops.toList)).length = ops.size := by
 have _ := C
 simp [infos]
theorem step (ho : ops[i]? = some o) : ∃ inf, InfoOk P ops i o inf ∧ (ops.toList.zip (infos P ops.toList))[i]? = some (o, inf) ∧ DStep P slf n ops base lo o inf (T i) (M i) (A i) (T (i + 1)) (M (i + 1)) (L i) (R i) (A (i + 1)) := by
 obtain ⟨inf, h1, h2⟩ := infos_at (P := P) ho
 exact ⟨inf, h2, h1, C.tr.1 i o inf (Nat.zero_le _) (by rw [Nat.sub_zero]; exact h1)⟩
theorem nextLe (hij : i ≤ j) (hj : j ≤ ops.size) : (M i).next ≤ (M j).next := by
 have := trace_next C.mono C.tr (j - i) i (by rw [C.len]; omega)
 rwa [show i + (j - i) = j by omega] at this
theorem made (h : Amk P ops T i x) : (M (i + 1)).heap.get (M i).next = some x ∧ (M (i + 1)).next = (M i).next + 1 ∧ ∀ b, b ≠ (M i).next → (M (i + 1)).heap.get b = (M i).heap.get b := by
 obtain ⟨o, f, h1, h2, h3, h4⟩ := h
 obtain ⟨inf, _, _, hs⟩ := C.step h1
 generalize M (i + 1) = m' at hs ⊢
 generalize T (i + 1) = t' at hs
 generalize L i = lg at hs
 generalize R i = rd at hs
 generalize A (i + 1) = as' at hs
 cases hs with
 | skip hw => rw [h2] at hw; cases hw
 | pure hw hc h => rw [h3] at hc; cases hc
 | imm hw hc h => rw [h3] at hc; cases hc
 | full hw hc h hv hf hsn => rw [h3] at hc; cases hc
 | read hw hc h hv hb => rw [h3] at hc; cases hc
 | make hw hc h =>
  rw [h4] at h
  cases h
  exact ⟨by rw [AW.new_get, if_pos rfl], rfl, fun b hb => by rw [AW.new_get, if_neg hb]⟩
 | call hw hc hk hp h => rw [h3] at hc; cases hc
theorem same (hi : i < ops.size) (hh : ¬ Hst P ops T i) (ha : ∀ x, ¬ Amk P ops T i x) : (M (i + 1)).heap = (M i).heap := by
 have h1 : ops[i]? = some ops[i] := Array.getElem?_eq_getElem hi
 obtain ⟨inf, _, _, hs⟩ := C.step h1
 generalize M (i + 1) = m' at hs ⊢
 generalize T (i + 1) = t' at hs
 generalize L i = lg at hs
 generalize R i = rd at hs
 generalize A (i + 1) = as' at hs
 cases hs with
 | skip hw => rfl
 | pure hw hc h => rfl
 | imm hw hc h => rfl
 | full hw hc h hv hf hsn => rfl
 | read hw hc h hv hb => rfl
 | make hw hc h => exact absurd ⟨_, _, h1, hw, hc, h⟩ (ha _)
 | call hw hc hk hp h => exact absurd ⟨_, h1, hw, hc⟩ hh
theorem keeps (hi : i < ops.size) (hh : ¬ Hst P ops T i) (ha : ∀ x, Amk P ops T i x → b ≠ (M i).next) : (M (i + 1)).heap.get b = (M i).heap.get b := by
 by_cases h : ∃ x, Amk P ops T i x
 ·obtain ⟨x, hx⟩ := h
  exact (C.made hx).2.2 b (ha x hx)
 rw [C.same hi hh fun x hx => h ⟨x, hx⟩]
theorem asSpec : ∀ i, i ≤ ops.size → ∀ j c, (j, c) ∈ A i ↔ (j < i ∧ c = (M j).next ∧ ∃ x, Amk P ops T j x)
 | 0, _, j, c => by
  rw [C.a0]
  simp
 | i + 1, hi, j, c => by
  have ih := asSpec i (by omega) j c
  have h1 : ops[i]? = some ops[i] := Array.getElem?_eq_getElem hi
  obtain ⟨inf, hinf, _, hs⟩ := C.step h1
  have keep : (∀ x, ¬ Amk P ops T i x) → ((j < i ∧ c = (M j).next ∧ ∃ x, Amk P ops T j x) ↔ (j < i + 1 ∧ c = (M j).next ∧ ∃ x, Amk P ops T j x)) := by
   intro hno
   constructor
   ·rintro ⟨a, b⟩
    exact ⟨by omega, b⟩
   rintro ⟨a, b, x, hx⟩
   refine ⟨?_, b, x, hx⟩
   have : j ≠ i := fun e => hno x (e ▸ hx)
   omega
  have kind : ∀ {k : Cls}, k ≠ .a → cls P ops[i].op = k → ∀ x, ¬ Amk P ops T i x := by
   rintro k hk hcl x ⟨o, f, e1, _, e3, _⟩
   rw [h1] at e1
   cases e1
   exact hk (hcl.symm.trans e3)
  generalize M (i + 1) = m' at hs
  generalize T (i + 1) = t' at hs
  generalize L i = lg at hs
  generalize R i = rd at hs
  generalize hA : A (i + 1) = as' at hs ⊢
  cases hs with
  | skip hw =>
   rw [ih]
   refine keep ?_
   rintro x ⟨o, f, e1, e2, _⟩
   rw [h1] at e1
   cases e1
   rw [hw] at e2
   cases e2
  | pure hw hc h => rw [ih]; exact keep (kind (by simp) hc)
  | imm hw hc h => rw [ih]; exact keep (kind (by simp) hc)
  | full hw hc h hv hf hsn => rw [ih]; exact keep (kind (by simp) hc)
  | read hw hc h hv hb => rw [ih]; exact keep (kind (by simp) hc)
  | call hw hc hk hp h => rw [ih]; exact keep (kind (by simp) hc)
  | make hw hc h =>
   have hA : Amk P ops T i _ := ⟨_, _, h1, hw, hc, h⟩
   rw [List.mem_cons, Prod.mk.injEq, hinf.num, ih]
   constructor
   ·rintro (⟨rfl, rfl⟩ | ⟨a, b⟩)
    ·exact ⟨by omega, rfl, _, hA⟩
    exact ⟨by omega, b⟩
   rintro ⟨a, b, x, hx⟩
   by_cases e : j = i
   ·subst e
    exact .inl ⟨rfl, b⟩
   exact .inr ⟨by omega, b, x, hx⟩
theorem unlogged (hi : i < ops.size) (hb : b < base) (hl : b ∉ L i) : (M (i + 1)).heap.get b = (M i).heap.get b := by
 by_cases hh : Hst P ops T i
 ·obtain ⟨o, h1, h2, h3⟩ := hh
  have hnx : base ≤ (M i).next := by rw [C.low]; exact C.nextLe (Nat.zero_le _) (by omega)
  obtain ⟨inf, _, _, hs⟩ := C.step h1
  generalize M (i + 1) = m' at hs ⊢
  generalize T (i + 1) = t' at hs
  generalize L i = lg at hs hl
  generalize R i = rd at hs
  generalize A (i + 1) = as' at hs
  cases hs with
  | skip hw => rfl
  | pure hw hc h => rfl
  | imm hw hc h => rfl
  | full hw hc h hv hf hsn => rfl
  | read hw hc h hv hb => rfl
  | make hw hc h => rw [h3] at hc; cases hc
  | call hw hc hk hp h =>
   have hout : ∀ j, (j, b) ∈ A i → inf.pre.testBit j = true := fun j hj => by
    have := ((C.asSpec i (by omega) j b).1 hj).2.1
    have := C.nextLe (Nat.zero_le j) (by have := ((C.asSpec i (by omega) j b).1 hj).1; omega)
    rw [← C.low] at this
    omega
   show (showB inf.pre (M i).heap (A i) _).get b = _
   rw [show_out hout]
   have := (doOp_mono C.mono h).same hnx b hb hl
   refine Eq.trans this ?_
   exact hide_out hout
 refine C.keeps hi hh fun x hx => ?_
 have : base ≤ (M i).next := by rw [C.low]; exact C.nextLe (Nat.zero_le _) (by omega)
 omega
theorem seg {b p : Nat} : ∀ (d : Nat), p + d ≤ ops.size → (∀ j, p ≤ j → j < p + d → ¬ Hst P ops T j) → (∀ j x, p ≤ j → j < p + d → Amk P ops T j x → b ≠ (M j).next) → (M (p + d)).heap.get b = (M p).heap.get b
 | 0, _, _, _ => rfl
 | d + 1, hd, hh, ha => by
  rw [← seg d (by omega) (fun j h1 h2 => hh j h1 (by omega)) (fun j x h1 h2 => ha j x h1 (by omega))]
  exact C.keeps (i := p + d) (by omega) (hh (p + d) (by omega) (by omega)) fun x hx => ha (p + d) x (by omega) (by omega) hx
theorem segLog {b p : Nat} (hb : b < base) : ∀ (d : Nat), p + d ≤ ops.size → (∀ j, p ≤ j → j < p + d → b ∉ L j) → (M (p + d)).heap.get b = (M p).heap.get b
 | 0, _, _ => rfl
 | d + 1, hd, hh => by
  rw [← segLog hb d (by omega) (fun j h1 h2 => hh j h1 (by omega))]
  exact C.unlogged (i := p + d) (by omega) hb (hh (p + d) (by omega) (by omega))
theorem segSame {r : Rd} {p : Nat} (hb : r.1 < base) (h0 : ((M p).heap.get r.1).bind r.2.1 = some r.2.2) : ∀ (d : Nat), p + d ≤ ops.size → (∀ j, p ≤ j → j < p + d → r.1 ∉ L j ∨ sameR (M (j + 1)).heap r = true) → ((M (p + d)).heap.get r.1).bind r.2.1 = some r.2.2
 | 0, _, _ => h0
 | d + 1, hd, h => by
  have ih := segSame hb h0 d (by omega) fun j h1 h2 => h j h1 (by omega)
  rcases h (p + d) (by omega) (by omega) with k | k
  ·rw [show p + (d + 1) = (p + d) + 1 by omega, C.unlogged (by omega) hb k]
   exact ih
  exact sameR_eq k
theorem apartIds (h : Amk P ops T i x) (k : Amk P ops T j y) (e : (M i).next = (M j).next) : i = j := by
 rcases Nat.lt_trichotomy i j with hl | he | hl
 ·have h1 := (C.made h).2.1
  have := C.nextLe (i := i + 1) (j := j) hl (Nat.le_of_lt k.lt)
  omega
 ·exact he
 have h1 := (C.made k).2.1
 have := C.nextLe (i := j + 1) (j := i) hl (Nat.le_of_lt h.lt)
 omega
theorem segMade (hd : p + d ≤ ops.size) (hh : ∀ j, p ≤ j → j < p + d → ¬ Hst P ops T j) (h1 : p ≤ j) (h2 : j < p + d) (h : Amk P ops T j x) : (M (p + d)).heap.get (M j).next = some x := by
 have := C.seg (b := (M j).next) (p := j + 1) (p + d - (j + 1)) (by omega) (fun i a b => hh i (by omega) (by omega)) (fun i y a b hy e => by
  have := C.apartIds h hy e
  omega)
 rw [show j + 1 + (p + d - (j + 1)) = p + d by omega] at this
 rw [this]
 exact (C.made h).1
end Ctx
end
end Go.Ab
namespace Go.Ab
variable [Vals]
def keepT (ts : Tr Value) : List Operand → Tr Value
 | [] => .lf
 | .tmp t :: xs => (keepT ts xs).set t (ts.get t)
 | _ :: xs => keepT ts xs
theorem keepT_in (ts : Tr Value) : ∀ {xs : List Operand} {t : Tmp}, Operand.tmp t ∈ xs → (keepT ts xs).get t = ts.get t
 | [], _, h => by cases h
 | x :: xs, t, h => by
  cases x with
  | tmp u =>
   simp only [keepT, Tr.get_set]
   by_cases e : t = u
   ·subst e; simp
   rw [if_neg e]
   cases h with
   | head => exact absurd rfl e
   | tail _ h => exact keepT_in ts h
  | _ =>
   simp only [keepT]
   cases h with
   | tail _ h => exact keepT_in ts h
theorem keepT_out (ts : Tr Value) : ∀ {xs : List Operand} {t : Tmp}, Operand.tmp t ∉ xs → (keepT ts xs).get t = none
 | [], _, _ => rfl
 | x :: xs, t, h => by
  simp only [List.mem_cons, not_or] at h
  cases x with
  | tmp u =>
   simp only [keepT, Tr.get_set]
   have e : t ≠ u := fun e => h.1 (by rw [e])
   rw [if_neg e]
   exact keepT_out ts h.2
  | const _ => simp only [keepT]; exact keepT_out ts h.2
  | global _ => simp only [keepT]; exact keepT_out ts h.2
  | func _ => simp only [keepT]; exact keepT_out ts h.2
section
variable {P : Program} [FactsOk P] {ρ ρ' : Ren} {m m' : AW} {w w' : World} {ts : Tr Value} {slf : Self}
open Classical in
noncomputable def keepE (a : Act) (xs : List Operand) (x : Operand) : Value :=
 match x with
 | .tmp t => if Operand.tmp t ∈ xs then a.eval (.tmp t) else undef
 | x => a.eval x
theorem keepE_in (h : x ∈ xs) : keepE a xs x = a.eval x := by
 cases x <;> simp [keepE]
 intro h2
 exact absurd h h2
theorem keep_rel (hg : ∀ g, g < P.globals.size → ∃ c, ρ g = some ⟨g, 0, c⟩) (hl : ∀ t, t < dIx → Operand.tmp t ∈ xs → VRel ρ ((ts.get t).getD undef) (a.tmps.getD t undef)) : ERel P ρ (keepT ts xs) (keepE a xs) := by
 intro x v hx
 cases x with
 | tmp t =>
  simp only [ev] at hx
  obtain ⟨hlt, hx⟩ := bif_some hx
  rw [nblt, decide_eq_true_eq] at hlt
  cases hx
  by_cases h : Operand.tmp t ∈ xs
  ·rw [keepT_in ts h, keepE_in h]
   exact hl t hlt h
  rw [keepT_out ts h]
  simp only [keepE, if_neg h]
  exact undef_rel ρ
 | const c =>
  simp only [ev] at hx
  obtain ⟨hgr, hx⟩ := bif_some hx
  cases hx
  exact ground_rel ρ _ hgr
 | global g =>
  simp only [ev] at hx
  obtain ⟨hlt, hx⟩ := bif_some hx
  simp only [nblt, decide_eq_true_eq] at hlt
  cases hx
  obtain ⟨c, hc⟩ := hg g hlt
  exact .ptr hc
 | func f =>
  simp only [ev, Option.some.injEq] at hx
  subst hx
  exact .func .nil .nil
theorem keep_ev (h : x ∈ xs) : ev P ts x = ev P (keepT ts xs) x := by
 cases x with
 | tmp t =>
  simp only [ev]
  rw [keepT_in ts h]
 | _ => rfl
theorem wanted_at (ops : Array Oper) (o : Oper) (hsz : tmps.size ≤ dIx) (h : ∀ g want t, t < dIx → o.guard = some (g, want) → (ops[g]?).bind (·.dst) = some t → VRel ρ ((ts.get t).getD undef) (tmps.getD t undef)) : wantedA ops ts o = Region.wanted o (yielded ops tmps) := by
 unfold wantedA Region.wanted
 cases hg : o.guard with
 | none => rfl
 | some jw =>
  obtain ⟨j, want⟩ := jw
  simp only [yielded]
  cases hd : (ops[j]?).bind (·.dst) with
  | none => simp
  | some t =>
   simp only [Option.bind_some]
   cases hb : Nat.blt t dIx with
   | true =>
    rw [nblt, decide_eq_true_eq] at hb
    have h2 := h j want t hb hg hd
    rw [Array.getD_eq_getD_getElem?] at h2
    exact guard_rel h2 want
   | false =>
    have : ¬ t < dIx := fun hlt => by
     have : Nat.blt t dIx = true := by rw [nblt]; simpa using hlt
     rw [this] at hb
     cases hb
    have : tmps[t]? = none := Array.getElem?_eq_none (Nat.le_trans hsz (Nat.le_of_not_lt this))
    rw [this]
    rfl
theorem Grow.glue (g : Grow ρ0 ρ m0 mS w0 w) (k : Grow ρ ρ' mA mB w w') (hA : ∀ b o, mA.heap.get b = some o → mS.heap.get b = some o) (hlo : m0.next ≤ mA.next) (hhi : mB.next ≤ mS.next) (hn : mT.next = mS.next)
  (own : ∀ B, Own ρ' mT B → Own ρ' mB B ∨ Own ρ mS B) (occ : ∀ B, Occ ρ' mT B → Occ ρ' mB B ∨ Occ ρ mS B) : Grow ρ0 ρ' m0 mT w0 w' where
 le := g.le.trans k.le
 only := fun i hi => by
  rw [hn] at hi
  rw [k.only i (by omega), g.only i hi]
 rest := g.rest.trans k.rest
 size := Nat.le_trans g.size k.size
 keep := fun B hB hno => by
  rw [k.keep B (Nat.lt_of_lt_of_le hB g.size) ?_, g.keep B hB hno]
  rintro ⟨b, o, s, h1, h2, h3, h4⟩
  rcases g.own B ⟨b, o, s, hA _ _ h1, h2, h3, h4⟩ with h5 | h5
  ·exact hno h5
  omega
 own := fun B hB => by
  have up : Own ρ mS B → Own ρ0 m0 B ∨ w0.heap.size ≤ B := g.own B
  rcases own B hB with h | h
  ·rcases k.own B h with ⟨b, o, s, h1, h2⟩ | h1
   ·exact up ⟨b, o, s, hA _ _ h1, h2⟩
   exact .inr (Nat.le_trans g.size h1)
  exact up h
 next := by rw [hn]; exact g.next
 occ := fun B hB => by
  rcases occ B hB with h | h
  ·rcases k.occ B h with ⟨b, o, s, h1, h2⟩ | h1
   ·exact g.occ B ⟨b, o, s, hA _ _ h1, h2⟩
   exact .inr (Nat.le_trans g.size h1)
  exact g.occ B h
theorem Grow.of_get (h : Grow ρ ρ' m m' w w') (hh : ∀ b o, m2.heap.get b = some o → m'.heap.get b = some o) (hn : m2.next = m'.next) : Grow ρ ρ' m m2 w w' :=
 ⟨h.le, fun i hi => h.only i (by rw [← hn]; exact hi), h.rest, h.size, h.keep, fun B ⟨b, o, s, h1, h2⟩ => h.own B ⟨b, o, s, hh _ _ h1, h2⟩, by rw [hn]; exact h.next, fun B ⟨b, o, s, h1, h2⟩ => h.occ B ⟨b, o, s, hh _ _ h1, h2⟩⟩
end
section
variable {P : Program} [FactsOk P] {slf : Self} {n base lo : Nat} {ops : Array Oper} {T : Nat → Tr Value} {M : Nat → AW} {L : Nat → List Nat} {R : Nat → Option Rd} {A : Nat → List (Nat × Nat)}
theorem DStep.put (h : DStep P slf n ops base lo o inf ts m as ts' m' lg rd as') : ∃ v, ts' = Ab.put n ts o.dst v := by
 rcases h.does with ⟨_, h, _⟩ | ⟨_, v, _, _, _, _, _, h, _⟩
 ·exact ⟨_, h⟩
 exact ⟨_, h⟩
theorem put_get (h : d ≠ some t ∨ n ≤ t) : (put n ts d v).get t = ts.get t := by
 unfold Ab.put
 cases d with
 | none => rfl
 | some d =>
  simp only
  by_cases hd : d < n
  ·have : Nat.blt d n = true := by rw [nblt]; simpa using hd
   rw [this]
   simp only [cond_true, Tr.get_set]
   rw [if_neg ?_]
   rintro rfl
   rcases h with h | h
   ·exact h rfl
   exact Nat.not_lt.2 h hd
  have : Nat.blt d n = false := by rw [nblt]; simpa using hd
  rw [this]
  rfl
theorem put_same (h : t < n) : (put n ts (some t) v).get t = some v := by
 unfold Ab.put
 have : Nat.blt t n = true := by rw [nblt]; simpa using h
 simp only [this, cond_true, Tr.get_set, if_true]
namespace Ctx
variable (C : Ctx P slf n base lo ops T M L R A)
include C
theorem tmpKeeps {t p : Nat} : ∀ (d : Nat), p + d ≤ ops.size → (n ≤ t ∨ ∀ j o, p ≤ j → j < p + d → ops[j]? = some o → o.dst ≠ some t) → (T (p + d)).get t = (T p).get t
 | 0, _, _ => rfl
 | d + 1, hd, h => by
  rw [← tmpKeeps d (by omega) (h.imp id fun h j o h1 h2 => h j o h1 (by omega))]
  have ho : ops[p + d]? = some ops[p + d] := Array.getElem?_eq_getElem (by omega)
  obtain ⟨inf, _, _, hs⟩ := C.step ho
  obtain ⟨v, hv⟩ := hs.put
  rw [show p + (d + 1) = p + d + 1 by omega, hv]
  refine put_get (h.symm.imp (fun h => h (p + d) _ (by omega) (by omega) ho) id)
end Ctx
end
end Go.Ab
namespace Go.Ab
variable [Vals]
section
variable {P : Program} [FactsOk P] {slf : Self} {n base lo : Nat} {ops : Array Oper} {T : Nat → Tr Value} {M : Nat → AW} {L : Nat → List Nat} {R : Nat → Option Rd} {A : Nat → List (Nat × Nat)}
structure Inv (P : Program) (n : Nat) (ops : Array Oper) (T : Nat → Tr Value) (M : Nat → AW) (ρ0 : Ren) (w0 : World) (ds : List Deferred) (S : Nat → Prop) (H : Nat) (mS : AW) (ρ : Ren) (w : World) (a : Act) : Prop where
 closed : ∀ i j, S i → (preAt ops i).testBit j = true → S j
 hle : H ≤ ops.size
 hst : ∀ j, Hst P ops T j → (S j ↔ j < H)
 late : ∀ j x, j < H → Amk P ops T j x → ¬ S j → mS.heap.get (M j).next = none ∧ (M H).heap.get (M j).next = some x
 rel : Rel P ρ mS w
 nx : mS.next = (M ops.size).next
 extra : ∀ j x, H ≤ j → Amk P ops T j x → S j → mS.heap.get (M j).next = some x
 rest : ∀ b, (∀ j x, Amk P ops T j x → (H ≤ j ∧ S j) ∨ (j < H ∧ ¬ S j) → b ≠ (M j).next) → mS.heap.get b = (M H).heap.get b
 free : ∀ j b, j < ops.size → ¬ S j → (M j).next ≤ b → b < (M (j + 1)).next → ρ b = none
 size : a.tmps.size = n
 nle : n ≤ dIx
 tmp : ∀ t, t < dIx → (t < n ∧ ∃ j o, ops[j]? = some o ∧ ¬ S j ∧ o.dst = some t) ∨ VRel ρ (((T ops.size).get t).getD undef) (a.tmps.getD t undef)
 tmp0 : ∀ t, t < dIx → (∀ j o, S j → ops[j]? = some o → o.dst ≠ some t) → VRel ρ (((T 0).get t).getD undef) (a.tmps.getD t undef)
 grow : Grow ρ0 ρ (M 0) mS w0 w
 defers : a.defers = ds
theorem act_put_get (a : Act) (d : Option Tmp) (v : Value) (t : Tmp) : (a.put d v).tmps.getD t undef = if d = some t ∧ t < a.tmps.size then v else a.tmps.getD t undef := by
 cases d with
 | none => simp [Act.put]
 | some d =>
  simp only [Act.put]
  by_cases hd : d = t
  ·subst hd
   by_cases hs : d < a.tmps.size
   ·rw [if_pos ⟨rfl, hs⟩, Array.getD_eq_getD_getElem?, Array.getElem?_setIfInBounds_self_of_lt hs]
    rfl
   rw [if_neg (fun h => hs h.2), Array.setIfInBounds_eq_of_size_le (Nat.le_of_not_lt hs)]
  rw [if_neg (fun h => hd (Option.some.inj h.1)), Array.getD_eq_getD_getElem?, Array.getElem?_setIfInBounds_ne hd, ← Array.getD_eq_getD_getElem?]
theorem act_put_size (a : Act) (d : Option Tmp) (v : Value) : (a.put d v).tmps.size = a.tmps.size := by
 cases d <;> simp [Act.put]
section
variable (C : Ctx P slf n base lo ops T M L R A) {ρ0 ρ ρ' : Ren} {w0 w w' : World} {ds : List Deferred} {S : Nat → Prop} {H : Nat} {mS mA m1 : AW} {a : Act} (I : Inv P n ops T M ρ0 w0 ds S H mS ρ w a)
 {i : Nat} {o : Oper} (ho : ops[i]? = some o)
include C I ho
theorem Inv.looked (hns : ¬ S i) (hrdy : ∀ j, (preAt ops i).testBit j = true → S j) (htd : t < dIx) (h : ∀ j oj, ops[j]? = some oj → oj.dst = some t → (preAt ops i).testBit j = true ∨ (preAt ops j).testBit i = true) : VRel ρ (((T i).get t).getD undef) (a.tmps.getD t undef) := by
 have hi : i < ops.size := (Array.getElem?_eq_some_iff.1 ho).1
 by_cases hlate : ∃ j oj, ops[j]? = some oj ∧ oj.dst = some t ∧ (preAt ops j).testBit i = true
 ·obtain ⟨j, oj, hj, hd, hb⟩ := hlate
  have hjl : j < ops.size := (Array.getElem?_eq_some_iff.1 hj).1
  have hij := C.tm.below j i hjl hb
  have hone : ∀ l ol, ops[l]? = some ol → ol.dst = some t → l = j := fun l ol hl hdl => C.tm.one l j ol oj t hl hj hdl hd
  have h0 := I.tmp0 t htd fun l ol hS hl hdl => by
   have := hone l ol hl hdl
   subst this
   exact hns (I.closed l i hS hb)
  have := C.tmpKeeps (t := t) (p := 0) i (by omega) (.inr fun l ol _ h2 hl hdl => by
   have := hone l ol hl hdl
   omega)
  rw [Nat.zero_add] at this
  rw [this]
  exact h0
 have h : ∀ j oj, ops[j]? = some oj → oj.dst = some t → (preAt ops i).testBit j = true := fun j oj hj hd => (h j oj hj hd).resolve_right fun hb => hlate ⟨j, oj, hj, hd, hb⟩
 rcases I.tmp t htd with ⟨_, j, oj, hj, hns, hd⟩ | h1
 ·exact absurd (hrdy j (h j oj hj hd)) hns
 have := C.tmpKeeps (t := t) (p := i) (ops.size - i) (by omega) (.inr fun j oj h2 h3 hj hd => by
  have := C.tm.below i j hi (h j oj hj hd)
  omega)
 rw [show i + (ops.size - i) = ops.size by omega] at this
 rw [← this]
 exact h1
theorem Inv.wants (hns : ¬ S i) (hrdy : ∀ j, (preAt ops i).testBit j = true → S j) : wantedA ops (T i) o = Region.wanted o (yielded ops a.tmps) := by
 refine wanted_at (ρ := ρ) ops o (by rw [I.size]; exact I.nle) fun g want t htd hg hd => I.looked C ho hns hrdy htd fun j oj hj hdj => ?_
 obtain ⟨og, hog, hdg⟩ := Option.bind_eq_some_iff.1 hd
 have := C.tm.one g j og oj t hog hj hdg hdj
 subst this
 exact .inl (C.tm.guards i g want o og t ho hg hog hdg)
theorem Inv.run (hns : ¬ S i) (hrdy : ∀ j, (preAt ops i).testBit j = true → S j) (hw : wantedA ops (T i) o = true) (h : doOp P slf (T i) o.op mA = some (.val v m1)) (hr : Rel P ρ mA w) (hf : Fresh ρ mA m1) {rest : List Nat} :
  ∃ ρ' w' v', Steps P (lone (on b a (.inRegion ops (i :: rest) :: k)) cs w) (lone (on b (a.put o.dst v') (.inRegion ops rest :: k)) cs w') ∧ Rel P ρ' m1 w' ∧ Grow ρ ρ' mA m1 w w' ∧ VRel ρ' v v' := by
 have hE : ERel P ρ (keepT (T i) o.op.operands.toList) (keepE a o.op.operands.toList) := keep_rel hr.glob fun t htd ht => by
  refine I.looked C ho hns hrdy htd fun j oj hj hd => C.tm.looks i j o oj t ho hj hd (opsOf_mem h (by simpa using ht))
 have hsel : ∀ cs b, o.op ≠ .select cs b := by
  intro cs b e
  rw [e] at h
  simp [doOp, cls, opH] at h
 have hx : execOp a.eval o = execOp (keepE a o.op.operands.toList) o := execOp_congr o hsel fun x hx => (keepE_in (by simpa using hx)).symm
 rw [doOp_congr (ts2 := keepT (T i) o.op.operands.toList) fun x hx => keep_ev (by simpa using hx)] at h
 exact op_follows (b := b) (k := k) (cs := cs) (rest := rest) C.sound ho (by rw [← I.wants C ho hns hrdy]; exact hw) hx hE hr h hf
theorem Inv.tmps_step (hns : ¬ S i) (hT : T (i + 1) = put n (T i) o.dst v) (hle : ρ.le ρ') (hv : VRel ρ' v v') (t : Tmp) (htd : t < dIx) :
  (t < n ∧ ∃ j oj, ops[j]? = some oj ∧ ¬ (S j ∨ j = i) ∧ oj.dst = some t) ∨ VRel ρ' (((T ops.size).get t).getD undef) ((a.put o.dst v').tmps.getD t undef) := by
 have hi : i < ops.size := (Array.getElem?_eq_some_iff.1 ho).1
 rw [act_put_get]
 by_cases h : o.dst = some t ∧ t < a.tmps.size
 ·rw [if_pos h]
  have hk := C.tmpKeeps (t := t) (p := i + 1) (ops.size - (i + 1)) (by omega) (.inr fun j oj h2 h3 hj hd => by
   have := C.tm.one i j o oj t ho hj h.1 hd
   omega)
  rw [show i + 1 + (ops.size - (i + 1)) = ops.size by omega, hT, h.1, put_same (by rw [← I.size]; exact h.2)] at hk
  rw [hk]
  exact .inr hv
 rw [if_neg h]
 rcases I.tmp t htd with ⟨h1, j, oj, hj, hnj, hd⟩ | h1
 ·refine .inl ⟨h1, j, oj, hj, ?_, hd⟩
  rintro (h2 | rfl)
  ·exact hnj h2
  rw [ho] at hj
  cases hj
  exact h ⟨hd, by rw [I.size]; exact h1⟩
 exact .inr (h1.mono hle)
theorem Inv.tmp0_step (hle : ρ.le ρ') (t : Tmp) (htd : t < dIx) (h : ∀ j oj, (S j ∨ j = i) → ops[j]? = some oj → oj.dst ≠ some t) : VRel ρ' (((T 0).get t).getD undef) ((a.put o.dst v').tmps.getD t undef) := by
 have _ := C
 rw [act_put_get, if_neg fun e => h i o (.inr rfl) ho e.1]
 exact (I.tmp0 t htd fun j oj hS => h j oj (.inl hS)).mono hle
theorem Inv.still (hns : ¬ S i) (hrdy : ∀ j, (preAt ops i).testBit j = true → S j) (hT : T (i + 1) = put n (T i) o.dst v) (hr : Rel P ρ' mS w') (hg : Grow ρ ρ' mS mS w w') (hv : VRel ρ' v v') (hh : ¬ Hst P ops T i) (ha : ∀ x, ¬ Amk P ops T i x) :
  Inv P n ops T M ρ0 w0 ds (fun j => S j ∨ j = i) H mS ρ' w' (a.put o.dst v') where
 closed := fun j l hj hb => by
  rcases hj with hj | rfl
  ·exact .inl (I.closed j l hj hb)
  exact .inl (hrdy l hb)
 hle := I.hle
 hst := fun j hj => by
  rw [← I.hst j hj]
  exact ⟨fun h => h.resolve_right fun e => hh (e ▸ hj), .inl⟩
 late := fun j x h1 h2 h3 => I.late j x h1 h2 fun h => h3 (.inl h)
 rel := hr
 nx := I.nx
 extra := fun j x h1 h2 h3 => I.extra j x h1 h2 (h3.resolve_right fun e => ha x (e ▸ h2))
 rest := fun b hb => I.rest b fun j x h1 h2 => hb j x h1 (h2.imp (fun h => ⟨h.1, .inl h.2⟩) fun h => ⟨h.1, fun h3 => h3.elim h.2 fun e => ha x (e ▸ h1)⟩)
 free := fun j b h1 h2 h3 h4 => by
  rw [hg.only b (Nat.lt_or_ge _ _)]
  exact I.free j b h1 (fun h => h2 (.inl h)) h3 h4
 size := by rw [act_put_size]; exact I.size
 nle := I.nle
 tmp := I.tmps_step C ho hns hT hg.le hv
 tmp0 := I.tmp0_step C ho hg.le
 grow := I.grow.glue hg (fun _ _ h => h) (by rw [I.nx]; exact C.nextLe (Nat.zero_le _) (Nat.le_refl _)) (Nat.le_refl _) rfl (fun _ h => .inl h) (fun _ h => .inl h)
 defers := by rw [Act.put_defers']; exact I.defers
end
end
end Go.Ab
namespace Go.Ab
variable [Vals]
theorem add_blocks (h : Tr AObj) (A : Nat → Option AObj → Prop) (id : Nat → Nat) (hu : ∀ j x y, A j x → A j y → x = y) (hj : ∀ i j x y, A i x → A j y → id i = id j → i = j) :
  ∀ N : Nat, ∃ h' : Tr AObj, (∀ j x, j < N → A j x → h'.get (id j) = x) ∧ (∀ b, (∀ j x, j < N → A j x → b ≠ id j) → h'.get b = h.get b)
 | 0 => ⟨h, fun j x hl => by omega, fun _ _ => rfl⟩
 | N + 1 => by
  obtain ⟨h', q1, q2⟩ := add_blocks h A id hu hj N
  by_cases e : ∃ x, A N x
  ·obtain ⟨x, hx⟩ := e
   refine ⟨h'.set (id N) x, fun j y hl hy => ?_, fun b hb => ?_⟩
   ·rw [Tr.get_set]
    by_cases e : id j = id N
    ·have := hj _ _ _ _ hy hx e
     subst this
     rw [if_pos rfl, hu _ _ _ hx hy]
    rw [if_neg e]
    refine q1 j y ?_ hy
    have : j ≠ N := fun e2 => e (by rw [e2])
    omega
   rw [Tr.get_set, if_neg (hb N x (by omega) hx)]
   exact q2 b fun j y hl hy => hb j y (by omega) hy
  refine ⟨h', fun j y hl hy => ?_, fun b hb => q2 b fun j y hl hy => hb j y (by omega) hy⟩
  refine q1 j y ?_ hy
  have : j ≠ N := fun e2 => e ⟨y, e2 ▸ hy⟩
  omega
section
variable {P : Program} [FactsOk P] {slf : Self} {n base lo : Nat} {ops : Array Oper} {T : Nat → Tr Value} {M : Nat → AW} {L : Nat → List Nat} {R : Nat → Option Rd} {A : Nat → List (Nat × Nat)}
theorem Amk.plain (h : Amk P ops T i x) (hE : ERel P ρ (T i) e) : mateOf x = none ∧ isRo x = false := by
 obtain ⟨o, f, h1, h2, h3, h4⟩ := h
 obtain ⟨s, _, q1, q2, _⟩ := opA_rel hE h4
 exact ⟨q1, q2⟩
namespace Ctx
variable (C : Ctx P slf n base lo ops T M L R A)
include C
theorem logNil (hj : j < ops.size) (hh : ¬ Hst P ops T j) : L j = [] := by
 have h1 : ops[j]? = some ops[j] := Array.getElem?_eq_getElem hj
 obtain ⟨inf, _, _, hs⟩ := C.step h1
 generalize M (j + 1) = m' at hs
 generalize T (j + 1) = t' at hs
 generalize hl : L j = lg at hs
 generalize R j = rd at hs
 generalize A (j + 1) = as' at hs
 cases hs with
 | call hw hc hk hp h => exact absurd ⟨_, h1, hw, hc⟩ hh
 | _ => rfl
theorem idBelow (h : Amk P ops T j x) : (M j).next < (M ops.size).next := by
 have h1 := (C.made h).2.1
 have := C.nextLe (i := j + 1) (j := ops.size) h.lt (Nat.le_refl _)
 omega
theorem notYet (h : Amk P ops T j x) (hp : p ≤ j) : (M p).heap.get (M j).next = none :=
 C.nj p _ (by have := h.lt; omega) (C.nextLe hp (Nat.le_of_lt h.lt)) (C.idBelow h)
variable {ρ0 ρ ρ' : Ren} {w0 w w' : World} {ds : List Deferred} {S : Nat → Prop} {H : Nat} {mS mA m1 : AW} {a : Act} (I : Inv P n ops T M ρ0 w0 ds S H mS ρ w a)
 {i : Nat} {o : Oper} (ho : ops[i]? = some o) (hns : ¬ S i) (hrdy : ∀ j, (preAt ops i).testBit j = true → S j)
include I ho hns hrdy
theorem sees (hno : ∀ j, H ≤ j → j < i → ¬ Hst P ops T j) (hno2 : ∀ j, i ≤ j → j < H → ¬ Hst P ops T j) (hb : (M i).heap.get b = some x) (hall : ∀ j y, j < i → Amk P ops T j y → b = (M j).next → S j) : mS.heap.get b = some x := by
 have hi : i < ops.size := (Array.getElem?_eq_some_iff.1 ho).1
 have hH := I.hle
 rcases Nat.le_total H i with hle | hle
 ·have hseg : i = H + (i - H) := by omega
  by_cases hx : ∃ j y, H ≤ j ∧ Amk P ops T j y ∧ S j ∧ b = (M j).next
  ·obtain ⟨j, y, h1, h2, h3, rfl⟩ := hx
   rcases Nat.lt_or_ge j i with hji | hji
   ·have := C.segMade (p := H) (d := i - H) (j := j) (x := y) (by omega) (fun j a b => hno j a (by omega)) h1 (by omega) h2
    rw [← hseg, hb] at this
    rw [I.extra j y h1 h2 h3]
    exact this.symm
   rw [C.notYet h2 hji] at hb
   cases hb
  rw [I.rest b fun j y h1 h2 e => by
   rcases h2 with h2 | h2
   ·exact hx ⟨j, y, h2.1, h1, h2.2, e⟩
   exact h2.2 (hall j y (by omega) h1 e)]
  have := C.seg (b := b) (p := H) (i - H) (by omega) (fun j a b => hno j a (by omega)) (fun j y a b2 hy e => hx ⟨j, y, a, hy, hall j y (by omega) hy e, e⟩)
  rw [← hseg] at this
  rw [← this]
  exact hb
 have hseg : H = i + (H - i) := by omega
 rw [I.rest b fun j y h1 h2 e => by
  rcases h2 with h2 | h2
  ·rw [e, C.notYet h1 (by omega)] at hb
   cases hb
  rcases Nat.lt_or_ge j i with hji | hji
  ·exact h2.2 (hall j y hji h1 e)
  rw [e, C.notYet h1 hji] at hb
  cases hb]
 have := C.seg (b := b) (p := i) (H - i) (by omega) (fun j a b => hno2 j a (by omega)) (fun j y a b2 hy e => by
  rw [e, C.notYet hy a] at hb
  cases hb)
 rw [← hseg] at this
 rw [this]
 exact hb
theorem sees_full (_hc : cls P o.op = .l) (hi : InfoOk P ops i o inf) (hf : inf.full = true) (hsn : seenB inf.pre b (A i) = true) (hb : (M i).heap.get b = some x) : mS.heap.get b = some x := by
 have hlt : i < ops.size := (Array.getElem?_eq_some_iff.1 ho).1
 have hH := I.hle
 refine C.sees I ho hns hrdy (fun j h1 h2 hh => ?_) (fun j h1 h2 hh => ?_) hb (fun j y h1 hy he => ?_)
 ·obtain ⟨oj, q1, q2, q3⟩ := hh
  rcases hi.fullOk hf j oj q1 q3 with h | h | h
  ·omega
  ·have := (I.hst j ⟨oj, q1, q2, q3⟩).1 (hrdy j h)
   omega
  have := C.tm.below j i (by omega) h
  omega
 ·obtain ⟨oj, q1, q2, q3⟩ := hh
  have hSj := (I.hst j ⟨oj, q1, q2, q3⟩).2 h2
  rcases hi.fullOk hf j oj q1 q3 with h | h | h
  ·exact hns (h ▸ hSj)
  ·have := C.tm.below i j hlt h
   omega
  exact hns (I.closed j i hSj h)
 have := seen_spec hsn ((C.asSpec i (Nat.le_of_lt hlt) j b).2 ⟨h1, he, y, hy⟩)
 exact hrdy j (by unfold preAt; rw [← hi.prec]; exact this)
theorem sees_low {f : AObj → Option Value} {v : Value} (hc : cls P o.op = .l) (hR : R i = some (b, f, v)) (hb : b < base) (hv : ((M i).heap.get b).bind f = some v) : (mS.heap.get b).bind f = some v := by
 have hlt : i < ops.size := (Array.getElem?_eq_some_iff.1 ho).1
 have hH := I.hle
 have hold : ∀ j, j ≤ ops.size → b < (M j).next := fun j hj => by
  have := C.nextLe (Nat.zero_le j) hj
  rw [← C.low] at this
  omega
 rw [I.rest b fun j y h1 _ e => by
  have := hold j (Nat.le_of_lt h1.lt)
  omega]
 have log : ∀ j, j < ops.size → (j < i → (preAt ops i).testBit j = false → b ∉ L j) ∧ (i < j → (preAt ops j).testBit i = false → b ∉ L j ∨ sameR (M (j + 1)).heap (b, f, v) = true) := by
  intro j hj
  refine ⟨fun h1 h2 => ?_, fun h1 h2 => ?_⟩
  ·obtain ⟨inf, q1, q2, _⟩ := C.step ho
   exact (C.tr.2 i j o inf (Nat.zero_le _) h1 (by rw [Nat.sub_zero]; exact q2) (by rw [q1.prec]; exact h2)).1 _ hR
  obtain ⟨inf, q1, q2, _⟩ := C.step (Array.getElem?_eq_getElem hj)
  exact (C.tr.2 j i _ inf (Nat.zero_le _) h1 (by rw [Nat.sub_zero]; exact q2) (by rw [q1.prec]; exact h2)).2 _ hR
 rcases Nat.le_total H i with hle | hle
 ·have := C.segLog (b := b) (p := H) hb (i - H) (by omega) (fun j h1 h2 => by
   by_cases hh : Hst P ops T j
   ·cases hp : (preAt ops i).testBit j with
    | true =>
     have := (I.hst j hh).1 (hrdy j hp)
     omega
    | false => exact (log j (by omega)).1 (by omega) hp
   rw [C.logNil (by omega) hh]
   simp)
  rw [show H + (i - H) = i by omega] at this
  rw [← this]
  exact hv
 have := C.segSame (r := (b, f, v)) (p := i) hb hv (H - i) (by omega) (fun j h1 h2 => by
  by_cases hh : Hst P ops T j
  ·by_cases hji : j = i
   ·subst hji
    obtain ⟨oj, q1, _, q3⟩ := hh
    rw [ho] at q1
    cases q1
    rw [hc] at q3
    cases q3
   cases hp : (preAt ops j).testBit i with
   | true => exact absurd (I.closed j i ((I.hst j hh).2 (by omega)) hp) hns
   | false => exact (log j (by omega)).2 (by omega) hp
  rw [C.logNil (by omega) hh]
  exact .inl (by simp))
 rw [show i + (H - i) = H by omega] at this
 exact this
theorem makes (hw : wantedA ops (T i) o = true) (hc : cls P o.op = .a) (h : opA P (T i) o.op = some (x, f)) (hT : T (i + 1) = put n (T i) o.dst (f (M i).next)) :
  ∃ mS' ρ' w' a', Steps P (lone (on b a (.inRegion ops (i :: rest) :: k)) cs w) (lone (on b a' (.inRegion ops rest :: k)) cs w') ∧ Inv P n ops T M ρ0 w0 ds (fun j => S j ∨ j = i) H mS' ρ' w' a' := by
 have hlt : i < ops.size := (Array.getElem?_eq_some_iff.1 ho).1
 have hA : Amk P ops T i x := ⟨o, f, ho, hw, hc, h⟩
 have hnx := (C.made hA).2.1
 have hd : doOp P slf (T i) o.op ⟨mS.heap, (M i).next, lo, []⟩ = some (.val (f (M i).next) ((⟨mS.heap, (M i).next, lo, []⟩ : AW).new x)) := by
  unfold doOp
  rw [hc]
  simp only [doA, h]
 have hrA : Rel P ρ ⟨mS.heap, (M i).next, lo, []⟩ w := I.rel.of_heap rfl rfl
 have hfr : Fresh ρ ⟨mS.heap, (M i).next, lo, []⟩ ((⟨mS.heap, (M i).next, lo, []⟩ : AW).new x) := fun q h1 h2 => I.free i q hlt hns h1 (by rw [hnx]; exact h2)
 obtain ⟨ρ', w', v', q1, q2, q3, q4⟩ := I.run C ho hns hrdy hw hd hrA hfr (b := b) (k := k) (cs := cs) (rest := rest)
 have hget : ∀ c, ((⟨mS.heap, (M i).next, lo, []⟩ : AW).new x).heap.get c = if c = (M i).next then some x else mS.heap.get c := fun c => AW.new_get _ _ _
 have hcls : ¬ Hst P ops T i := by
  rintro ⟨oj, e1, _, e3⟩
  rw [ho] at e1
  cases e1
  rw [hc] at e3
  cases e3
 refine ⟨⟨((⟨mS.heap, (M i).next, lo, []⟩ : AW).new x).heap, mS.next, lo, []⟩, ρ', w', a.put o.dst v', q1, ?_⟩
 refine { closed := ?_, hle := I.hle, hst := ?_, late := ?_, rel := q2.of_heap rfl rfl, nx := I.nx, extra := ?_, rest := ?_, free := ?_, size := ?_, nle := I.nle, tmp := I.tmps_step C ho hns hT q3.le q4, tmp0 := I.tmp0_step C ho q3.le, grow := ?_, defers := ?_ }
 ·intro j l hj hb
  rcases hj with hj | rfl
  ·exact .inl (I.closed j l hj hb)
  exact .inl (hrdy l hb)
 ·intro j hj
  rw [← I.hst j hj]
  exact ⟨fun h => h.resolve_right fun e => hcls (e ▸ hj), .inl⟩
 ·intro j y h1 h2 h3
  have e : j ≠ i := fun e => h3 (.inr e)
  show (AW.new _ x).heap.get _ = none ∧ _
  rw [hget, if_neg fun e2 => e (C.apartIds h2 hA e2)]
  exact I.late j y h1 h2 fun h => h3 (.inl h)
 ·intro j y h1 h2 h3
  show (AW.new _ x).heap.get _ = _
  rw [hget]
  by_cases e : j = i
  ·subst e
   rw [if_pos rfl, hA.uniq h2]
  rw [if_neg fun e2 => e (C.apartIds h2 hA e2)]
  exact I.extra j y h1 h2 (h3.resolve_right e)
 ·intro c hcc
  show (AW.new _ x).heap.get _ = _
  rw [hget]
  by_cases ec : c = (M i).next
  ·subst ec
   rw [if_pos rfl]
   rcases Nat.lt_or_ge i H with hl | hl
   ·exact (I.late i x hl hA hns).2.symm
   exact absurd rfl (hcc i x hA (.inl ⟨hl, .inr rfl⟩))
  rw [if_neg ec]
  refine I.rest c fun j y h1 h2 => ?_
  by_cases e : j = i
  ·subst e
   exact ec
  exact hcc j y h1 (h2.imp (fun h => ⟨h.1, .inl h.2⟩) fun h => ⟨h.1, fun h3 => h3.elim h.2 e⟩)
 ·intro j c h1 h2 h3 h4
  have hne : j ≠ i := fun e => h2 (.inr e)
  rw [q3.only c ?_]
  ·exact I.free j c h1 (fun h => h2 (.inl h)) h3 h4
  show c < (M i).next ∨ (M i).next + 1 ≤ c
  rcases Nat.lt_or_ge j i with hl | hl
  ·have := C.nextLe (i := j + 1) (j := i) hl (Nat.le_of_lt hlt)
   omega
  have := C.nextLe (i := i + 1) (j := j) (by omega) (Nat.le_of_lt h1)
  omega
 ·rw [act_put_size]; exact I.size
 ·refine I.grow.glue q3 (fun _ _ h => h) (C.nextLe (Nat.zero_le _) (Nat.le_of_lt hlt)) ?_ rfl (fun _ h => .inl h) (fun _ h => .inl h)
  rw [I.nx]
  show (M i).next + 1 ≤ _
  exact C.idBelow hA
 rw [Act.put_defers']; exact I.defers
end Ctx
end
end Go.Ab
namespace Go.Ab
variable [Vals]
section
variable {P : Program} [FactsOk P] {slf : Self} {n base lo : Nat} {ops : Array Oper} {T : Nat → Tr Value} {M : Nat → AW} {L : Nat → List Nat} {R : Nat → Option Rd} {A : Nat → List (Nat × Nat)}
namespace Ctx
variable (C : Ctx P slf n base lo ops T M L R A)
variable {ρ0 ρ ρ' : Ren} {w0 w w' : World} {ds : List Deferred} {S : Nat → Prop} {H : Nat} {mS mA m1 : AW} {a : Act} (I : Inv P n ops T M ρ0 w0 ds S H mS ρ w a)
 {i : Nat} {o : Oper} (ho : ops[i]? = some o) (hns : ¬ S i) (hrdy : ∀ j, (preAt ops i).testBit j = true → S j)
include C I ho hns hrdy
theorem calls (hpl : ∀ j x, Amk P ops T j x → mateOf x = none ∧ isRo x = false) (hi : InfoOk P ops i o inf) (hk : inf.hok = true) (hpB : plainB inf.pre (M i).heap (A i) = true) (hw : wantedA ops (T i) o = true) (hc : cls P o.op = .h)
  (h : doOp P slf (T i) o.op ⟨hideB inf.pre (A i) (M i).heap, (M i).next, base, []⟩ = some (.val v m1))
  (hT : T (i + 1) = put n (T i) o.dst v) (hM1 : (M (i + 1)).heap = showB inf.pre (M i).heap (A i) m1.heap) (hM2 : (M (i + 1)).next = m1.next) :
  ∃ mS' H' ρ' w' a', Steps P (lone (on b a (.inRegion ops (i :: rest) :: k)) cs w) (lone (on b a' (.inRegion ops rest :: k)) cs w') ∧ Inv P n ops T M ρ0 w0 ds (fun j => S j ∨ j = i) H' mS' ρ' w' a' := by
 have hlt : i < ops.size := (Array.getElem?_eq_some_iff.1 ho).1
 have hH : Hst P ops T i := ⟨o, ho, hw, hc⟩
 have hHi : H ≤ i := Nat.le_of_not_lt fun hl => hns ((I.hst i hH).2 hl)
 have hnA : ∀ x, ¬ Amk P ops T i x := by
  rintro x ⟨oj, f, e1, _, e3, _⟩
  rw [ho] at e1
  cases e1
  rw [hc] at e3
  cases e3
 have hnoH : ∀ j, H ≤ j → j < i → ¬ Hst P ops T j := fun j h1 h2 hh => by
  obtain ⟨oj, q1, q2, q3⟩ := hh
  have := (I.hst j ⟨oj, q1, q2, q3⟩).1 (hrdy j (hi.hokOk hk j oj h2 q1 q3))
  omega
 -- what the call does not see
 let hid : Nat → Prop := fun c => ∃ j x, j < i ∧ Amk P ops T j x ∧ c = (M j).next ∧ inf.pre.testBit j = false
 have hidA : ∀ c, hid c → ∃ j, (j, c) ∈ A i ∧ inf.pre.testBit j = false := fun c ⟨j, x, h1, h2, h3, h4⟩ => ⟨j, (C.asSpec i (by omega) j c).2 ⟨h1, h3, x, h2⟩, h4⟩
 have hidB : ∀ c, ¬ hid c → ∀ j, (j, c) ∈ A i → inf.pre.testBit j = true := fun c hn j hj => by
  obtain ⟨h1, h3, x, h2⟩ := (C.asSpec i (by omega) j c).1 hj
  cases hp : inf.pre.testBit j with
  | true => rfl
  | false => exact absurd ⟨j, x, h1, h2, h3, hp⟩ hn
 have hAin : ∀ c, hid c → (hideB inf.pre (A i) (M i).heap).get c = none := fun c hc2 => by
  obtain ⟨j, h1, h2⟩ := hidA c hc2
  exact hide_in h1 h2
 have hAout : ∀ c, ¬ hid c → (hideB inf.pre (A i) (M i).heap).get c = (M i).heap.get c := fun c hc2 => hide_out (hidB c hc2)
 have hMin : ∀ c, hid c → (M (i + 1)).heap.get c = (M i).heap.get c := fun c hc2 => by
  obtain ⟨j, h1, h2⟩ := hidA c hc2
  rw [hM1]
  exact show_in h1 h2
 have hMout : ∀ c, ¬ hid c → (M (i + 1)).heap.get c = m1.heap.get c := fun c hc2 => by
  rw [hM1]
  exact show_out (hidB c hc2)
 have hsub : ∀ c y, (hideB inf.pre (A i) (M i).heap).get c = some y → mS.heap.get c = some y := fun c y hy => by
  by_cases hx : hid c
  ·rw [hAin c hx] at hy
   cases hy
  rw [hAout c hx] at hy
  refine C.sees I ho hns hrdy hnoH (fun j h1 h2 => by omega) hy fun j z h1 h2 h3 => ?_
  cases hp : inf.pre.testBit j with
  | true => exact hrdy j (by unfold preAt; rw [← hi.prec]; exact hp)
  | false => exact absurd ⟨j, z, h1, h2, h3, hp⟩ hx
 -- a block made before that has been made: it lies as in the order of the text
 have hidVal : ∀ j x, j < i → Amk P ops T j x → S j → mS.heap.get (M j).next = (M i).heap.get (M j).next := by
  intro j x h1 h2 h3
  rcases Nat.lt_or_ge j H with hl | hl
  ·rw [I.rest _ fun l y hy hor e => by
    have := C.apartIds h2 hy e
    subst this
    rcases hor with hor | hor
    ·omega
    exact hor.2 h3]
   have := C.seg (b := (M j).next) (p := H) (i - H) (by omega) (fun l a b => hnoH l a (by omega)) (fun l y a b hy e => by
    have := C.apartIds h2 hy e
    omega)
   rw [show H + (i - H) = i by omega] at this
   exact this.symm
  rw [I.extra j x hl h2 h3]
  have := C.segMade (p := H) (d := i - H) (j := j) (x := x) (by omega) (fun l a b => hnoH l a (by omega)) hl (by omega) h2
  rw [show H + (i - H) = i by omega] at this
  exact this.symm
 have hrA : Rel P ρ ⟨hideB inf.pre (A i) (M i).heap, (M i).next, base, []⟩ w := I.rel.sub hsub
 have hfr : Fresh ρ ⟨hideB inf.pre (A i) (M i).heap, (M i).next, base, []⟩ m1 := fun q h1 h2 => I.free i q hlt hns h1 (by rw [hM2]; exact h2)
 obtain ⟨ρ', w', v', q1, q2, q3, q4⟩ := I.run C ho hns hrdy hw h hrA hfr (b := b) (k := k) (cs := cs) (rest := rest)
 have hextra : ∀ j x, i < j → S j → Amk P ops T j x → mS.heap.get (M j).next = some x := fun j x h1 h2 h3 => I.extra j x (by omega) h3 h2
 -- the memory behind the call
 obtain ⟨hp, p1, p2⟩ := add_blocks m1.heap (fun j y => ∃ x, Amk P ops T j x ∧ ((i < j ∧ S j ∧ y = some x) ∨ (j < i ∧ inf.pre.testBit j = false ∧ S j ∧ y = mS.heap.get (M j).next) ∨ (j < i ∧ inf.pre.testBit j = false ∧ ¬ S j ∧ y = none)))
  (fun j => (M j).next)
  (fun j y z ⟨x1, a1, a2⟩ ⟨x2, b1, b2⟩ => by
   have := a1.uniq b1
   subst this
   rcases a2 with ⟨e1, e2, rfl⟩ | ⟨e1, _, e2, rfl⟩ | ⟨e1, _, e2, rfl⟩ <;> rcases b2 with ⟨f1, f2, rfl⟩ | ⟨f1, _, f2, rfl⟩ | ⟨f1, _, f2, rfl⟩ <;> first | rfl | omega | exact absurd e2 f2 | exact absurd f2 e2)
  (fun j l y z ⟨x1, a1, _⟩ ⟨x2, b1, _⟩ e => C.apartIds a1 b1 e) ops.size
 let X : Nat → Prop := fun c => ∃ j x, Amk P ops T j x ∧ c = (M j).next ∧ S j ∧ (i < j ∨ (j < i ∧ inf.pre.testBit j = false))
 have hXn : ∀ c, X c → (hideB inf.pre (A i) (M i).heap).get c = none := by
  rintro c ⟨j, x, h1, h2, h3, h4⟩
  by_cases hx : hid c
  ·exact hAin c hx
  rw [hAout c hx]
  rcases h4 with h4 | h4
  ·rw [h2]
   exact C.notYet h1 (by omega)
  exact absurd ⟨j, x, h4.1, h1, h2, h4.2⟩ hx
 have hXp : ∀ c y, X c → mS.heap.get c = some y → mateOf y = none ∧ isRo y = false := by
  rintro c y ⟨j, x, h1, h2, h3, h4⟩ hy
  rcases h4 with h4 | h4
  ·rw [h2, hextra j x h4 h3 h1] at hy
   cases hy
   exact hpl j _ h1
  obtain ⟨l, g1, g2⟩ := hidA c ⟨j, x, h4.1, h1, h2, h4.2⟩
  have := plain_in hpB g1 g2
  rw [h2, ← hidVal j x h4.1 h1 h3, ← h2, hy] at this
  exact plainO_spec this
 have hX' : ∀ c y, (⟨hp, mS.next, lo, []⟩ : AW).heap.get c = some y → (X c ∧ mS.heap.get c = some y) ∨ (¬ X c ∧ m1.heap.get c = some y) := by
  intro c y hy
  by_cases e : ∃ j z, (∃ x, Amk P ops T j x ∧ ((i < j ∧ S j ∧ z = some x) ∨ (j < i ∧ inf.pre.testBit j = false ∧ S j ∧ z = mS.heap.get (M j).next) ∨ (j < i ∧ inf.pre.testBit j = false ∧ ¬ S j ∧ z = none))) ∧ c = (M j).next
  ·obtain ⟨j, z, ⟨x, e1, e2⟩, rfl⟩ := e
   have := p1 j z e1.lt ⟨x, e1, e2⟩
   rw [show hp.get (M j).next = some y from hy] at this
   subst this
   rcases e2 with ⟨f1, f2, f3⟩ | ⟨f1, f2, f3, f4⟩ | ⟨_, _, _, f4⟩
   ·cases f3
    exact .inl ⟨⟨j, _, e1, rfl, f2, .inl f1⟩, hextra j _ f1 f2 e1⟩
   ·exact .inl ⟨⟨j, x, e1, rfl, f3, .inr ⟨f1, f2⟩⟩, f4.symm⟩
   cases f4
  have := p2 c fun j z _ h2 h3 => e ⟨j, z, h2, h3⟩
  rw [show hp.get c = some y from hy] at this
  refine .inr ⟨?_, this.symm⟩
  rintro ⟨j, x, h1, h2, h3, h4⟩
  rcases h4 with h4 | h4
  ·exact e ⟨j, some x, ⟨x, h1, .inl ⟨h4, h3, rfl⟩⟩, h2⟩
  exact e ⟨j, mS.heap.get (M j).next, ⟨x, h1, .inr (.inl ⟨h4.1, h4.2, h3, rfl⟩)⟩, h2⟩
 obtain ⟨hrel, hown, hocc⟩ := Rel.beside (m' := ⟨hp, mS.next, lo, []⟩) I.rel hsub q2 q3 X hXn hXp hX'
 refine ⟨⟨hp, mS.next, lo, []⟩, i + 1, ρ', w', a.put o.dst v', q1, ?_⟩
 refine { closed := ?_, hle := hlt, hst := ?_, late := ?_, rel := hrel, nx := I.nx, extra := ?_, rest := ?_, free := ?_, size := ?_, nle := I.nle, tmp := I.tmps_step C ho hns hT q3.le q4, tmp0 := I.tmp0_step C ho q3.le, grow := ?_, defers := ?_ }
 ·intro j l hj hb
  rcases hj with hj | rfl
  ·exact .inl (I.closed j l hj hb)
  exact .inl (hrdy l hb)
 ·intro j hj
  constructor
  ·rintro (h1 | rfl)
   ·have := (I.hst j hj).1 h1
    omega
   omega
  intro h1
  by_cases e : j = i
  ·exact .inr e
  refine .inl ((I.hst j hj).2 ?_)
  exact Nat.lt_of_not_le fun hle => hnoH j hle (by omega) hj
 ·intro j x h1 h2 h3
  have hne : j ≠ i := fun e => h3 (.inr e)
  have hji : j < i := by omega
  have hnS : ¬ S j := fun h => h3 (.inl h)
  have hbit : inf.pre.testBit j = false := by
   cases hb : inf.pre.testBit j with
   | false => rfl
   | true => exact absurd (hrdy j (by unfold preAt; rw [← hi.prec]; exact hb)) hnS
  refine ⟨p1 j none h2.lt ⟨x, h2, .inr (.inr ⟨hji, hbit, hnS, rfl⟩)⟩, ?_⟩
  rw [hMin _ ⟨j, x, hji, h2, rfl, hbit⟩]
  rcases Nat.lt_or_ge j H with hl | hl
  ·have := C.seg (b := (M j).next) (p := H) (i - H) (by omega) (fun l a b => hnoH l a (by omega)) (fun l y a b hy e => by
    have := C.apartIds h2 hy e
    omega)
   rw [show H + (i - H) = i by omega] at this
   rw [this]
   exact (I.late j x hl h2 hnS).2
  have := C.segMade (p := H) (d := i - H) (j := j) (x := x) (by omega) (fun l a b => hnoH l a (by omega)) hl (by omega) h2
  rw [show H + (i - H) = i by omega] at this
  exact this
 ·intro j x h1 h2 h3
  exact p1 j (some x) h2.lt ⟨x, h2, .inl ⟨by omega, h3.resolve_right (by omega), rfl⟩⟩
 ·intro c hcc
  by_cases hx : hid c
  ·obtain ⟨j, x, h1, h2, h3, h4⟩ := hx
   have hSj : S j := by
    by_cases hs : S j
    ·exact hs
    refine absurd h3 (hcc j x h2 (.inr ⟨by omega, fun hor => ?_⟩))
    rcases hor with hor | hor
    ·exact hs hor
    omega
   rw [hMin c ⟨j, x, h1, h2, h3, h4⟩, h3]
   have := p1 j _ h2.lt ⟨x, h2, .inr (.inl ⟨h1, h4, hSj, rfl⟩)⟩
   rw [show (⟨hp, mS.next, lo, []⟩ : AW).heap.get (M j).next = hp.get (M j).next from rfl, this]
   exact hidVal j x h1 h2 hSj
  rw [hMout c hx]
  refine p2 c fun j y h1 h2 e => ?_
  obtain ⟨x, e1, e2⟩ := h2
  rcases e2 with ⟨f1, f2, _⟩ | ⟨f1, f2, _⟩ | ⟨f1, f2, _⟩
  ·exact hcc j x e1 (.inl ⟨f1, .inl f2⟩) e
  ·exact hx ⟨j, x, f1, e1, e, f2⟩
  exact hx ⟨j, x, f1, e1, e, f2⟩
 ·intro j c h1 h2 h3 h4
  have hne : j ≠ i := fun e => h2 (.inr e)
  rw [q3.only c ?_]
  ·exact I.free j c h1 (fun h => h2 (.inl h)) h3 h4
  rw [← hM2]
  show c < (M i).next ∨ _
  rcases Nat.lt_or_ge j i with hl | hl
  ·have := C.nextLe (i := j + 1) (j := i) hl (Nat.le_of_lt hlt)
   omega
  have := C.nextLe (i := i + 1) (j := j) (by omega) (Nat.le_of_lt h1)
  omega
 ·rw [act_put_size]; exact I.size
 ·refine I.grow.glue q3 hsub (C.nextLe (Nat.zero_le _) (Nat.le_of_lt hlt)) ?_ rfl hown hocc
  rw [I.nx, ← hM2]
  exact C.nextLe hlt (Nat.le_refl _)
 rw [Act.put_defers']; exact I.defers
theorem oneMore (hpl : ∀ j x, Amk P ops T j x → mateOf x = none ∧ isRo x = false) :
  ∃ mS' H' ρ' w' a', Steps P (lone (on b a (.inRegion ops (i :: rest) :: k)) cs w) (lone (on b a' (.inRegion ops rest :: k)) cs w') ∧ Inv P n ops T M ρ0 w0 ds (fun j => S j ∨ j = i) H' mS' ρ' w' a' := by
 obtain ⟨inf, hinf, _, hs⟩ := C.step ho
 have hnA : cls P o.op ≠ .a ∨ wantedA ops (T i) o = false → ∀ x, ¬ Amk P ops T i x := by
  rintro hne x ⟨oj, f, e1, e2, e3, _⟩
  rw [ho] at e1
  cases e1
  rcases hne with hne | hne
  ·exact hne e3
  rw [hne] at e2
  cases e2
 have hnH : cls P o.op ≠ .h ∨ wantedA ops (T i) o = false → ¬ Hst P ops T i := by
  rintro hne ⟨oj, e1, e2, e3⟩
  rw [ho] at e1
  cases e1
  rcases hne with hne | hne
  ·exact hne e3
  rw [hne] at e2
  cases e2
 have val : ∀ v, wantedA ops (T i) o = true → T (i + 1) = put n (T i) o.dst v → doOp P slf (T i) o.op mS = some (.val v mS) → ¬ Hst P ops T i → (∀ x, ¬ Amk P ops T i x) →
   ∃ mS' H' ρ' w' a', Steps P (lone (on b a (.inRegion ops (i :: rest) :: k)) cs w) (lone (on b a' (.inRegion ops rest :: k)) cs w') ∧ Inv P n ops T M ρ0 w0 ds (fun j => S j ∨ j = i) H' mS' ρ' w' a' := by
  intro v hw hT hd hh ha
  obtain ⟨ρ', w', v', q1, q2, q3, q4⟩ := I.run C ho hns hrdy hw hd I.rel (fun q h1 h2 => by omega) (b := b) (k := k) (cs := cs) (rest := rest)
  exact ⟨mS, H, ρ', w', _, q1, I.still C ho hns hrdy hT q2 q3 q4 hh ha⟩
 generalize hm' : M (i + 1) = m' at hs
 generalize ht' : T (i + 1) = t' at hs
 generalize hl' : L i = lg at hs
 generalize hr' : R i = rd at hs
 generalize A (i + 1) = as' at hs
 cases hs with
 | skip hw =>
  refine ⟨mS, H, ρ, w, a.put o.dst undef, .one ?_, I.still C ho hns hrdy ht' I.rel (.refl _ _ _) (undef_rel _) (hnH (.inr hw)) (hnA (.inr hw))⟩
  have := on_op_skip (P := P) (b := b) (a := a) (k := k) (cs := cs) (w := w) (ops := ops) (i := i) (rest := rest) (by rw [ho]; simp only [Option.map_some, Option.getD_some]; rw [← I.wants C ho hns hrdy]; exact hw)
  rw [ho] at this
  exact this
 | pure hw hc h => exact val _ hw ht' (by unfold doOp; rw [hc]; simp only [doP, h]) (hnH (.inl (by rw [hc]; simp))) (hnA (.inl (by rw [hc]; simp)))
 | imm hw hc h => exact val _ hw ht' (by unfold doOp; rw [hc]; simp only [doL, h]) (hnH (.inl (by rw [hc]; simp))) (hnA (.inl (by rw [hc]; simp)))
 | full hw hc h hv hf hsn =>
  obtain ⟨x, hx1, hx2⟩ := Option.bind_eq_some_iff.1 hv
  have := C.sees_full I ho hns hrdy hc hinf hf hsn hx1
  exact val _ hw ht' (by unfold doOp; rw [hc]; simp only [doL, h, this, Option.bind_some, hx2]) (hnH (.inl (by rw [hc]; simp))) (hnA (.inl (by rw [hc]; simp)))
 | read hw hc h hv hb =>
  have := C.sees_low I ho hns hrdy hc hr' hb hv
  exact val _ hw ht' (by unfold doOp; rw [hc]; simp only [doL, h, this]) (hnH (.inl (by rw [hc]; simp))) (hnA (.inl (by rw [hc]; simp)))
 | make hw hc h =>
  obtain ⟨mS', ρ', w', a', q1, q2⟩ := C.makes I ho hns hrdy hw hc h ht' (b := b) (k := k) (cs := cs) (rest := rest)
  exact ⟨mS', H, ρ', w', a', q1, q2⟩
 | call hw hc hk hp h => exact C.calls I ho hns hrdy hpl hinf hk hp hw hc h ht' (by rw [hm']) (by rw [hm'])
end Ctx
end
end Go.Ab