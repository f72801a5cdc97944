/-
  The engine, part 3: an interpreter over abstract memories, and the proof that the model's machine does what it reckons. Conditions: none.
-/
import Derived.Test.YtmfbljaemhpokaaGreatDoorEng2
import Derived.Orders
import Derived.ChangeSame
import Derived.Handed

/-
  THE ENGINE, 34: loops over functions.
-/
namespace Go.Ab
section
variable {P : Program} {ρ ρ' : Ren} {m m' : AW} {w w' : World} {ts : Tr Value} {self : Self}

def rfCall (f : Operand) (L : Nat) : Call := { callee := .value f, args := #[.const (.func (.yield L) #[] #[])], argTypes := #[] }
def rfSem (a : Act) (f : Operand) (L : Nat) : Sem Next := do let d ← resolve a.eval (rfCall f L) 0; invoke d.target d.args

theorem on_range_enter {b : Frame} {a : Act} {k : List Item} {cs : List Frame} {f : Operand} {params : Array Tmp} {assign body : Code} {L : Nat} {mark : List Deferred} {w1 w2 : World} {g : FuncId} {args : Array Value}
    (he : (Instr.enterLoop b.fn a.tmps params assign body b.roundOf).run P w = .ok (L, mark) w1) (hc : (rfSem a f L).run P w1 = .ok (.enter g args) w2) :
    step P (lone (on b a (.code (.rangeFunc f params assign body) :: k)) cs w) = .next (lone (Frame.enter P g args .normal) (on b ⟨a.tmps, mark ++ a.defers⟩ (.inRangeFunc L :: k) :: cs) w2) := by
  have h1 := on_eval b ⟨a.tmps, mark ++ a.defers⟩ (.inRangeFunc L :: k)
  simp only [on] at h1
  have h2 : (Act.eval ⟨a.tmps, mark ++ a.defers⟩) = a.eval := by funext x; cases x <;> rfl
  rw [h2] at h1
  unfold rfSem rfCall at hc
  refine step_lone_go ?_
  simp [stepG, stepG.exec, stepG.apply, on, he, h1, hc]

theorem on_range_value {b : Frame} {a : Act} {k : List Item} {cs : List Frame} {f : Operand} {params : Array Tmp} {assign body : Code} {L : Nat} {mark : List Deferred} {w1 w2 : World} {v : Value}
    (he : (Instr.enterLoop b.fn a.tmps params assign body b.roundOf).run P w = .ok (L, mark) w1) (hc : (rfSem a f L).run P w1 = .ok (.value v) w2) :
    step P (lone (on b a (.code (.rangeFunc f params assign body) :: k)) cs w) = .next (lone (on b ⟨a.tmps, mark ++ a.defers⟩ (.endRangeFunc L :: k)) cs w2) := by
  have h1 := on_eval b ⟨a.tmps, mark ++ a.defers⟩ (.inRangeFunc L :: k)
  simp only [on] at h1
  have h2 : (Act.eval ⟨a.tmps, mark ++ a.defers⟩) = a.eval := by funext x; cases x <;> rfl
  rw [h2] at h1
  unfold rfSem rfCall at hc
  refine step_lone_go ?_
  simp [stepG, stepG.exec, stepG.apply, on, he, h1, hc, Frame.finish]

theorem on_endRange {b : Frame} {a : Act} {k : List Item} {cs : List Frame} {L : Nat} {jump : Option Code} (he : (Instr.endLoop L).run P w = .ok jump w') :
    step P (lone (on b a (.endRangeFunc L :: k)) cs w) = .next (lone (on b a ((jump.map Item.code).toList ++ k)) cs w') := by
  refine step_lone_go ?_
  simp [stepG, stepG.exec, on, he]

theorem not_own (h : Rel P ρ m w) {d : Nat} {o : AObj} {s : Spot} (hd : m.heap.get d = some o) (hro : isRo o = true) (hmt : mateOf o = none) (hs : ρ d = some s) : ¬ Own ρ m s.blk := by
  rintro ⟨b2, o2, s2, h1, h2, h3, h4⟩
  by_cases e : b2 = d
  · subst e
    rw [hd] at h1
    cases h1
    rw [hro] at h2
    cases h2
  · rcases h.sep b2 d o2 o s2 s e h1 hd h3 hs h4 with ⟨_, h5⟩ | ⟨h5, _⟩
    · rw [hmt] at h5; cases h5
    · rw [h2] at h5; cases h5

theorem not_own_new {b : Nat} {s : Spot} (h : Rel P ρ m w) (hs : ρ b = some s) (hb : w.heap.size ≤ s.blk) : False := by
  have := h.inb b s hs
  omega

/-- A loop is begun, in both. -/
theorem begin_rel (hr : Rel P ρ m w) {fr : AFr} {b : Frame} {a : Act} {n0 : Nat} {params : Array Tmp} {assign body : Code} {l : Nat} {m2 : AW} (h : beginRF fr params.toList assign body m = some (l, m2)) (hf : Fresh ρ m m2) (hok : FOk ρ n0 fr b a m w) (hn : n0 ≤ w.heap.size) :
    ∃ ρ2 w2 s mark, (Instr.enterLoop b.fn a.tmps params assign body b.roundOf).run P w = .ok (s.blk, mark) w2 ∧ ρ2 l = some s ∧ Rel P ρ2 m2 w2 ∧ Grow ρ ρ2 m m2 w w2 ∧ FOk ρ2 n0 fr b ⟨a.tmps, mark ++ a.defers⟩ m2 w2 := by
  unfold beginRF at h
  rcases hok.round with ⟨lo, so, h1, h2, h3, h4⟩ | ⟨h1, h2, h3⟩
  · rw [h1] at h
    simp only at h
    split at h
    · rename_i y1 y2 y3 y4 y5 y6 y7 y8 d hlo
      cases h
      obtain ⟨r, r1, r2, r3, r4, r5, r6, r7, r8, sd, r9, r10⟩ := loop_obj hr h2 hlo
      have hfr := hf _ (Nat.le_refl _) (by simp [AW.new])
      have hle : ρ.le (ρ.set m.next ⟨w.heap.size, 0, 0⟩) := Ren.le_set hfr
      obtain ⟨q1, q2⟩ := hr.new (w' := w.alloc (.loop { state := .ready, pending := none, fn := b.fn, tmps := a.tmps, params := params, assign := assign, body := body, defers := r.defers })) hfr (x := .loop .ready none fr.fn fr.n fr.ts params.toList assign body d) (cap := 0)
        (y := .loop { state := .ready, pending := none, fn := b.fn, tmps := a.tmps, params := params, assign := assign, body := body, defers := r.defers }) rfl ⟨rfl, rfl, rfl⟩
        ⟨_, rfl, rfl, rfl, hok.fn, hok.tmps.mono hle, rfl, rfl, rfl, sd, hle _ _ r9, r10⟩
      refine ⟨_, _, ⟨w.heap.size, 0, 0⟩, [], ?_, Ren.set_same _ _ _, q1, q2, ?_⟩
      · simp only [Instr.enterLoop, h3, Sem.run_bind, run_getLoop r1, Result.andThen_ok, Sem.run_pure, run_newObj]
        rfl
      · exact FOk.grow (fr := fr) hok q2 rfl (hok.tmps.mono hle)
    · cases h
  · rw [h1] at h
    cases h
    have hfr := hf m.next (Nat.le_refl _) (by simp [AW.new]; omega)
    have hfr2 := hf (m.next + 1) (by omega) (by simp [AW.new])
    obtain ⟨q1, q2⟩ := hr.new (w' := w.alloc (.deferred (some []))) hfr (x := .deferred) (cap := 0) (y := .deferred (some [])) rfl ⟨rfl, rfl, rfl⟩ ⟨_, rfl⟩
    have hle := q2.le
    have hfr3 : (ρ.set m.next ⟨w.heap.size, 0, 0⟩) (m.new .deferred).next = none := by
      rw [q2.only _ (.inr (Nat.le_refl _))]
      exact hfr2
    have hle2 : (ρ.set m.next ⟨w.heap.size, 0, 0⟩).le ((ρ.set m.next ⟨w.heap.size, 0, 0⟩).set (m.new .deferred).next ⟨(w.alloc (.deferred (some []))).heap.size, 0, 0⟩) := Ren.le_set hfr3
    obtain ⟨q3, q4⟩ := q1.new (w' := (w.alloc (.deferred (some []))).alloc (.loop { state := .ready, pending := none, fn := b.fn, tmps := a.tmps, params := params, assign := assign, body := body, defers := w.heap.size })) hfr3
      (x := .loop .ready none fr.fn fr.n fr.ts params.toList assign body m.next) (cap := 0)
      (y := .loop { state := .ready, pending := none, fn := b.fn, tmps := a.tmps, params := params, assign := assign, body := body, defers := w.heap.size }) rfl ⟨rfl, rfl, rfl⟩
      ⟨_, rfl, rfl, rfl, hok.fn, (hok.tmps.mono hle).mono hle2, rfl, rfl, rfl, ⟨w.heap.size, 0, 0⟩, hle2 _ _ (Ren.set_same _ _ _), rfl⟩
    have g := q2.trans q4
    refine ⟨_, _, ⟨(w.alloc (.deferred (some []))).heap.size, 0, 0⟩, [mark1 w.heap.size], ?_, Ren.set_same _ _ _, q3, g, ⟨hok.fn, (hok.tmps.mono hle).mono hle2, .inr ⟨h1, h2, ?_⟩⟩⟩
    · simp only [Instr.enterLoop, h2, Sem.run_bind, Result.andThen_ok, Sem.run_pure, run_newObj]
      rfl
    · obtain ⟨Bs, t1, t2, t3⟩ := h3.grow g
      have hd2 : (ρ.set m.next ⟨w.heap.size, 0, 0⟩) m.next = some ⟨w.heap.size, 0, 0⟩ := Ren.set_same _ _ _
      have hget : ((m.new .deferred).new (.loop .ready none fr.fn fr.n fr.ts params.toList assign body m.next)).heap.get m.next = some .deferred := by
        rw [AW.new_get, AW.new_get]
        simp [AW.new]
      refine ⟨w.heap.size :: Bs, by simp only [List.map_cons, ← t1]; rfl, List.nodup_cons.2 ⟨fun hin => ?_, t2⟩, fun B hB => ?_⟩
      · obtain ⟨Bs0, u1, _, u3⟩ := h3
        have : Bs0 = Bs := by
          have e1 : Bs0.map mark1 = Bs.map mark1 := by rw [← u1, ← t1]
          have inj : ∀ x y : Nat, mark1 x = mark1 y → x = y := by
            intro x y hxy
            simp only [mark1, Deferred.mk.injEq, Target.collected.injEq, and_true] at hxy
            exact hxy
          exact List.map_inj_right (fun x y => inj x y) |>.1 e1
        subst this
        have := (u3 _ hin).2.1
        omega
      · cases hB with
        | head =>
          refine ⟨hn, ?_, ?_, not_own q3 hget rfl rfl (hle2 _ _ hd2)⟩
          · show w.heap.size < ((w.heap.push _).push _).size
            rw [Array.size_push, Array.size_push]
            omega
          · have : ((w.alloc (.deferred (some []))).alloc (.loop { state := .ready, pending := none, fn := b.fn, tmps := a.tmps, params := params, assign := assign, body := body, defers := w.heap.size })).heap[w.heap.size]? = some (.deferred (some [])) := by
              show ((w.heap.push _).push _)[w.heap.size]? = _
              rw [heap_push_old (by rw [Array.size_push]; omega)]
              simp
            exact this
        | tail _ hB => exact t3 B hB

section
variable (hM : ∀ fr t m out, self fr t m = some out → Mono m out.m) (hS : ∀ fr t m out, self fr t m = some out → Sound P fr t m out)
include hM hS

theorem stRF_follows {fr : AFr} {f : Operand} {params : Array Tmp} {assign body : Code} {out : Out} (h : stRF P self fr f params.toList assign body m = some out) : Follows P fr m out (Starts (.rangeFunc f params assign body)) := by
  intro ρ w b a n0 k cs todo hr hf hok hn hst
  rcases hst with rfl | ⟨body, hb, _⟩
  · have hE : ERel P ρ fr.ts a.eval := erel_of hok.tmps hr.glob
    unfold stRF at h
    split at h
    · rename_i g first captured hfv
      split at h
      · rename_i l m2 hbeg
        have hm2 := beginRF_mono (self := self) hM hbeg
        have key : ∀ o3, self noFr (.fn g (first ++ [.func (.yield l) #[] #[]] ++ captured)) m2 = some o3 → o3.m.next ≤ out.m.next →
            ∃ ρ3 w3 s a', ρ3 l = some s ∧ Rel P ρ3 o3.m w3 ∧ Grow ρ ρ3 m o3.m w w3 ∧ FOk ρ3 n0 fr b a' o3.m w3 ∧
              ((o3.ex = .ret ∧ Steps P (lone (on b a (.code (.rangeFunc f params assign body) :: k)) cs w) (lone (on b a' (.endRangeFunc s.blk :: k)) cs w3)) ∨
               (∃ v v', o3.ex = .panic v ∧ VRel ρ3 v v' ∧ Steps P (lone (on b a (.code (.rangeFunc f params assign body) :: k)) cs w) (lone (off b a' (.inRangeFunc s.blk :: k) (.panicking [{ v := v', recovered := false }])) cs w3))) := by
          intro o3 ho3 hle
          have hm3 := hM _ _ _ _ ho3
          obtain ⟨ρ2, w2, s, mark, e1, e2, e3, e4, e5⟩ := begin_rel hr hbeg (hf.left (Nat.le_trans hm3.next hle)) hok hn
          have hfv' := hE _ _ hfv
          generalize he : a.eval f = fv' at hfv'
          cases hfv' with
          | func h1 h2 =>
            rename_i first' captured'
            have hrun : ∀ w, (rfSem a f s.blk).run P w = (callFunc g ⟨first' ++ [.func (.yield s.blk) #[] #[]] ++ captured'⟩).run P w := by
              intro w
              simp only [rfSem, rfCall, resolve, Sem.run_bind, he, Deferred.ofValue, Sem.run_pure, Result.andThen_ok, invoke]
              congr 2
              simp [Act.eval]
            have hargs : VsRel ρ2 (first ++ [.func (.yield l) #[] #[]] ++ captured) (first' ++ [.func (.yield s.blk) #[] #[]] ++ captured') :=
              ((h1.mono e4.le).append (.cons (.yield e2) .nil)).append (h2.mono e4.le)
            obtain ⟨ρ3, w3, q1, q2, q3⟩ := hS _ _ _ _ ho3 ρ2 w2 _ (on b ⟨a.tmps, mark ++ a.defers⟩ (.inRangeFunc s.blk :: k) :: cs) e3 ((hf.right e4).left hle) hargs
            have hok3 : FOk ρ3 n0 fr b ⟨a.tmps, mark ++ a.defers⟩ o3.m w3 := FOk.grow (fr := fr) e5 q2 rfl (e5.tmps.mono q2.le)
            refine ⟨ρ3, w3, s, ⟨a.tmps, mark ++ a.defers⟩, q2.le _ _ e2, q1, e4.trans q2, hok3, ?_⟩
            rcases q3 with ⟨v', t1, _, t2⟩ | ⟨t1, frx, t2, t3, t4⟩
            · exact .inl ⟨t1, .one (on_range_value e1 (by rw [hrun]; exact t2))⟩
            · have hent := on_range_enter (k := k) (cs := cs) e1 (by rw [hrun]; exact t1)
              rcases t4 with ⟨v', t5, _, t6⟩ | ⟨v, v', t5, t6, t7⟩
              · refine .inl ⟨t5, .head hent (t3.trans (.one ?_))⟩
                rw [step_leave_returned t6]
                rfl
              · refine .inr ⟨v, v', t5, t6, .head hent (t3.trans (.one ?_))⟩
                rw [step_leave_panicked t7]
                rfl
        split at h
        · rename_i ts3 v3 m3 heq
          have hle := (endRF_mono (self := self) hM h).next
          obtain ⟨ρ3, w3, s, a', q1, q2, q3, q4, q5⟩ := key _ heq hle
          rcases q5 with ⟨_, q5⟩ | ⟨_, _, q5, _⟩
          · unfold endRF at h
            split at h
            · rename_i st pending y3 y4 y5 y6 y7 y8 y9 hl
              obtain ⟨r, z1, z2, z3, z4⟩ := loop_obj q2 q1 hl
              obtain ⟨u1, u2, u3⟩ := loop_put (st' := .exhausted) (p' := pending) q2 q1 hl z1
              have hend : st ≠ .busy → (Instr.endLoop s.blk).run P w3 = .ok pending (setBlk w3 s.blk (.loop { r with state := .exhausted, pending := pending })) := by
                intro hst
                have hb : (r.state == LoopState.busy) = false := by
                  rw [z2]
                  cases st <;> first | rfl | exact absurd rfl hst
                simp only [Instr.endLoop, Sem.run_bind, run_getLoop z1, Result.andThen_ok, hb, Bool.false_eq_true, if_false, Sem.run_pure]
                rw [← z3] at u1 ⊢
                rw [u1]
                rfl
              have hok4 : FOk ρ3 n0 fr b a' (m3.set l (some (.loop .exhausted pending y3 y4 y5 y6 y7 y8 y9))) (setBlk w3 s.blk (.loop { r with state := .exhausted, pending := pending })) := FOk.grow (fr := fr) q4 u3 rfl q4.tmps
              split at h
              · cases h
              · rename_i hnb
                have hend := hend (fun e => hnb e)
                have st4 := q5.trans (.one (on_endRange (k := k) (b := b) (a := a') (cs := cs) hend))
                split at h
                · cases h
                  exact ⟨ρ3, _, a', _, st4, rfl, u2, q3.trans u3, hok4⟩
                · cases h
                  exact ⟨ρ3, _, a', _, st4, ⟨k, rfl⟩, u2, q3.trans u3, hok4⟩
                · cases h
                  exact ⟨ρ3, _, a', _, st4, ⟨k, rfl, rfl⟩, u2, q3.trans u3, hok4⟩
                · cases h
            · cases h
          · cases q5
        · rename_i v ts3 v3 m3 heq
          cases h
          obtain ⟨ρ3, w3, s, a', q1, q2, q3, q4, q5⟩ := key _ heq (Nat.le_refl _)
          rcases q5 with ⟨q5, _⟩ | ⟨v2, v', q5, q6, q7⟩
          · cases q5
          · cases q5
            exact ⟨ρ3, w3, a', _, q7, ⟨_, v', rfl, q6⟩, q2, q3, q4⟩
        · cases h
      · cases h
    · cases h
  · cases hb

end
end
end Go.Ab

/-
  THE ENGINE, 35: an operation looks at its operands alone.
-/
namespace Go.Ab
section
variable {P : Program} {ts ts2 : Tr Value} {self : Self} {m : AW}

theorem evs_congr : ∀ {xs : List Operand}, (∀ x ∈ xs, ev P ts x = ev P ts2 x) → evs P ts xs = evs P ts2 xs
  | [], _ => rfl
  | x :: xs, h => by
    simp only [evs, h x List.mem_cons_self, evs_congr (xs := xs) fun y hy => h y (List.mem_cons_of_mem _ hy)]

theorem evParts_congr : ∀ {xs : List (Nat × Operand)}, (∀ x ∈ xs, ev P ts x.2 = ev P ts2 x.2) → evParts P ts xs = evParts P ts2 xs
  | [], _ => rfl
  | (i, x) :: xs, h => by
    simp only [evParts, h (i, x) List.mem_cons_self, evParts_congr (xs := xs) fun y hy => h y (List.mem_cons_of_mem _ hy)]

theorem evo_congr {x : Option Operand} (h : ∀ y ∈ x.toArray, ev P ts y = ev P ts2 y) : evo P ts x = evo P ts2 x := by
  cases x with
  | none => rfl
  | some x =>
    simp only [evo, h x (by simp)]

theorem call_args {c : Call} (h : ∀ x ∈ c.operands, ev P ts x = ev P ts2 x) : evs P ts c.args.toList = evs P ts2 c.args.toList :=
  evs_congr fun x hx => h x (by simp only [Call.operands, Array.mem_append]; right; simpa using hx)

theorem opP_congr {o : Op} (h : ∀ x ∈ o.operands, ev P ts x = ev P ts2 x) : opP P ts o = opP P ts2 o := by
  cases o <;> simp only [Op.operands] at h <;> simp only [opP]
  case move x => rw [h x (by simp)]
  case assign x => rw [h x (by simp)]
  case pick a b c => simp only [pickA, h a (by simp), h b (by simp), h c (by simp)]
  case build t ps => rw [evParts_congr fun x hx => h x.2 (by simp; exact ⟨x.1, by simpa using hx⟩)]
  case nilCheck x => rw [h x (by simp)]
  case binOp op t x y ty => simp only [bin1, h x (by simp), h y (by simp)]
  case unOp op t x => rw [h x (by simp)]
  case convert s d x => rw [h x (by simp)]
  case makeInterface t x => rw [h x (by simp)]
  case makeFunc fn a b =>
    have h1 : evs P ts a.toList = evs P ts2 a.toList := evs_congr fun x hx => h x (by simp; left; simpa using hx)
    have h2 : evs P ts b.toList = evs P ts2 b.toList := evs_congr fun x hx => h x (by simp; right; simpa using hx)
    simp only [funcA, h1, h2]
  case slice t x l hi mx =>
    have h1 := evo_congr (ts := ts) (ts2 := ts2) (P := P) (x := l) fun y hy => h y (by simp only [Array.mem_append]; exact .inl (.inl (.inr hy)))
    have h2 := evo_congr (ts := ts) (ts2 := ts2) (P := P) (x := hi) fun y hy => h y (by simp only [Array.mem_append]; exact .inl (.inr hy))
    have h3 := evo_congr (ts := ts) (ts2 := ts2) (P := P) (x := mx) fun y hy => h y (by simp only [Array.mem_append]; exact .inr hy)
    simp only [slice1, h x (by simp), h1, h2, h3]
  case fieldAddr s x f => rw [h x (by simp)]
  case field s x f => rw [h x (by simp)]
  case indexAddr t x i => simp only [bind2, h x (by simp), h i (by simp)]
  case index t x i => simp only [bind2, h x (by simp), h i (by simp)]
  case extract t i => rw [h t (by simp)]
  case typeAssert x a b c => rw [h x (by simp)]
  case call c => simp only [callP, call_args h]

theorem opL_congr {o : Op} (h : ∀ x ∈ o.operands, ev P ts x = ev P ts2 x) : opL P ts o = opL P ts2 o := by
  cases o <;> simp only [Op.operands] at h <;> simp only [opL]
  case load t x => rw [h x (by simp)]
  case lookup t x k ok => simp only [lookup1, h x (by simp), h k (by simp)]
  case convert s d x => rw [h x (by simp)]
  case call c => simp only [callL, call_args h]

theorem opA_congr {o : Op} (h : ∀ x ∈ o.operands, ev P ts x = ev P ts2 x) : opA P ts o = opA P ts2 o := by
  cases o <;> simp only [Op.operands] at h <;> simp only [opA]
  case box t x => rw [h x (by simp)]
  case buildSlice t n ps => rw [evParts_congr fun x hx => h x.2 (by simp; exact ⟨x.1, by simpa using hx⟩)]
  case makeSlice t x y => rw [h x (by simp), h y (by simp)]
  case makeMap t r =>
    cases r with
    | none => rfl
    | some r => simp only [Option.map_some, h r (by simp)]
  case convert s d x => rw [h x (by simp)]

theorem opH_congr {o : Op} (h : ∀ x ∈ o.operands, ev P ts x = ev P ts2 x) : opH P self ts o m = opH P self ts2 o m := by
  cases o <;> simp only [Op.operands] at h <;> simp only [opH]
  case store t x y => rw [h x (by simp), h y (by simp)]
  case mapUpdate t x y z => rw [evs_congr (xs := [x, y, z]) fun u hu => h u (by simpa using hu)]
  case insert t x y z => rw [evs_congr (xs := [x, y, z]) fun u hu => h u (by simpa using hu)]
  case range t x => rw [h x (by simp)]
  case next x b => rw [h x (by simp)]
  case panic x => rw [h x (by simp)]
  case call c =>
    simp only [callH, call_args h]
    cases hc : c.callee with
    | value f => simp only [h f (by simp [Call.operands, hc])]
    | invoke a b => rfl
    | builtin b => rfl

theorem doOp_congr {o : Op} (h : ∀ x ∈ o.operands, ev P ts x = ev P ts2 x) : doOp P self ts o m = doOp P self ts2 o m := by
  unfold doOp
  rw [opP_congr h, opL_congr h, opA_congr h, opH_congr h]

end
end Go.Ab

/-
  THE ENGINE, 36: a region that draws its order: the states in the order of the text.
-/
namespace Go.Ab
section
variable {P : Program} {self : Self}

/-- One operation in the order of the text. -/
inductive DStep (P : Program) (self : Self) (n : Nat) (ops : Array Oper) (base lo : Nat) (o : Oper) (inf : Info) (ts : Tr Value) (m : AW) : Tr Value → AW → List Nat → Option Nat → Prop where
  | skip (hw : wantedA ops ts o = false) : DStep P self n ops base lo o inf ts m (put n ts o.dst undef) m [] none
  | pure {v : Value} (hw : wantedA ops ts o = true) (hc : cls P o.op = .p) (h : opP P ts o.op = some v) : DStep P self n ops base lo o inf ts m (put n ts o.dst v) m [] none
  | imm {v : Value} (hw : wantedA ops ts o = true) (hc : cls P o.op = .l) (h : opL P ts o.op = some (.imm v)) : DStep P self n ops base lo o inf ts m (put n ts o.dst v) m [] none
  | full {v : Value} {b : Nat} {f : AObj → Option Value} (hw : wantedA ops ts o = true) (hc : cls P o.op = .l) (h : opL P ts o.op = some (.rd b f)) (hv : (m.heap.get b).bind f = some v) (hf : inf.full = true) : DStep P self n ops base lo o inf ts m (put n ts o.dst v) m [] none
  | read {v : Value} {b : Nat} {f : AObj → Option Value} (hw : wantedA ops ts o = true) (hc : cls P o.op = .l) (h : opL P ts o.op = some (.rd b f)) (hv : (m.heap.get b).bind f = some v) (hb : b < base) : DStep P self n ops base lo o inf ts m (put n ts o.dst v) m [] (some b)
  | make {x : AObj} {f : Nat → Value} (hw : wantedA ops ts o = true) (hc : cls P o.op = .a) (h : opA P ts o.op = some (x, f)) : DStep P self n ops base lo o inf ts m (put n ts o.dst (f m.next)) (m.new x) [] none
  | call {v : Value} {m1 : AW} (hw : wantedA ops ts o = true) (hc : cls P o.op = .h) (hk : inf.hok = true) (h : doOp P self ts o.op ⟨m.heap, m.next, base, []⟩ = some (.val v m1)) :
      DStep P self n ops base lo o inf ts m (put n ts o.dst v) ⟨m1.heap, m1.next, lo, below lo m1.log ++ m.log⟩ m1.log none

theorem notIn_spec {b : Nat} : ∀ {l : List Nat}, notIn b l = true → b ∉ l
  | [], _, h => by cases h
  | x :: xs, hn, h => by
    unfold notIn at hn
    by_cases e : x = b
    · subst e
      simp at hn
    · simp only [nbeq, e, decide_false, cond_false] at hn
      cases h with
      | head => exact e rfl
      | tail _ h => exact notIn_spec hn h

theorem readOk_spec {pre b : Nat} : ∀ {ws : List (Nat × List Nat)}, readOk pre b ws = true → ∀ h w, (h, w) ∈ ws → pre.testBit h = false → b ∉ w
  | (h, w) :: ws, hr, h', w', hm, hp => by
    unfold readOk at hr
    obtain ⟨hc, hr⟩ : (pre.testBit h || notIn b w) = true ∧ readOk pre b ws = true := by
      cases hcc : (pre.testBit h || notIn b w) with
      | true => rw [hcc] at hr; exact ⟨rfl, hr⟩
      | false => rw [hcc] at hr; cases hr
    cases hm with
    | head =>
      rw [hp] at hc
      exact notIn_spec (by simpa using hc)
    | tail _ hm => exact readOk_spec hr h' w' hm hp

theorem writeOk_spec {pre : Nat} {w : List Nat} : ∀ {rs : List (Nat × Nat)}, writeOk pre w rs = true → ∀ j b, (j, b) ∈ rs → pre.testBit j = false → b ∉ w
  | (j, b) :: rs, hr, j', b', hm, hp => by
    unfold writeOk at hr
    obtain ⟨hc, hr⟩ : (pre.testBit j || notIn b w) = true ∧ writeOk pre w rs = true := by
      cases hcc : (pre.testBit j || notIn b w) with
      | true => rw [hcc] at hr; exact ⟨rfl, hr⟩
      | false => rw [hcc] at hr; cases hr
    cases hm with
    | head =>
      rw [hp] at hc
      exact notIn_spec (by simpa using hc)
    | tail _ hm => exact writeOk_spec hr j' b' hm hp

/-- The states of a region's operations. -/
structure DTrace (P : Program) (slf : Self) (n : Nat) (ops : Array Oper) (base lo : Nat) (i0 : Nat) (l : List (Oper × Info)) (T : Nat → Tr Value) (M : Nat → AW) (L : Nat → List Nat) (R : Nat → Option Nat) : Prop where
  step : ∀ i o inf, i0 ≤ i → l[i - i0]? = some (o, inf) → DStep P slf n ops base lo o inf (T i) (M i) (T (i + 1)) (M (i + 1)) (L i) (R i)
  apart : ∀ i j o inf, i0 ≤ j → j < i → l[i - i0]? = some (o, inf) → inf.pre.testBit j = false → (∀ b, R i = some b → b ∉ L j) ∧ (∀ b, R j = some b → b ∉ L i)

theorem dops_trace {n : Nat} {ops : Array Oper} {base lo : Nat} : ∀ (l : List (Oper × Info)) (i0 : Nat) (rs : List (Nat × Nat)) (ws : List (Nat × List Nat)) (ts : Tr Value) (m : AW) (out : Out),
    (∀ k o inf, l[k]? = some (o, inf) → inf.i = i0 + k ∧ inf.cls = cls P o.op) → dops P self n ops base lo l rs ws ts m = some out →
    ∃ T M L R, T i0 = ts ∧ M i0 = m ∧ T (i0 + l.length) = out.ts ∧ M (i0 + l.length) = out.m ∧ out.ex = .normal ∧ DTrace P self n ops base lo i0 l T M L R ∧
      (∀ i o inf, i0 ≤ i → l[i - i0]? = some (o, inf) → (∀ h w, (h, w) ∈ ws → inf.pre.testBit h = false → ∀ b, R i = some b → b ∉ w) ∧ (∀ j b, (j, b) ∈ rs → inf.pre.testBit j = false → b ∉ L i))
  | [], i0, rs, ws, ts, m, out, _, h => by
    simp only [dops, Option.some.injEq] at h
    subst h
    exact ⟨fun _ => ts, fun _ => m, fun _ => [], fun _ => none, rfl, rfl, rfl, rfl, rfl, ⟨fun i o inf _ hl => by simp at hl, fun i j o inf _ _ hl => by simp at hl⟩, fun i o inf _ hl => by simp at hl⟩
  | (o, inf) :: l, i0, rs, ws, ts, m, out, hinf, h => by
    obtain ⟨hi, hcl⟩ := hinf 0 o inf rfl
    have hinf' : ∀ k o inf, l[k]? = some (o, inf) → inf.i = i0 + 1 + k ∧ inf.cls = cls P o.op := by
      intro k o2 inf2 hk
      obtain ⟨h1, h2⟩ := hinf (k + 1) o2 inf2 (by simpa using hk)
      exact ⟨by omega, h2⟩
    -- what is common to all cases
    have glue : ∀ (ts1 : Tr Value) (m1 : AW) (log : List Nat) (rd : Option Nat) (rs1 : List (Nat × Nat)) (ws1 : List (Nat × List Nat)), dops P self n ops base lo l rs1 ws1 ts1 m1 = some out →
        DStep P self n ops base lo o inf ts m ts1 m1 log rd → (∀ x ∈ ws, x ∈ ws1) → (∀ x ∈ rs, x ∈ rs1) → (log ≠ [] → (i0, log) ∈ ws1) → (∀ b, rd = some b → (i0, b) ∈ rs1) →
        (∀ h w, (h, w) ∈ ws → inf.pre.testBit h = false → ∀ b, rd = some b → b ∉ w) → (∀ j b, (j, b) ∈ rs → inf.pre.testBit j = false → b ∉ log) →
        ∃ T M L R, T i0 = ts ∧ M i0 = m ∧ T (i0 + ((o, inf) :: l).length) = out.ts ∧ M (i0 + ((o, inf) :: l).length) = out.m ∧ out.ex = .normal ∧ DTrace P self n ops base lo i0 ((o, inf) :: l) T M L R ∧
          (∀ i o2 inf2, i0 ≤ i → ((o, inf) :: l)[i - i0]? = some (o2, inf2) → (∀ h w, (h, w) ∈ ws → inf2.pre.testBit h = false → ∀ b, R i = some b → b ∉ w) ∧ (∀ j b, (j, b) ∈ rs → inf2.pre.testBit j = false → b ∉ L i)) := by
      intro ts1 m1 log rd rs1 ws1 hd hst hws hrs hlog hrd hw1 hw2
      obtain ⟨T, M, L, R, t1, t2, t3, t4, t5, t6, t7⟩ := dops_trace l (i0 + 1) rs1 ws1 ts1 m1 out hinf' hd
      have hidx : ∀ i, i0 < i → ((o, inf) :: l)[i - i0]? = l[i - (i0 + 1)]? := by
        intro i hi
        rw [show i - i0 = (i - (i0 + 1)) + 1 by omega, List.getElem?_cons_succ]
      refine ⟨fun i => if i = i0 then ts else T i, fun i => if i = i0 then m else M i, fun i => if i = i0 then log else L i, fun i => if i = i0 then rd else R i, by simp, by simp, ?_, ?_, t5, ⟨?_, ?_⟩, ?_⟩
      · simp only [List.length_cons]
        rw [if_neg (by omega), show i0 + (l.length + 1) = i0 + 1 + l.length by omega]
        exact t3
      · simp only [List.length_cons]
        rw [if_neg (by omega), show i0 + (l.length + 1) = i0 + 1 + l.length by omega]
        exact t4
      · intro i o2 inf2 hle hl2
        by_cases e : i = i0
        · subst e
          simp only [Nat.sub_self, List.getElem?_cons_zero, Option.some.injEq, Prod.mk.injEq] at hl2
          obtain ⟨rfl, rfl⟩ := hl2
          simp only [if_true]
          rw [if_neg (by omega), if_neg (by omega), t1, t2]
          exact hst
        · rw [hidx i (by omega)] at hl2
          simp only [if_neg e]
          rw [if_neg (by omega), if_neg (by omega)]
          exact t6.1 i o2 inf2 (by omega) hl2
      · intro i j o2 inf2 hle hji hl2 hp
        rw [hidx i (by omega)] at hl2
        have e : i ≠ i0 := by omega
        simp only [if_neg e]
        by_cases ej : j = i0
        · subst ej
          simp only [if_true]
          obtain ⟨u1, u2⟩ := t7 i o2 inf2 (by omega) hl2
          refine ⟨fun b hb hin => ?_, fun b hb => u2 j b (hrd b hb) hp⟩
          have hne : log ≠ [] := fun e0 => by rw [e0] at hin; cases hin
          exact u1 j log (hlog hne) hp b hb hin
        · simp only [if_neg ej]
          exact t6.2 i j o2 inf2 (by omega) hji hl2 hp
      · intro i o2 inf2 hle hl2
        by_cases e : i = i0
        · subst e
          simp only [Nat.sub_self, List.getElem?_cons_zero, Option.some.injEq, Prod.mk.injEq] at hl2
          obtain ⟨rfl, rfl⟩ := hl2
          simp only [if_true]
          exact ⟨hw1, hw2⟩
        · rw [hidx i (by omega)] at hl2
          simp only [if_neg e]
          obtain ⟨u1, u2⟩ := t7 i o2 inf2 (by omega) hl2
          exact ⟨fun h w hm => u1 h w (hws _ hm), fun j b hm => u2 j b (hrs _ hm)⟩
    have nil1 : ∀ (h : Nat) (w : List Nat), (h, w) ∈ ws → inf.pre.testBit h = false → ∀ b, (none : Option Nat) = some b → b ∉ w := fun _ _ _ _ _ hb => by cases hb
    have nil2 : ∀ (j b : Nat), (j, b) ∈ rs → inf.pre.testBit j = false → b ∉ ([] : List Nat) := fun _ _ _ _ hb => by cases hb
    unfold dops at h
    cases hw : wantedA ops ts o with
    | false =>
      rw [hw] at h
      exact glue _ _ [] none _ _ h (.skip hw) (fun _ h => h) (fun _ h => h) (fun h => absurd rfl h) (fun _ h => by cases h) nil1 nil2
    | true =>
      rw [hw] at h
      simp only [cond_true] at h
      cases hc : cls P o.op with
      | l =>
        rw [hcl, hc] at h
        simp only at h
        split at h
        · rename_i v hv
          exact glue _ _ [] none _ _ h (.imm hw hc hv) (fun _ h => h) (fun _ h => h) (fun h => absurd rfl h) (fun _ h => by cases h) nil1 nil2
        · rename_i b f hv
          obtain ⟨hcond, h⟩ := bif_some h
          split at h
          · rename_i v hb
            cases hfull : inf.full with
            | true =>
              rw [hfull] at h
              exact glue _ _ [] none _ _ h (.full hw hc hv hb hfull) (fun _ h => h) (fun _ h => h) (fun h => absurd rfl h) (fun _ h => by cases h) nil1 nil2
            | false =>
              rw [hfull] at h hcond
              simp only [Bool.false_or, Bool.and_eq_true, nblt, decide_eq_true_eq] at hcond
              simp only [cond_false] at h
              refine glue _ _ [] (some b) _ _ h (.read hw hc hv hb hcond.1) (fun _ h => h) (fun _ h => List.mem_cons_of_mem _ h) (fun h => absurd rfl h) (fun b' h => ?_) (fun h w hm hp b' hb' => ?_) nil2
              · cases h
                rw [hi]
                exact List.mem_cons_self
              · cases hb'
                exact readOk_spec hcond.2 h w hm hp
          · cases h
        · cases h
      | h =>
        rw [hcl, hc] at h
        simp only at h
        obtain ⟨hk, h⟩ := bif_some h
        split at h
        · rename_i v m1 hd
          obtain ⟨hwo, h⟩ := bif_some h
          refine glue _ _ m1.log none _ _ h (.call hw hc hk hd) (fun _ h => List.mem_cons_of_mem _ h) (fun _ h => h) (fun _ => ?_) (fun _ h => by cases h) nil1 (fun j b hm hp => writeOk_spec hwo j b hm hp)
          rw [hi]
          exact List.mem_cons_self
        · cases h
      | p =>
        rw [hcl, hc] at h
        simp only at h
        split at h
        · rename_i v m1 hd
          unfold doOp at hd
          rw [hc] at hd
          simp only [doP] at hd
          split at hd
          · rename_i v2 hv
            cases hd
            exact glue _ _ [] none _ _ h (.pure hw hc hv) (fun _ h => h) (fun _ h => h) (fun h => absurd rfl h) (fun _ h => by cases h) nil1 nil2
          · cases hd
        · cases h
      | a =>
        rw [hcl, hc] at h
        simp only at h
        split at h
        · rename_i v m1 hd
          unfold doOp at hd
          rw [hc] at hd
          simp only [doA] at hd
          split at hd
          · rename_i x f hv
            cases hd
            exact glue _ _ [] none _ _ h (.make hw hc hv) (fun _ h => h) (fun _ h => h) (fun h => absurd rfl h) (fun _ h => by cases h) nil1 nil2
          · cases hd
        · cases h

end
end Go.Ab

/-
  THE ENGINE, 37: a region that draws: a run in the order of the text leaves no block behind the last number.
-/
namespace Go.Ab
section
variable {P : Program} {self : Self}

/-- The step, as an operation that is carried out. -/
theorem DStep.does {n : Nat} {ops : Array Oper} {base lo : Nat} {o : Oper} {inf : Info} {ts ts' : Tr Value} {m m' : AW} {lg : List Nat} {rd : Option Nat} (h : DStep P self n ops base lo o inf ts m ts' m' lg rd) :
    (wantedA ops ts o = false ∧ ts' = put n ts o.dst undef ∧ m' = m) ∨
    (wantedA ops ts o = true ∧ ∃ v mm m1, mm.heap = m.heap ∧ mm.next = m.next ∧ doOp P self ts o.op mm = some (.val v m1) ∧ ts' = put n ts o.dst v ∧ m'.heap = m1.heap ∧ m'.next = m1.next) := by
  cases h with
  | skip hw => exact .inl ⟨hw, rfl, rfl⟩
  | pure hw hc h => exact .inr ⟨hw, _, m, m, rfl, rfl, by unfold doOp; rw [hc]; simp only [doP, h], rfl, rfl, rfl⟩
  | imm hw hc h => exact .inr ⟨hw, _, m, m, rfl, rfl, by unfold doOp; rw [hc]; simp only [doL, h], rfl, rfl, rfl⟩
  | full hw hc h hv hf => exact .inr ⟨hw, _, m, m, rfl, rfl, by unfold doOp; rw [hc]; simp only [doL, h, hv], rfl, rfl, rfl⟩
  | read hw hc h hv hb => exact .inr ⟨hw, _, m, m, rfl, rfl, by unfold doOp; rw [hc]; simp only [doL, h, hv], rfl, rfl, rfl⟩
  | make hw hc h => exact .inr ⟨hw, _, m, _, rfl, rfl, by unfold doOp; rw [hc]; simp only [doA, h], rfl, rfl, rfl⟩
  | call hw hc hk h => exact .inr ⟨hw, _, ⟨m.heap, m.next, base, []⟩, _, rfl, rfl, h, rfl, rfl, rfl⟩

section
variable (hM : ∀ fr t m out, self fr t m = some out → Mono m out.m) (hS : ∀ fr t m out, self fr t m = some out → Sound P fr t m out)
include hM

theorem DStep.next {n : Nat} {ops : Array Oper} {base lo : Nat} {o : Oper} {inf : Info} {ts ts' : Tr Value} {m m' : AW} {lg : List Nat} {rd : Option Nat} (h : DStep P self n ops base lo o inf ts m ts' m' lg rd) : m.next ≤ m'.next := by
  rcases h.does with ⟨_, _, rfl⟩ | ⟨_, v, mm, m1, h1, h2, h3, _, _, h4⟩
  · exact Nat.le_refl _
  · rw [h4, ← h2]
    exact (doOp_mono hM h3).next

theorem trace_next {n : Nat} {ops : Array Oper} {base lo : Nat} {l : List (Oper × Info)} {T : Nat → Tr Value} {M : Nat → AW} {L : Nat → List Nat} {R : Nat → Option Nat} (h : DTrace P self n ops base lo 0 l T M L R) : ∀ (d i : Nat), i + d ≤ l.length → (M i).next ≤ (M (i + d)).next
  | 0, i, _ => Nat.le_refl _
  | d + 1, i, hd => by
    have h1 := trace_next h d i (by omega)
    have hlt : i + d < l.length := by omega
    have h2 := h.1 (i + d) (l[i + d]).1 (l[i + d]).2 (by omega) (by rw [Nat.sub_zero, List.getElem?_eq_getElem hlt])
    exact Nat.le_trans h1 (h2.next hM)

include hS
theorem ghost_run {n : Nat} {ops : Array Oper} {base lo : Nat} {l : List (Oper × Info)} {T : Nat → Tr Value} {M : Nat → AW} {L : Nat → List Nat} {R : Nat → Option Nat} (h : DTrace P self n ops base lo 0 l T M L R) (hl : ∀ (k : Nat) o inf, l[k]? = some (o, inf) → ops[k]? = some o) {ρ0 : Ren} {w0 : World} {a0 : Act}
    (hr : Rel P ρ0 (M 0) w0) (hf : Fresh ρ0 (M 0) (M l.length)) (ht : TsRel ρ0 n (T 0) a0.tmps) : ∀ (k : Nat), k ≤ l.length → ∃ (ρ : Ren) (w : World) (a : Act), Rel P ρ (M k) w ∧ Fresh ρ (M k) (M l.length) ∧ TsRel ρ n (T k) a.tmps
  | 0, _ => ⟨ρ0, w0, a0, hr, hf, ht⟩
  | k + 1, hk => by
    obtain ⟨ρ, w, a, q1, q2, q3⟩ := ghost_run h hl hr hf ht k (by omega)
    have hlt : k < l.length := by omega
    have hget : l[k]? = some (l[k].1, l[k].2) := by rw [List.getElem?_eq_getElem hlt]
    have hst := h.1 k _ _ (by omega) (by rw [Nat.sub_zero]; exact hget)
    have ho := hl k _ _ hget
    have hnx := trace_next hM h (l.length - (k + 1)) (k + 1) (by omega)
    rw [show k + 1 + (l.length - (k + 1)) = l.length by omega] at hnx
    have hw := wanted_rel q3 ops l[k].1
    rcases hst.does with ⟨_, h2, h3⟩ | ⟨hwt, v, mm, m1, h1, h2, h3, h4, h5, h6⟩
    · rw [h2, h3]
      exact ⟨ρ, w, a.put l[k].1.dst undef, q1, q2, q3.put (undef_rel _) _⟩
    · have hrm : Rel P ρ mm w := q1.of_heap rfl h1
      have hE : ERel P ρ (T k) a.eval := erel_of q3 q1.glob
      rw [hwt] at hw
      have hfm : Fresh ρ mm m1 := fun i x y => q2 i (by rw [← h2]; exact x) (by rw [← h6] at y; omega)
      obtain ⟨ρ', w', v', _, r2, r3, r4⟩ := op_follows (b := baseFr 0) (k := []) (cs := []) (rest := []) hS ho hw.symm rfl hE hrm h3 hfm
      refine ⟨ρ', w', a.put l[k].1.dst v', r2.of_heap rfl h5, fun i x y => ?_, ?_⟩
      · rw [r3.only i (.inr (by rw [← h6]; exact x))]
        have := r3.next
        exact q2 i (by rw [← h2]; omega) y
      · rw [h4]
        exact (q3.mono r3.le).put r4 _

/-- No block lies behind the last number. -/
theorem no_junk {n : Nat} {ops : Array Oper} {base lo : Nat} {l : List (Oper × Info)} {T : Nat → Tr Value} {M : Nat → AW} {L : Nat → List Nat} {R : Nat → Option Nat} (h : DTrace P self n ops base lo 0 l T M L R) (hl : ∀ (k : Nat) o inf, l[k]? = some (o, inf) → ops[k]? = some o) {ρ0 : Ren} {w0 : World} {a0 : Act}
    (hr : Rel P ρ0 (M 0) w0) (hf : Fresh ρ0 (M 0) (M l.length)) (ht : TsRel ρ0 n (T 0) a0.tmps) {k b : Nat} (hk : k ≤ l.length) (h1 : (M k).next ≤ b) (h2 : b < (M l.length).next) : (M k).heap.get b = none := by
  obtain ⟨ρ, w, a, q1, q2, q3⟩ := ghost_run hM hS h hl hr hf ht k hk
  cases hg : (M k).heap.get b with
  | none => rfl
  | some o =>
    obtain ⟨s, x, r1, _⟩ := q1.obj b o hg
    rw [q2 b h1 h2] at r1
    cases r1

end
end
end Go.Ab

/-
  THE ENGINE, 38: a region that draws: what waits for what.
-/
namespace Go.Ab

def preOf (acc : List Nat) (o : Oper) : Nat := o.after.toList.foldl (fun s e => bif Region.binds .any e then s ||| (2 ^ e.on) ||| (acc.getD e.on 0) else s) 0

theorem predsGo_eq : ∀ (os : List Oper) (acc : List Nat), predsGo os acc = match os with | [] => acc | o :: os => predsGo os (acc ++ [preOf acc o])
  | [], _ => rfl
  | _ :: _, _ => rfl

theorem predsGo_spec : ∀ (os : List Oper) (acc : List Nat), (predsGo os acc).length = acc.length + os.length ∧ (∀ i, i < acc.length → (predsGo os acc)[i]? = acc[i]?) ∧
    ∀ k o, os[k]? = some o → (predsGo os acc)[acc.length + k]? = some (preOf ((predsGo os acc).take (acc.length + k)) o)
  | [], acc => ⟨by simp [predsGo], fun _ _ => rfl, fun k o h => by simp at h⟩
  | o :: os, acc => by
    rw [predsGo_eq]
    obtain ⟨h1, h2, h3⟩ := predsGo_spec os (acc ++ [preOf acc o])
    have hlen : (acc ++ [preOf acc o]).length = acc.length + 1 := by simp
    have htake : (predsGo os (acc ++ [preOf acc o])).take acc.length = acc := by
      apply List.ext_getElem?
      intro i
      rw [List.getElem?_take]
      by_cases hi : i < acc.length
      · rw [if_pos hi, h2 i (by omega), List.getElem?_append_left hi]
      · rw [if_neg hi, List.getElem?_eq_none (by omega)]
    refine ⟨by rw [h1, hlen]; simp; omega, fun i hi => by rw [h2 i (by omega), List.getElem?_append_left hi], fun k o' hk => ?_⟩
    cases k with
    | zero =>
      simp only [List.getElem?_cons_zero, Option.some.injEq] at hk
      subst hk
      rw [Nat.add_zero, htake, h2 acc.length (by omega)]
      simp
    | succ k =>
      have := h3 k o' (by simpa using hk)
      rw [hlen] at this
      rw [show acc.length + (k + 1) = acc.length + 1 + k by omega]
      exact this

theorem bits_fold (acc : List Nat) (j : Nat) : ∀ (es : List Edge) (s : Nat), (es.foldl (fun s e => bif Region.binds .any e then s ||| (2 ^ e.on) ||| (acc.getD e.on 0) else s) s).testBit j = true →
    s.testBit j = true ∨ ∃ e ∈ es, Region.binds .any e = true ∧ (j = e.on ∨ (acc.getD e.on 0).testBit j = true)
  | [], s, h => .inl h
  | e :: es, s, h => by
    rw [List.foldl_cons] at h
    rcases bits_fold acc j es _ h with h1 | ⟨e', h1, h2⟩
    · cases hb : Region.binds .any e with
      | true =>
        rw [hb] at h1
        simp only [cond_true, Nat.testBit_or, Bool.or_eq_true, Nat.testBit_two_pow, decide_eq_true_eq] at h1
        rcases h1 with (h1 | h1) | h1
        · exact .inl h1
        · exact .inr ⟨e, List.mem_cons_self, hb, .inl h1.symm⟩
        · exact .inr ⟨e, List.mem_cons_self, hb, .inr h1⟩
      | false =>
        rw [hb] at h1
        exact .inl h1
    · exact .inr ⟨e', List.mem_cons_of_mem _ h1, h2⟩

/-- What an operation waits for: an edge's, or what that waits for. -/
theorem pre_spec {os : List Oper} {i j : Nat} {o : Oper} (ho : os[i]? = some o) (h : ((preds os).getD i 0).testBit j = true) : ∃ e ∈ o.after, Region.binds .any e = true ∧ (j = e.on ∨ ((preds os).getD e.on 0).testBit j = true) := by
  obtain ⟨h1, _, h3⟩ := predsGo_spec os []
  have hi := h3 i o ho
  simp only [List.length_nil, Nat.zero_add] at hi
  have e1 : (preds os).getD i 0 = preOf ((preds os).take i) o := by
    unfold preds
    rw [List.getD_eq_getElem?_getD, hi]
    rfl
  rw [e1] at h
  rcases bits_fold _ j _ 0 h with h2 | ⟨e, q1, q2, q3⟩
  · simp at h2
  · refine ⟨e, by simpa using q1, q2, q3.imp id fun q4 => ?_⟩
    rw [List.getD_eq_getElem?_getD, List.getElem?_take] at q4
    split at q4
    · rw [List.getD_eq_getElem?_getD]
      exact q4
    · simp at q4

/-- What the engine knows of a region's operations. -/
structure InfoOk (P : Program) (ops : Array Oper) (i : Nat) (o : Oper) (inf : Info) : Prop where
  at_ : ops[i]? = some o
  num : inf.i = i
  kind : inf.cls = Ab.cls P o.op
  prec : inf.pre = (preds ops.toList).getD i 0
  fullOk : inf.full = true → ∀ (j : Nat) (oj : Oper), ops[j]? = some oj → (Ab.cls P oj.op = .h → j = i ∨ ((preds ops.toList).getD i 0).testBit j = true ∨ ((preds ops.toList).getD j 0).testBit i = true) ∧ (Ab.cls P oj.op = .a → i ≤ j ∨ ((preds ops.toList).getD i 0).testBit j = true)
  hokOk : inf.hok = true → ∀ (j : Nat) (oj : Oper), j < i → ops[j]? = some oj → Ab.cls P oj.op = .h ∨ Ab.cls P oj.op = .a → ((preds ops.toList).getD i 0).testBit j = true

theorem infos_ok {P : Program} {ops : Array Oper} {i : Nat} {o : Oper} {inf : Info} (h : (ops.toList.zip (infos P ops.toList))[i]? = some (o, inf)) : InfoOk P ops i o inf := by
  rw [List.getElem?_zip_eq_some] at h
  obtain ⟨h1, h2⟩ := h
  have ho : ops[i]? = some o := by simpa using h1
  have hlt : i < ops.size := (Array.getElem?_eq_some_iff.1 ho).1
  simp only [infos, Array.length_toList] at h2
  rw [List.getElem?_map, List.getElem?_range hlt] at h2
  simp only [Option.map_some, Option.some.injEq] at h2
  have hc : ∀ (j : Nat) (oj : Oper), ops[j]? = some oj → (ops.toList.map fun o => Ab.cls P o.op).getD j .h = Ab.cls P oj.op := by
    intro j oj hj
    rw [List.getD_eq_getElem?_getD, List.getElem?_map]
    have : ops.toList[j]? = some oj := by simpa using hj
    rw [this]
    rfl
  subst h2
  refine ⟨ho, rfl, hc i o ho, rfl, fun hf j oj hj => ?_, fun hk j oj hji hj hcl => ?_⟩
  · have hjl : j < ops.size := (Array.getElem?_eq_some_iff.1 hj).1
    have := List.all_eq_true.1 hf j (List.mem_range.2 hjl)
    rw [hc j oj hj] at this
    constructor
    · intro hcl
      rw [hcl] at this
      simp only [nbeq, Bool.or_eq_true, decide_eq_true_eq] at this
      rcases this with (h | h) | h
      · exact .inl h
      · exact .inr (.inl h)
      · exact .inr (.inr h)
    · intro hcl
      rw [hcl] at this
      simpa [nble] using this
  · have := List.all_eq_true.1 hk j (List.mem_range.2 hji)
    rw [hc j oj hj] at this
    rcases hcl with hcl | hcl <;> rw [hcl] at this <;> exact this

end Go.Ab

/-
  THE ENGINE, 39: a region that draws: the temporaries.
-/
namespace Go.Ab

theorem dstsOf_mem : ∀ {os : List Oper} {i0 k : Nat} {o : Oper} {d : Tmp}, os[k]? = some o → o.dst = some d → (d, i0 + k) ∈ dstsOf os i0
  | [], _, _, _, _, h, _ => by simp at h
  | o :: os, i0, 0, o', d, h, hd => by
    simp only [List.getElem?_cons_zero, Option.some.injEq] at h
    subst h
    unfold dstsOf
    rw [hd]
    exact List.mem_cons_self
  | o :: os, i0, k + 1, o', d, h, hd => by
    have := dstsOf_mem (i0 := i0 + 1) (by simpa using h : os[k]? = some o') hd
    rw [show i0 + (k + 1) = i0 + 1 + k by omega]
    unfold dstsOf
    split
    · exact List.mem_cons_of_mem _ this
    · exact this

theorem apartT_spec : ∀ {ds : List (Tmp × Nat)} {d : Tmp} {i j : Nat}, apartT ds = true → (d, i) ∈ ds → (d, j) ∈ ds → i = j
  | [], _, _, _, _, h, _ => by cases h
  | (e, k) :: ds, d, i, j, h, h1, h2 => by
    simp only [apartT, Bool.and_eq_true, List.all_eq_true, Bool.not_eq_true', nbeq, decide_eq_false_iff_not] at h
    cases h1 with
    | head =>
      cases h2 with
      | head => rfl
      | tail _ h2 => exact absurd rfl (h.1 _ h2)
    | tail _ h1 =>
      cases h2 with
      | head => exact absurd rfl (h.1 _ h1)
      | tail _ h2 => exact apartT_spec h.2 h1 h2

theorem looksAll_spec {ds : List (Tmp × Nat)} : ∀ {l : List (Oper × Info)} {k : Nat} {o : Oper} {inf : Info}, looksAll ds l = true → l[k]? = some (o, inf) → inf.pre < 2 ^ inf.i ∧ looksOk ds inf.pre o = true
  | [], _, _, _, _, h => by simp at h
  | (o, inf) :: l, 0, o', inf', h, hk => by
    simp only [List.getElem?_cons_zero, Option.some.injEq, Prod.mk.injEq] at hk
    obtain ⟨rfl, rfl⟩ := hk
    simp only [looksAll, Bool.and_eq_true, nblt, decide_eq_true_eq] at h
    exact h.1
  | (o, inf) :: l, k + 1, o', inf', h, hk => by
    simp only [looksAll, Bool.and_eq_true] at h
    exact looksAll_spec h.2 (by simpa using hk)

theorem looksOk_spec {ds : List (Tmp × Nat)} {pre : Nat} {o : Oper} (h : looksOk ds pre o = true) {d : Tmp} {j : Nat} (hm : (d, j) ∈ ds) : pre.testBit j = true ∨ (Operand.tmp d ∉ opsOf o.op ∧ ∀ g w, o.guard = some (g, w) → g ≠ j) := by
  have := List.all_eq_true.1 h _ hm
  simp only [Bool.or_eq_true, Bool.and_eq_true, Bool.not_eq_true', List.any_eq_false] at this
  refine this.imp id fun ⟨h1, h2⟩ => ⟨fun hin => ?_, fun g w hg => ?_⟩
  · have := h1 _ hin
    simp [isTmp] at this
  · rw [hg] at h2
    simpa [nbeq] using h2

theorem opsOf_mem {P : Program} {self : Self} {ts : Tr Value} {m : AW} {o : Op} {r : Rs} (h : doOp P self ts o m = some r) {x : Operand} (hx : x ∈ o.operands) : x ∈ opsOf o := by
  cases o <;> simp only [Op.operands, Call.operands] at hx <;> simp only [opsOf, callOps]
  case call c =>
    cases hc : c.callee <;> rw [hc] at hx <;> simpa using hx
  all_goals first
    | (simp at hx; done)
    | (simp [doOp, cls, opH] at h; done)
    | (simpa [or_assoc] using hx; done)

/-- What a region's temporaries are like. -/
structure TmpsOk (ops : Array Oper) (pre : Nat → Nat) : Prop where
  one : ∀ (i j : Nat) (oi oj : Oper) (d : Tmp), ops[i]? = some oi → ops[j]? = some oj → oi.dst = some d → oj.dst = some d → i = j
  below : ∀ (i j : Nat), i < ops.size → (pre i).testBit j = true → j < i
  looks : ∀ (i j : Nat) (oi oj : Oper) (d : Tmp), ops[i]? = some oi → ops[j]? = some oj → oj.dst = some d → Operand.tmp d ∈ opsOf oi.op → (pre i).testBit j = true
  guards : ∀ (i g : Nat) (w : Bool) (oi og : Oper) (d : Tmp), ops[i]? = some oi → oi.guard = some (g, w) → ops[g]? = some og → og.dst = some d → (pre i).testBit g = true

theorem tmps_ok {P : Program} {ops : Array Oper} (h : tmpsOk (ops.toList.zip (infos P ops.toList)) ops.toList = true) : TmpsOk ops (fun i => (preds ops.toList).getD i 0) := by
  simp only [tmpsOk, Bool.and_eq_true] at h
  obtain ⟨h1, h2⟩ := h
  have mem : ∀ {i : Nat} {o : Oper} {d : Tmp}, ops[i]? = some o → o.dst = some d → (d, i) ∈ dstsOf ops.toList 0 := by
    intro i o d ho hd
    have := dstsOf_mem (os := ops.toList) (i0 := 0) (k := i) (by simpa using ho) hd
    rwa [Nat.zero_add] at this
  have at_ : ∀ {i : Nat} {o : Oper}, ops[i]? = some o → ∃ inf, (ops.toList.zip (infos P ops.toList))[i]? = some (o, inf) ∧ InfoOk P ops i o inf := by
    intro i o ho
    have hlt : i < ops.size := (Array.getElem?_eq_some_iff.1 ho).1
    have hl : i < (ops.toList.zip (infos P ops.toList)).length := by simp [infos, hlt]
    have hget := List.getElem?_eq_getElem hl
    have hinf := infos_ok (P := P) (ops := ops) (i := i) (o := (ops.toList.zip (infos P ops.toList))[i].1) (inf := (ops.toList.zip (infos P ops.toList))[i].2) hget
    have : (ops.toList.zip (infos P ops.toList))[i].1 = o := by
      have := hinf.at_
      rw [ho] at this
      exact (Option.some.inj this).symm
    exact ⟨_, by rw [hget, ← this], by rw [← this]; exact hinf⟩
  refine ⟨fun i j oi oj d hi hj hd1 hd2 => apartT_spec h1 (mem hi hd1) (mem hj hd2), fun i j hi hb => ?_, fun i j oi oj d hi hj hd hin => ?_, fun i g w oi og d hi hg ho hd => ?_⟩
  · obtain ⟨inf, q1, q2⟩ := at_ (Array.getElem?_eq_getElem hi)
    have := (looksAll_spec h2 q1).1
    rw [q2.num, q2.prec] at this
    exact Nat.lt_of_not_le fun hle => by
      have := Nat.testBit_lt_two_pow (Nat.lt_of_lt_of_le this (Nat.pow_le_pow_right (by omega) hle))
      have hb2 : ((preds ops.toList).getD i 0).testBit j = true := hb
      rw [this] at hb2
      cases hb2
  · obtain ⟨inf, q1, q2⟩ := at_ hi
    have := (looksAll_spec h2 q1).2
    rw [q2.prec] at this
    rcases looksOk_spec this (mem hj hd) with h3 | ⟨h3, _⟩
    · exact h3
    · exact absurd hin h3
  · obtain ⟨inf, q1, q2⟩ := at_ hi
    have := (looksAll_spec h2 q1).2
    rw [q2.prec] at this
    rcases looksOk_spec this (mem ho hd) with h3 | ⟨_, h3⟩
    · exact h3
    · exact absurd rfl (h3 g w hg)

end Go.Ab

/-
  THE ENGINE, 40: a region that draws: the memory in the order of the text.
-/
namespace Go.Ab

theorem infos_at {P : Program} {ops : Array Oper} {i : Nat} {o : Oper} (ho : ops[i]? = some o) : ∃ inf, (ops.toList.zip (infos P ops.toList))[i]? = some (o, inf) ∧ InfoOk P ops i o inf := by
  have hlt : i < ops.size := (Array.getElem?_eq_some_iff.1 ho).1
  have hl : i < (ops.toList.zip (infos P ops.toList)).length := by simp [infos, hlt]
  have hget := List.getElem?_eq_getElem hl
  have hinf := infos_ok (P := P) (ops := ops) (i := i) (o := (ops.toList.zip (infos P ops.toList))[i].1) (inf := (ops.toList.zip (infos P ops.toList))[i].2) hget
  have : (ops.toList.zip (infos P ops.toList))[i].1 = o := by
    have := hinf.at_
    rw [ho] at this
    exact (Option.some.inj this).symm
  exact ⟨_, by rw [hget, ← this], by rw [← this]; exact hinf⟩

abbrev preAt (ops : Array Oper) (i : Nat) : Nat := (preds ops.toList).getD i 0

/-- All that is fixed while a region runs. -/
structure Ctx (P : Program) (slf : Self) (n base lo : Nat) (ops : Array Oper) (T : Nat → Tr Value) (M : Nat → AW) (L : Nat → List Nat) (R : Nat → Option Nat) : Prop where
  mono : ∀ fr t m out, slf fr t m = some out → Mono m out.m
  sound : ∀ fr t m out, slf fr t m = some out → Sound P fr t m out
  tr : DTrace P slf n ops base lo 0 (ops.toList.zip (infos P ops.toList)) T M L R
  tm : TmpsOk ops (preAt ops)
  nj : ∀ k b, k ≤ ops.size → (M k).next ≤ b → b < (M ops.size).next → (M k).heap.get b = none
  low : base = (M 0).next

def Amk (P : Program) (ops : Array Oper) (T : Nat → Tr Value) (i : Nat) (x : AObj) : Prop := ∃ o f, ops[i]? = some o ∧ wantedA ops (T i) o = true ∧ cls P o.op = .a ∧ opA P (T i) o.op = some (x, f)
def Hst (P : Program) (ops : Array Oper) (T : Nat → Tr Value) (i : Nat) : Prop := ∃ o, ops[i]? = some o ∧ wantedA ops (T i) o = true ∧ cls P o.op = .h

section
variable {P : Program} {slf : Self} {n base lo : Nat} {ops : Array Oper} {T : Nat → Tr Value} {M : Nat → AW} {L : Nat → List Nat} {R : Nat → Option Nat}

theorem Amk.lt {i : Nat} {x : AObj} (h : Amk P ops T i x) : i < ops.size := by
  obtain ⟨o, f, h1, _⟩ := h
  exact (Array.getElem?_eq_some_iff.1 h1).1

theorem Amk.uniq {i : Nat} {x y : AObj} (h : Amk P ops T i x) (k : Amk P ops T i y) : x = y := by
  obtain ⟨o, f, h1, _, _, h4⟩ := h
  obtain ⟨o2, f2, k1, _, _, k4⟩ := k
  rw [h1] at k1
  cases k1
  rw [h4] at k4
  cases k4
  rfl

namespace Ctx
variable (C : Ctx P slf n base lo ops T M L R)
include C

theorem len : (ops.toList.zip (infos P ops.toList)).length = ops.size := by
  have _ := C
  simp [infos]

theorem step {i : Nat} {o : Oper} (ho : ops[i]? = some o) : ∃ inf, InfoOk P ops i o inf ∧ (ops.toList.zip (infos P ops.toList))[i]? = some (o, inf) ∧ DStep P slf n ops base lo o inf (T i) (M i) (T (i + 1)) (M (i + 1)) (L i) (R i) := by
  obtain ⟨inf, h1, h2⟩ := infos_at (P := P) ho
  exact ⟨inf, h2, h1, C.tr.1 i o inf (Nat.zero_le _) (by rw [Nat.sub_zero]; exact h1)⟩

theorem nextLe {i j : Nat} (hij : i ≤ j) (hj : j ≤ ops.size) : (M i).next ≤ (M j).next := by
  have := trace_next C.mono C.tr (j - i) i (by rw [C.len]; omega)
  rwa [show i + (j - i) = j by omega] at this

theorem made {i : Nat} {x : AObj} (h : Amk P ops T i x) : (M (i + 1)).heap.get (M i).next = some x ∧ (M (i + 1)).next = (M i).next + 1 ∧ ∀ b, b ≠ (M i).next → (M (i + 1)).heap.get b = (M i).heap.get b := by
  obtain ⟨o, f, h1, h2, h3, h4⟩ := h
  obtain ⟨inf, _, _, hs⟩ := C.step h1
  generalize M (i + 1) = m' at hs ⊢
  generalize T (i + 1) = t' at hs
  generalize L i = lg at hs
  generalize R i = rd at hs
  cases hs with
  | skip hw => rw [h2] at hw; cases hw
  | pure hw hc h => rw [h3] at hc; cases hc
  | imm hw hc h => rw [h3] at hc; cases hc
  | full hw hc h hv hf => rw [h3] at hc; cases hc
  | read hw hc h hv hb => rw [h3] at hc; cases hc
  | make hw hc h =>
    rw [h4] at h
    cases h
    exact ⟨by rw [AW.new_get, if_pos rfl], rfl, fun b hb => by rw [AW.new_get, if_neg hb]⟩
  | call hw hc hk h => rw [h3] at hc; cases hc

theorem same {i : Nat} (hi : i < ops.size) (hh : ¬ Hst P ops T i) (ha : ∀ x, ¬ Amk P ops T i x) : (M (i + 1)).heap = (M i).heap := by
  have h1 : ops[i]? = some ops[i] := Array.getElem?_eq_getElem hi
  obtain ⟨inf, _, _, hs⟩ := C.step h1
  generalize M (i + 1) = m' at hs ⊢
  generalize T (i + 1) = t' at hs
  generalize L i = lg at hs
  generalize R i = rd at hs
  cases hs with
  | skip hw => rfl
  | pure hw hc h => rfl
  | imm hw hc h => rfl
  | full hw hc h hv hf => rfl
  | read hw hc h hv hb => rfl
  | make hw hc h => exact absurd ⟨_, _, h1, hw, hc, h⟩ (ha _)
  | call hw hc hk h => exact absurd ⟨_, h1, hw, hc⟩ hh

theorem keeps {i b : Nat} (hi : i < ops.size) (hh : ¬ Hst P ops T i) (ha : ∀ x, Amk P ops T i x → b ≠ (M i).next) : (M (i + 1)).heap.get b = (M i).heap.get b := by
  by_cases h : ∃ x, Amk P ops T i x
  · obtain ⟨x, hx⟩ := h
    exact (C.made hx).2.2 b (ha x hx)
  · rw [C.same hi hh fun x hx => h ⟨x, hx⟩]

theorem unlogged {i b : Nat} (hi : i < ops.size) (hb : b < base) (hl : b ∉ L i) : (M (i + 1)).heap.get b = (M i).heap.get b := by
  by_cases hh : Hst P ops T i
  · obtain ⟨o, h1, h2, h3⟩ := hh
    have hnx : base ≤ (M i).next := by rw [C.low]; exact C.nextLe (Nat.zero_le _) (by omega)
    obtain ⟨inf, _, _, hs⟩ := C.step h1
    generalize M (i + 1) = m' at hs ⊢
    generalize T (i + 1) = t' at hs
    generalize L i = lg at hs hl
    generalize R i = rd at hs
    cases hs with
    | skip hw => rfl
    | pure hw hc h => rfl
    | imm hw hc h => rfl
    | full hw hc h hv hf => rfl
    | read hw hc h hv hb => rfl
    | make hw hc h => rw [h3] at hc; cases hc
    | call hw hc hk h => exact (doOp_mono C.mono h).same hnx b hb hl
  · refine C.keeps hi hh fun x hx => ?_
    have : base ≤ (M i).next := by rw [C.low]; exact C.nextLe (Nat.zero_le _) (by omega)
    omega

theorem seg {b p : Nat} : ∀ (d : Nat), p + d ≤ ops.size → (∀ j, p ≤ j → j < p + d → ¬ Hst P ops T j) → (∀ j x, p ≤ j → j < p + d → Amk P ops T j x → b ≠ (M j).next) → (M (p + d)).heap.get b = (M p).heap.get b
  | 0, _, _, _ => rfl
  | d + 1, hd, hh, ha => by
    rw [← seg d (by omega) (fun j h1 h2 => hh j h1 (by omega)) (fun j x h1 h2 => ha j x h1 (by omega))]
    exact C.keeps (i := p + d) (by omega) (hh (p + d) (by omega) (by omega)) fun x hx => ha (p + d) x (by omega) (by omega) hx

theorem segLog {b p : Nat} (hb : b < base) : ∀ (d : Nat), p + d ≤ ops.size → (∀ j, p ≤ j → j < p + d → b ∉ L j) → (M (p + d)).heap.get b = (M p).heap.get b
  | 0, _, _ => rfl
  | d + 1, hd, hh => by
    rw [← segLog hb d (by omega) (fun j h1 h2 => hh j h1 (by omega))]
    exact C.unlogged (i := p + d) (by omega) hb (hh (p + d) (by omega) (by omega))

theorem apartIds {i j : Nat} {x y : AObj} (h : Amk P ops T i x) (k : Amk P ops T j y) (e : (M i).next = (M j).next) : i = j := by
  rcases Nat.lt_trichotomy i j with hl | he | hl
  · have h1 := (C.made h).2.1
    have := C.nextLe (i := i + 1) (j := j) hl (Nat.le_of_lt k.lt)
    omega
  · exact he
  · have h1 := (C.made k).2.1
    have := C.nextLe (i := j + 1) (j := i) hl (Nat.le_of_lt h.lt)
    omega

theorem segMade {p d j : Nat} {x : AObj} (hd : p + d ≤ ops.size) (hh : ∀ j, p ≤ j → j < p + d → ¬ Hst P ops T j) (h1 : p ≤ j) (h2 : j < p + d) (h : Amk P ops T j x) : (M (p + d)).heap.get (M j).next = some x := by
  have := C.seg (b := (M j).next) (p := j + 1) (p + d - (j + 1)) (by omega) (fun i a b => hh i (by omega) (by omega)) (fun i y a b hy e => by
    have := C.apartIds h hy e
    omega)
  rw [show j + 1 + (p + d - (j + 1)) = p + d by omega] at this
  rw [this]
  exact (C.made h).1

end Ctx
end
end Go.Ab

/-
  THE ENGINE, 41: a region that draws: the temporaries, and how a later memory is put together.
-/
namespace Go.Ab

/-- The temporaries that are named in a list of operands. -/
def keepT (ts : Tr Value) : List Operand → Tr Value
  | [] => .lf
  | .tmp t :: xs => (keepT ts xs).set t (ts.get t)
  | _ :: xs => keepT ts xs

theorem keepT_in (ts : Tr Value) : ∀ {xs : List Operand} {t : Tmp}, Operand.tmp t ∈ xs → (keepT ts xs).get t = ts.get t
  | [], _, h => by cases h
  | x :: xs, t, h => by
    cases x with
    | tmp u =>
      simp only [keepT, Tr.get_set]
      by_cases e : t = u
      · subst e; simp
      · rw [if_neg e]
        cases h with
        | head => exact absurd rfl e
        | tail _ h => exact keepT_in ts h
    | _ =>
      simp only [keepT]
      cases h with
      | tail _ h => exact keepT_in ts h

theorem keepT_out (ts : Tr Value) : ∀ {xs : List Operand} {t : Tmp}, Operand.tmp t ∉ xs → (keepT ts xs).get t = none
  | [], _, _ => rfl
  | x :: xs, t, h => by
    simp only [List.mem_cons, not_or] at h
    cases x with
    | tmp u =>
      simp only [keepT, Tr.get_set]
      have e : t ≠ u := fun e => h.1 (by rw [e])
      rw [if_neg e]
      exact keepT_out ts h.2
    | const _ => simp only [keepT]; exact keepT_out ts h.2
    | global _ => simp only [keepT]; exact keepT_out ts h.2
    | func _ => simp only [keepT]; exact keepT_out ts h.2

section
variable {P : Program} {ρ ρ' : Ren} {m m' : AW} {w w' : World} {ts : Tr Value} {slf : Self}

open Classical in
noncomputable def keepE (a : Act) (xs : List Operand) (x : Operand) : Value :=
  match x with
  | .tmp t => if Operand.tmp t ∈ xs then a.eval (.tmp t) else undef
  | x => a.eval x

theorem keepE_in {a : Act} {xs : List Operand} {x : Operand} (h : x ∈ xs) : keepE a xs x = a.eval x := by
  cases x <;> simp [keepE]
  intro h2
  exact absurd h h2

/-- What an operation looks at, alone. -/
theorem keep_rel {a : Act} {xs : List Operand} (hg : ∀ g, g < P.globals.size → ∃ c, ρ g = some ⟨g, 0, c⟩) (hl : ∀ t, Operand.tmp t ∈ xs → VRel ρ ((ts.get t).getD undef) (a.tmps.getD t undef)) : ERel P ρ (keepT ts xs) (keepE a xs) := by
  intro x v hx
  cases x with
  | tmp t =>
    simp only [ev, Option.some.injEq] at hx
    subst hx
    by_cases h : Operand.tmp t ∈ xs
    · rw [keepT_in ts h, keepE_in h]
      exact hl t h
    · rw [keepT_out ts h]
      simp only [keepE, if_neg h]
      exact undef_rel ρ
  | const c =>
    simp only [ev] at hx
    obtain ⟨hgr, hx⟩ := bif_some hx
    cases hx
    exact ground_rel ρ _ hgr
  | global g =>
    simp only [ev] at hx
    obtain ⟨hlt, hx⟩ := bif_some hx
    simp only [nblt, decide_eq_true_eq] at hlt
    cases hx
    obtain ⟨c, hc⟩ := hg g hlt
    exact .ptr hc
  | func f =>
    simp only [ev, Option.some.injEq] at hx
    subst hx
    exact .func .nil .nil

theorem keep_ev {xs : List Operand} {x : Operand} (h : x ∈ xs) : ev P ts x = ev P (keepT ts xs) x := by
  cases x with
  | tmp t =>
    simp only [ev]
    rw [keepT_in ts h]
  | _ => rfl

/-- One temporary's word is enough for a guard. -/
theorem wanted_at {tmps : Array Value} (ops : Array Oper) (o : Oper) (h : ∀ g want t, o.guard = some (g, want) → (ops[g]?).bind (·.dst) = some t → VRel ρ ((ts.get t).getD undef) (tmps.getD t undef)) : wantedA ops ts o = Region.wanted o (yielded ops tmps) := by
  unfold wantedA Region.wanted
  cases hg : o.guard with
  | none => rfl
  | some jw =>
    obtain ⟨j, want⟩ := jw
    simp only [yielded]
    cases hd : (ops[j]?).bind (·.dst) with
    | none => simp
    | some t =>
      simp only [Option.bind_some]
      have h2 := h j want t hg hd
      rw [Array.getD_eq_getD_getElem?] at h2
      cases hx : ts.get t with
      | none =>
        rw [hx] at h2
        cases hy : tmps[t]? with
        | none => simp
        | some y =>
          rw [hy] at h2
          simp only [Option.getD_none, Option.getD_some] at h2
          unfold undef at h2
          generalize (#[] : Array Value) = z at h2
          cases h2
          simp
      | some x =>
        rw [hx] at h2
        simp only [Option.getD_some] at h2
        cases hy : tmps[t]? with
        | none =>
          rw [hy] at h2
          simp only [Option.getD_none] at h2
          unfold undef at h2
          generalize (#[] : Array Value) = z at h2
          cases h2
          simp
        | some y =>
          rw [hy] at h2
          simp only [Option.getD_some] at h2
          cases h2 <;> simp

/-- A later growth, seen from the start. -/
theorem Grow.glue {ρ0 : Ren} {m0 mS mA mB mT : AW} {w0 : World} (g : Grow ρ0 ρ m0 mS w0 w) (k : Grow ρ ρ' mA mB w w') (hA : ∀ b o, mA.heap.get b = some o → mS.heap.get b = some o) (hlo : m0.next ≤ mA.next) (hhi : mB.next ≤ mS.next) (hn : mT.next = mS.next)
    (own : ∀ B, Own ρ' mT B → Own ρ' mB B ∨ Own ρ mS B) (occ : ∀ B, Occ ρ' mT B → Occ ρ' mB B ∨ Occ ρ mS B) : Grow ρ0 ρ' m0 mT w0 w' where
  le := g.le.trans k.le
  only := fun i hi => by
    rw [hn] at hi
    rw [k.only i (by omega), g.only i hi]
  rest := g.rest.trans k.rest
  size := Nat.le_trans g.size k.size
  keep := fun B hB hno => by
    rw [k.keep B (Nat.lt_of_lt_of_le hB g.size) ?_, g.keep B hB hno]
    rintro ⟨b, o, s, h1, h2, h3, h4⟩
    rcases g.own B ⟨b, o, s, hA _ _ h1, h2, h3, h4⟩ with h5 | h5
    · exact hno h5
    · omega
  own := fun B hB => by
    have up : Own ρ mS B → Own ρ0 m0 B ∨ w0.heap.size ≤ B := g.own B
    rcases own B hB with h | h
    · rcases k.own B h with ⟨b, o, s, h1, h2⟩ | h1
      · exact up ⟨b, o, s, hA _ _ h1, h2⟩
      · exact .inr (Nat.le_trans g.size h1)
    · exact up h
  next := by rw [hn]; exact g.next
  occ := fun B hB => by
    rcases occ B hB with h | h
    · rcases k.occ B h with ⟨b, o, s, h1, h2⟩ | h1
      · exact g.occ B ⟨b, o, s, hA _ _ h1, h2⟩
      · exact .inr (Nat.le_trans g.size h1)
    · exact g.occ B h

theorem Grow.of_get {m2 : AW} (h : Grow ρ ρ' m m' w w') (hh : ∀ b o, m2.heap.get b = some o → m'.heap.get b = some o) (hn : m2.next = m'.next) : Grow ρ ρ' m m2 w w' :=
  ⟨h.le, fun i hi => h.only i (by rw [← hn]; exact hi), h.rest, h.size, h.keep, fun B ⟨b, o, s, h1, h2⟩ => h.own B ⟨b, o, s, hh _ _ h1, h2⟩, by rw [hn]; exact h.next, fun B ⟨b, o, s, h1, h2⟩ => h.occ B ⟨b, o, s, hh _ _ h1, h2⟩⟩

end

section
variable {P : Program} {slf : Self} {n base lo : Nat} {ops : Array Oper} {T : Nat → Tr Value} {M : Nat → AW} {L : Nat → List Nat} {R : Nat → Option Nat}

theorem DStep.put {o : Oper} {inf : Info} {ts ts' : Tr Value} {m m' : AW} {lg : List Nat} {rd : Option Nat} (h : DStep P slf n ops base lo o inf ts m ts' m' lg rd) : ∃ v, ts' = Ab.put n ts o.dst v := by
  rcases h.does with ⟨_, h, _⟩ | ⟨_, v, _, _, _, _, _, h, _⟩
  · exact ⟨_, h⟩
  · exact ⟨_, h⟩

theorem put_get {n : Nat} {ts : Tr Value} {d : Option Tmp} {v : Value} {t : Tmp} (h : d ≠ some t ∨ n ≤ t) : (put n ts d v).get t = ts.get t := by
  unfold Ab.put
  cases d with
  | none => rfl
  | some d =>
    simp only
    by_cases hd : d < n
    · have : Nat.blt d n = true := by rw [nblt]; simpa using hd
      rw [this]
      simp only [cond_true, Tr.get_set]
      rw [if_neg ?_]
      rintro rfl
      rcases h with h | h
      · exact h rfl
      · exact Nat.not_lt.2 h hd
    · have : Nat.blt d n = false := by rw [nblt]; simpa using hd
      rw [this]
      rfl

theorem put_same {n : Nat} {ts : Tr Value} {v : Value} {t : Tmp} (h : t < n) : (put n ts (some t) v).get t = some v := by
  unfold Ab.put
  have : Nat.blt t n = true := by rw [nblt]; simpa using h
  simp only [this, cond_true, Tr.get_set, if_true]

namespace Ctx
variable (C : Ctx P slf n base lo ops T M L R)
include C

theorem tmpKeeps {t p : Nat} : ∀ (d : Nat), p + d ≤ ops.size → (n ≤ t ∨ ∀ j o, p ≤ j → j < p + d → ops[j]? = some o → o.dst ≠ some t) → (T (p + d)).get t = (T p).get t
  | 0, _, _ => rfl
  | d + 1, hd, h => by
    rw [← tmpKeeps d (by omega) (h.imp id fun h j o h1 h2 => h j o h1 (by omega))]
    have ho : ops[p + d]? = some ops[p + d] := Array.getElem?_eq_getElem (by omega)
    obtain ⟨inf, _, _, hs⟩ := C.step ho
    obtain ⟨v, hv⟩ := hs.put
    rw [show p + (d + 1) = p + d + 1 by omega, hv]
    refine put_get (h.symm.imp (fun h => h (p + d) _ (by omega) (by omega) ho) id)

end Ctx
end
end Go.Ab

/-
  THE ENGINE, 42: a region that draws: what holds while some of its operations are done.
-/
namespace Go.Ab
section
variable {P : Program} {slf : Self} {n base lo : Nat} {ops : Array Oper} {T : Nat → Tr Value} {M : Nat → AW} {L : Nat → List Nat} {R : Nat → Option Nat}

structure Inv (P : Program) (n : Nat) (ops : Array Oper) (T : Nat → Tr Value) (M : Nat → AW) (ρ0 : Ren) (w0 : World) (ds : List Deferred) (S : Nat → Prop) (H : Nat) (mS : AW) (ρ : Ren) (w : World) (a : Act) : Prop where
  closed : ∀ i j, S i → (preAt ops i).testBit j = true → S j
  hle : H ≤ ops.size
  hst : ∀ j, Hst P ops T j → (S j ↔ j < H)
  made : ∀ j x, j < H → Amk P ops T j x → S j
  rel : Rel P ρ mS w
  nx : mS.next = (M ops.size).next
  extra : ∀ j x, H ≤ j → Amk P ops T j x → S j → mS.heap.get (M j).next = some x
  rest : ∀ b, (∀ j x, H ≤ j → Amk P ops T j x → S j → b ≠ (M j).next) → mS.heap.get b = (M H).heap.get b
  free : ∀ j b, j < ops.size → ¬ S j → (M j).next ≤ b → b < (M (j + 1)).next → ρ b = none
  size : a.tmps.size = n
  tmp : ∀ t, (t < n ∧ ∃ j o, ops[j]? = some o ∧ ¬ S j ∧ o.dst = some t) ∨ VRel ρ (((T ops.size).get t).getD undef) (a.tmps.getD t undef)
  grow : Grow ρ0 ρ (M 0) mS w0 w
  defers : a.defers = ds

theorem act_put_get (a : Act) (d : Option Tmp) (v : Value) (t : Tmp) : (a.put d v).tmps.getD t undef = if d = some t ∧ t < a.tmps.size then v else a.tmps.getD t undef := by
  cases d with
  | none => simp [Act.put]
  | some d =>
    simp only [Act.put]
    by_cases hd : d = t
    · subst hd
      by_cases hs : d < a.tmps.size
      · rw [if_pos ⟨rfl, hs⟩, Array.getD_eq_getD_getElem?, Array.getElem?_setIfInBounds_self_of_lt hs]
        rfl
      · rw [if_neg (fun h => hs h.2), Array.setIfInBounds_eq_of_size_le (Nat.le_of_not_lt hs)]
    · rw [if_neg (fun h => hd (Option.some.inj h.1)), Array.getD_eq_getD_getElem?, Array.getElem?_setIfInBounds_ne hd, ← Array.getD_eq_getD_getElem?]

theorem act_put_size (a : Act) (d : Option Tmp) (v : Value) : (a.put d v).tmps.size = a.tmps.size := by
  cases d <;> simp [Act.put]

section
variable (C : Ctx P slf n base lo ops T M L R) {ρ0 ρ ρ' : Ren} {w0 w w' : World} {ds : List Deferred} {S : Nat → Prop} {H : Nat} {mS mA m1 : AW} {a : Act} (I : Inv P n ops T M ρ0 w0 ds S H mS ρ w a)
  {i : Nat} {o : Oper} (ho : ops[i]? = some o)
include C I ho

theorem Inv.looked (hrdy : ∀ j, (preAt ops i).testBit j = true → S j) {t : Tmp} (h : ∀ j oj, ops[j]? = some oj → oj.dst = some t → (preAt ops i).testBit j = true) : VRel ρ (((T i).get t).getD undef) (a.tmps.getD t undef) := by
  have hi : i < ops.size := (Array.getElem?_eq_some_iff.1 ho).1
  rcases I.tmp t with ⟨_, j, oj, hj, hns, hd⟩ | h1
  · exact absurd (hrdy j (h j oj hj hd)) hns
  · have := C.tmpKeeps (t := t) (p := i) (ops.size - i) (by omega) (.inr fun j oj h2 h3 hj hd => by
      have := C.tm.below i j hi (h j oj hj hd)
      omega)
    rw [show i + (ops.size - i) = ops.size by omega] at this
    rw [← this]
    exact h1

theorem Inv.wants (hrdy : ∀ j, (preAt ops i).testBit j = true → S j) : wantedA ops (T i) o = Region.wanted o (yielded ops a.tmps) := by
  refine wanted_at (ρ := ρ) ops o fun g want t hg hd => I.looked C ho hrdy fun j oj hj hdj => ?_
  obtain ⟨og, hog, hdg⟩ := Option.bind_eq_some_iff.1 hd
  have := C.tm.one g j og oj t hog hj hdg hdj
  subst this
  exact C.tm.guards i g want o og t ho hg hog hdg

/-- The operation is carried out on a part of the memory. -/
theorem Inv.run (hrdy : ∀ j, (preAt ops i).testBit j = true → S j) (hw : wantedA ops (T i) o = true) {v : Value} (h : doOp P slf (T i) o.op mA = some (.val v m1)) (hr : Rel P ρ mA w) (hf : Fresh ρ mA m1) {b : Frame} {k : List Item} {cs : List Frame} {rest : List Nat} :
    ∃ ρ' w' v', Steps P (lone (on b a (.inRegion ops (i :: rest) :: k)) cs w) (lone (on b (a.put o.dst v') (.inRegion ops rest :: k)) cs w') ∧ Rel P ρ' m1 w' ∧ Grow ρ ρ' mA m1 w w' ∧ VRel ρ' v v' := by
  have hE : ERel P ρ (keepT (T i) o.op.operands.toList) (keepE a o.op.operands.toList) := keep_rel hr.glob fun t ht => by
    refine I.looked C ho hrdy fun j oj hj hd => C.tm.looks i j o oj t ho hj hd (opsOf_mem h (by simpa using ht))
  have hsel : ∀ cs b, o.op ≠ .select cs b := by
    intro cs b e
    rw [e] at h
    simp [doOp, cls, opH] at h
  have hx : execOp a.eval o = execOp (keepE a o.op.operands.toList) o := execOp_congr o hsel fun x hx => (keepE_in (by simpa using hx)).symm
  rw [doOp_congr (ts2 := keepT (T i) o.op.operands.toList) fun x hx => keep_ev (by simpa using hx)] at h
  exact op_follows (b := b) (k := k) (cs := cs) (rest := rest) C.sound ho (by rw [← I.wants C ho hrdy]; exact hw) hx hE hr h hf

theorem Inv.tmps_step {v v' : Value} (hns : ¬ S i) (hT : T (i + 1) = put n (T i) o.dst v) (hle : ρ.le ρ') (hv : VRel ρ' v v') (t : Tmp) :
    (t < n ∧ ∃ j oj, ops[j]? = some oj ∧ ¬ (S j ∨ j = i) ∧ oj.dst = some t) ∨ VRel ρ' (((T ops.size).get t).getD undef) ((a.put o.dst v').tmps.getD t undef) := by
  have hi : i < ops.size := (Array.getElem?_eq_some_iff.1 ho).1
  rw [act_put_get]
  by_cases h : o.dst = some t ∧ t < a.tmps.size
  · rw [if_pos h]
    have hk := C.tmpKeeps (t := t) (p := i + 1) (ops.size - (i + 1)) (by omega) (.inr fun j oj h2 h3 hj hd => by
      have := C.tm.one i j o oj t ho hj h.1 hd
      omega)
    rw [show i + 1 + (ops.size - (i + 1)) = ops.size by omega, hT, h.1, put_same (by rw [← I.size]; exact h.2)] at hk
    rw [hk]
    exact .inr hv
  · rw [if_neg h]
    rcases I.tmp t with ⟨h1, j, oj, hj, hnj, hd⟩ | h1
    · refine .inl ⟨h1, j, oj, hj, ?_, hd⟩
      rintro (h2 | rfl)
      · exact hnj h2
      · rw [ho] at hj
        cases hj
        exact h ⟨hd, by rw [I.size]; exact h1⟩
    · exact .inr (h1.mono hle)

/-- A step that leaves the memory's list of blocks alone. -/
theorem Inv.still {v v' : Value} (hns : ¬ S i) (hrdy : ∀ j, (preAt ops i).testBit j = true → S j) (hT : T (i + 1) = put n (T i) o.dst v) (hr : Rel P ρ' mS w') (hg : Grow ρ ρ' mS mS w w') (hv : VRel ρ' v v') (hh : ¬ Hst P ops T i) (ha : ∀ x, ¬ Amk P ops T i x) :
    Inv P n ops T M ρ0 w0 ds (fun j => S j ∨ j = i) H mS ρ' w' (a.put o.dst v') where
  closed := fun j l hj hb => by
    rcases hj with hj | rfl
    · exact .inl (I.closed j l hj hb)
    · exact .inl (hrdy l hb)
  hle := I.hle
  hst := fun j hj => by
    rw [← I.hst j hj]
    exact ⟨fun h => h.resolve_right fun e => hh (e ▸ hj), .inl⟩
  made := fun j x h1 h2 => .inl (I.made j x h1 h2)
  rel := hr
  nx := I.nx
  extra := fun j x h1 h2 h3 => I.extra j x h1 h2 (h3.resolve_right fun e => ha x (e ▸ h2))
  rest := fun b hb => I.rest b fun j x h1 h2 h3 => hb j x h1 h2 (.inl h3)
  free := fun j b h1 h2 h3 h4 => by
    rw [hg.only b (Nat.lt_or_ge _ _)]
    exact I.free j b h1 (fun h => h2 (.inl h)) h3 h4
  size := by rw [act_put_size]; exact I.size
  tmp := I.tmps_step C ho hns hT hg.le hv
  grow := I.grow.glue hg (fun _ _ h => h) (by rw [I.nx]; exact C.nextLe (Nat.zero_le _) (Nat.le_refl _)) (Nat.le_refl _) rfl (fun _ h => .inl h) (fun _ h => .inl h)
  defers := by rw [Act.put_defers']; exact I.defers

end
end
end Go.Ab

/-
  THE ENGINE, 43: a region that draws: one more operation.
-/
namespace Go.Ab

theorem add_blocks (h : Tr AObj) (A : Nat → AObj → Prop) (id : Nat → Nat) (hu : ∀ j x y, A j x → A j y → x = y) (hj : ∀ i j x y, A i x → A j y → id i = id j → i = j) :
    ∀ N : Nat, ∃ h' : Tr AObj, (∀ j x, j < N → A j x → h'.get (id j) = some x) ∧ (∀ b, (∀ j x, j < N → A j x → b ≠ id j) → h'.get b = h.get b)
  | 0 => ⟨h, fun j x hl => by omega, fun _ _ => rfl⟩
  | N + 1 => by
    obtain ⟨h', q1, q2⟩ := add_blocks h A id hu hj N
    by_cases e : ∃ x, A N x
    · obtain ⟨x, hx⟩ := e
      refine ⟨h'.set (id N) (some x), fun j y hl hy => ?_, fun b hb => ?_⟩
      · rw [Tr.get_set]
        by_cases e : id j = id N
        · have := hj _ _ _ _ hy hx e
          subst this
          rw [if_pos rfl, hu _ _ _ hx hy]
        · rw [if_neg e]
          refine q1 j y ?_ hy
          have : j ≠ N := fun e2 => e (by rw [e2])
          omega
      · rw [Tr.get_set, if_neg (hb N x (by omega) hx)]
        exact q2 b fun j y hl hy => hb j y (by omega) hy
    · refine ⟨h', fun j y hl hy => ?_, fun b hb => q2 b fun j y hl hy => hb j y (by omega) hy⟩
      refine q1 j y ?_ hy
      have : j ≠ N := fun e2 => e ⟨y, e2 ▸ hy⟩
      omega

section
variable {P : Program} {slf : Self} {n base lo : Nat} {ops : Array Oper} {T : Nat → Tr Value} {M : Nat → AW} {L : Nat → List Nat} {R : Nat → Option Nat}

theorem Amk.plain {i : Nat} {x : AObj} (h : Amk P ops T i x) {ρ : Ren} {e : Operand → Value} (hE : ERel P ρ (T i) e) : mateOf x = none ∧ isRo x = false := by
  obtain ⟨o, f, h1, h2, h3, h4⟩ := h
  obtain ⟨s, _, q1, q2, _⟩ := opA_rel hE h4
  exact ⟨q1, q2⟩

namespace Ctx
variable (C : Ctx P slf n base lo ops T M L R)
include C

theorem logNil {j : Nat} (hj : j < ops.size) (hh : ¬ Hst P ops T j) : L j = [] := by
  have h1 : ops[j]? = some ops[j] := Array.getElem?_eq_getElem hj
  obtain ⟨inf, _, _, hs⟩ := C.step h1
  generalize M (j + 1) = m' at hs
  generalize T (j + 1) = t' at hs
  generalize hl : L j = lg at hs
  generalize R j = rd at hs
  cases hs with
  | call hw hc hk h => exact absurd ⟨_, h1, hw, hc⟩ hh
  | _ => rfl

theorem idBelow {j : Nat} {x : AObj} (h : Amk P ops T j x) : (M j).next < (M ops.size).next := by
  have h1 := (C.made h).2.1
  have := C.nextLe (i := j + 1) (j := ops.size) h.lt (Nat.le_refl _)
  omega

/-- What is made later is not there yet. -/
theorem notYet {p j : Nat} {x : AObj} (h : Amk P ops T j x) (hp : p ≤ j) : (M p).heap.get (M j).next = none :=
  C.nj p _ (by have := h.lt; omega) (C.nextLe hp (Nat.le_of_lt h.lt)) (C.idBelow h)

variable {ρ0 ρ ρ' : Ren} {w0 w w' : World} {ds : List Deferred} {S : Nat → Prop} {H : Nat} {mS mA m1 : AW} {a : Act} (I : Inv P n ops T M ρ0 w0 ds S H mS ρ w a)
  {i : Nat} {o : Oper} (ho : ops[i]? = some o) (hns : ¬ S i) (hrdy : ∀ j, (preAt ops i).testBit j = true → S j)
include I ho hns hrdy

/-- Where nobody writes between, what is there in the order of the text is there. -/
theorem sees (hno : ∀ j, H ≤ j → j < i → ¬ Hst P ops T j) (hno2 : ∀ j, i ≤ j → j < H → ¬ Hst P ops T j) (hall : ∀ j x, j < i → Amk P ops T j x → S j) {b : Nat} {x : AObj} (hb : (M i).heap.get b = some x) : mS.heap.get b = some x := by
  have _ := hns; have _ := hrdy
  have hi : i < ops.size := (Array.getElem?_eq_some_iff.1 ho).1
  have hH := I.hle
  rcases Nat.le_total H i with hle | hle
  · have hseg : i = H + (i - H) := by omega
    by_cases hx : ∃ j y, H ≤ j ∧ Amk P ops T j y ∧ S j ∧ b = (M j).next
    · obtain ⟨j, y, h1, h2, h3, rfl⟩ := hx
      rcases Nat.lt_or_ge j i with hji | hji
      · have := C.segMade (p := H) (d := i - H) (j := j) (x := y) (by omega) (fun j a b => hno j a (by omega)) h1 (by omega) h2
        rw [← hseg, hb] at this
        rw [I.extra j y h1 h2 h3]
        exact this.symm
      · rw [C.notYet h2 hji] at hb
        cases hb
    · rw [I.rest b fun j y h1 h2 h3 e => hx ⟨j, y, h1, h2, h3, e⟩]
      have := C.seg (b := b) (p := H) (i - H) (by omega) (fun j a b => hno j a (by omega)) (fun j y a b2 hy e => hx ⟨j, y, a, hy, hall j y (by omega) hy, e⟩)
      rw [← hseg] at this
      rw [← this]
      exact hb
  · have hseg : H = i + (H - i) := by omega
    rw [I.rest b fun j y h1 h2 h3 e => by
      rw [e, C.notYet h2 (by omega)] at hb
      cases hb]
    have := C.seg (b := b) (p := i) (H - i) (by omega) (fun j a b => hno2 j a (by omega)) (fun j y a b2 hy e => by
      rw [e, C.notYet hy a] at hb
      cases hb)
    rw [← hseg] at this
    rw [this]
    exact hb

theorem sees_full (_hc : cls P o.op = .l) {inf : Info} (hi : InfoOk P ops i o inf) (hf : inf.full = true) {b : Nat} {x : AObj} (hb : (M i).heap.get b = some x) : mS.heap.get b = some x := by
  have hlt : i < ops.size := (Array.getElem?_eq_some_iff.1 ho).1
  have hH := I.hle
  refine C.sees I ho hns hrdy (fun j h1 h2 hh => ?_) (fun j h1 h2 hh => ?_) (fun j y h1 hy => ?_) hb
  · obtain ⟨oj, q1, q2, q3⟩ := hh
    rcases (hi.fullOk hf j oj q1).1 q3 with h | h | h
    · omega
    · have := (I.hst j ⟨oj, q1, q2, q3⟩).1 (hrdy j h)
      omega
    · have := C.tm.below j i (by omega) h
      omega
  · obtain ⟨oj, q1, q2, q3⟩ := hh
    have hSj := (I.hst j ⟨oj, q1, q2, q3⟩).2 h2
    rcases (hi.fullOk hf j oj q1).1 q3 with h | h | h
    · exact hns (h ▸ hSj)
    · have := C.tm.below i j hlt h
      omega
    · exact hns (I.closed j i hSj h)
  · obtain ⟨oj, f, q1, q2, q3, q4⟩ := hy
    rcases (hi.fullOk hf j oj q1).2 q3 with h | h
    · omega
    · exact hrdy j h

theorem sees_low (hc : cls P o.op = .l) {b : Nat} (hR : R i = some b) (hb : b < base) : mS.heap.get b = (M i).heap.get b := by
  have hlt : i < ops.size := (Array.getElem?_eq_some_iff.1 ho).1
  have hH := I.hle
  have hold : ∀ j, j ≤ ops.size → b < (M j).next := fun j hj => by
    have := C.nextLe (Nat.zero_le j) hj
    rw [← C.low] at this
    omega
  rw [I.rest b fun j y h1 h2 h3 e => by
    have := hold j (Nat.le_of_lt h2.lt)
    omega]
  have log : ∀ j, j < ops.size → (j < i → (preAt ops i).testBit j = false → b ∉ L j) ∧ (i < j → (preAt ops j).testBit i = false → b ∉ L j) := by
    intro j hj
    refine ⟨fun h1 h2 => ?_, fun h1 h2 => ?_⟩
    · obtain ⟨inf, q1, q2, _⟩ := C.step ho
      exact (C.tr.2 i j o inf (Nat.zero_le _) h1 (by rw [Nat.sub_zero]; exact q2) (by rw [q1.prec]; exact h2)).1 b hR
    · obtain ⟨inf, q1, q2, _⟩ := C.step (Array.getElem?_eq_getElem hj)
      exact (C.tr.2 j i _ inf (Nat.zero_le _) h1 (by rw [Nat.sub_zero]; exact q2) (by rw [q1.prec]; exact h2)).2 b hR
  rcases Nat.le_total H i with hle | hle
  · have := C.segLog (b := b) (p := H) hb (i - H) (by omega) (fun j h1 h2 => by
      by_cases hh : Hst P ops T j
      · cases hp : (preAt ops i).testBit j with
        | true =>
          have := (I.hst j hh).1 (hrdy j hp)
          omega
        | false => exact (log j (by omega)).1 (by omega) hp
      · rw [C.logNil (by omega) hh]
        simp)
    rw [show H + (i - H) = i by omega] at this
    exact this.symm
  · have := C.segLog (b := b) (p := i) hb (H - i) (by omega) (fun j h1 h2 => by
      by_cases hh : Hst P ops T j
      · by_cases hji : j = i
        · subst hji
          obtain ⟨oj, q1, _, q3⟩ := hh
          rw [ho] at q1
          cases q1
          rw [hc] at q3
          cases q3
        · cases hp : (preAt ops j).testBit i with
          | true => exact absurd (I.closed j i ((I.hst j hh).2 (by omega)) hp) hns
          | false => exact (log j (by omega)).2 (by omega) hp
      · rw [C.logNil (by omega) hh]
        simp)
    rw [show i + (H - i) = H by omega] at this
    exact this

/-- Something new. -/
theorem makes {x : AObj} {f : Nat → Value} (hw : wantedA ops (T i) o = true) (hc : cls P o.op = .a) (h : opA P (T i) o.op = some (x, f)) (hT : T (i + 1) = put n (T i) o.dst (f (M i).next)) {b : Frame} {k : List Item} {cs : List Frame} {rest : List Nat} :
    ∃ mS' ρ' w' a', Steps P (lone (on b a (.inRegion ops (i :: rest) :: k)) cs w) (lone (on b a' (.inRegion ops rest :: k)) cs w') ∧ Inv P n ops T M ρ0 w0 ds (fun j => S j ∨ j = i) H mS' ρ' w' a' := by
  have hlt : i < ops.size := (Array.getElem?_eq_some_iff.1 ho).1
  have hA : Amk P ops T i x := ⟨o, f, ho, hw, hc, h⟩
  have hHi : H ≤ i := Nat.le_of_not_lt fun hl => hns (I.made i x hl hA)
  have hnx := (C.made hA).2.1
  have hd : doOp P slf (T i) o.op ⟨mS.heap, (M i).next, lo, []⟩ = some (.val (f (M i).next) ((⟨mS.heap, (M i).next, lo, []⟩ : AW).new x)) := by
    unfold doOp
    rw [hc]
    simp only [doA, h]
  have hrA : Rel P ρ ⟨mS.heap, (M i).next, lo, []⟩ w := I.rel.of_heap rfl rfl
  have hfr : Fresh ρ ⟨mS.heap, (M i).next, lo, []⟩ ((⟨mS.heap, (M i).next, lo, []⟩ : AW).new x) := fun q h1 h2 => I.free i q hlt hns h1 (by rw [hnx]; exact h2)
  obtain ⟨ρ', w', v', q1, q2, q3, q4⟩ := I.run C ho hrdy hw hd hrA hfr (b := b) (k := k) (cs := cs) (rest := rest)
  have hget : ∀ c, ((⟨mS.heap, (M i).next, lo, []⟩ : AW).new x).heap.get c = if c = (M i).next then some x else mS.heap.get c := fun c => AW.new_get _ _ _
  have hcls : ¬ Hst P ops T i := by
    rintro ⟨oj, e1, _, e3⟩
    rw [ho] at e1
    cases e1
    rw [hc] at e3
    cases e3
  refine ⟨⟨((⟨mS.heap, (M i).next, lo, []⟩ : AW).new x).heap, mS.next, lo, []⟩, ρ', w', a.put o.dst v', q1, ?_⟩
  refine { closed := ?_, hle := I.hle, hst := ?_, made := fun j x h1 h2 => .inl (I.made j x h1 h2), rel := q2.of_heap rfl rfl, nx := I.nx, extra := ?_, rest := ?_, free := ?_, size := ?_, tmp := I.tmps_step C ho hns hT q3.le q4, grow := ?_, defers := ?_ }
  · intro j l hj hb
    rcases hj with hj | rfl
    · exact .inl (I.closed j l hj hb)
    · exact .inl (hrdy l hb)
  · intro j hj
    rw [← I.hst j hj]
    exact ⟨fun h => h.resolve_right fun e => hcls (e ▸ hj), .inl⟩
  · intro j y h1 h2 h3
    show (AW.new _ x).heap.get _ = _
    rw [hget]
    by_cases e : j = i
    · subst e
      rw [if_pos rfl, hA.uniq h2]
    · rw [if_neg fun e2 => e (C.apartIds h2 hA e2)]
      exact I.extra j y h1 h2 (h3.resolve_right e)
  · intro c hcc
    show (AW.new _ x).heap.get _ = _
    rw [hget, if_neg (hcc i x hHi hA (.inr rfl))]
    exact I.rest c fun j y h1 h2 h3 => hcc j y h1 h2 (.inl h3)
  · intro j c h1 h2 h3 h4
    have hne : j ≠ i := fun e => h2 (.inr e)
    rw [q3.only c ?_]
    · exact I.free j c h1 (fun h => h2 (.inl h)) h3 h4
    · show c < (M i).next ∨ (M i).next + 1 ≤ c
      rcases Nat.lt_or_ge j i with hl | hl
      · have := C.nextLe (i := j + 1) (j := i) hl (Nat.le_of_lt hlt)
        omega
      · have := C.nextLe (i := i + 1) (j := j) (by omega) (Nat.le_of_lt h1)
        omega
  · rw [act_put_size]; exact I.size
  · refine I.grow.glue q3 (fun _ _ h => h) (C.nextLe (Nat.zero_le _) (Nat.le_of_lt hlt)) ?_ rfl (fun _ h => .inl h) (fun _ h => .inl h)
    rw [I.nx]
    show (M i).next + 1 ≤ _
    exact C.idBelow hA
  · rw [Act.put_defers']; exact I.defers

end Ctx
end
end Go.Ab

/-
  THE ENGINE, 44: a region that draws: one more call.
-/
namespace Go.Ab
section
variable {P : Program} {slf : Self} {n base lo : Nat} {ops : Array Oper} {T : Nat → Tr Value} {M : Nat → AW} {L : Nat → List Nat} {R : Nat → Option Nat}
namespace Ctx
variable (C : Ctx P slf n base lo ops T M L R)
variable {ρ0 ρ ρ' : Ren} {w0 w w' : World} {ds : List Deferred} {S : Nat → Prop} {H : Nat} {mS mA m1 : AW} {a : Act} (I : Inv P n ops T M ρ0 w0 ds S H mS ρ w a)
  {i : Nat} {o : Oper} (ho : ops[i]? = some o) (hns : ¬ S i) (hrdy : ∀ j, (preAt ops i).testBit j = true → S j)
include C I ho hns hrdy

theorem calls (hpl : ∀ j x, Amk P ops T j x → mateOf x = none ∧ isRo x = false) {inf : Info} (hi : InfoOk P ops i o inf) (hk : inf.hok = true) (hw : wantedA ops (T i) o = true) (hc : cls P o.op = .h) {v : Value} {m1 : AW} (h : doOp P slf (T i) o.op ⟨(M i).heap, (M i).next, base, []⟩ = some (.val v m1))
    (hT : T (i + 1) = put n (T i) o.dst v) (hM1 : (M (i + 1)).heap = m1.heap) (hM2 : (M (i + 1)).next = m1.next) {b : Frame} {k : List Item} {cs : List Frame} {rest : List Nat} :
    ∃ mS' H' ρ' w' a', Steps P (lone (on b a (.inRegion ops (i :: rest) :: k)) cs w) (lone (on b a' (.inRegion ops rest :: k)) cs w') ∧ Inv P n ops T M ρ0 w0 ds (fun j => S j ∨ j = i) H' mS' ρ' w' a' := by
  have hlt : i < ops.size := (Array.getElem?_eq_some_iff.1 ho).1
  have hH : Hst P ops T i := ⟨o, ho, hw, hc⟩
  have hHi : H ≤ i := Nat.le_of_not_lt fun hl => hns ((I.hst i hH).2 hl)
  have hnA : ∀ x, ¬ Amk P ops T i x := by
    rintro x ⟨oj, f, e1, _, e3, _⟩
    rw [ho] at e1
    cases e1
    rw [hc] at e3
    cases e3
  have hnoH : ∀ j, H ≤ j → j < i → ¬ Hst P ops T j := fun j h1 h2 hh => by
    obtain ⟨oj, q1, q2, q3⟩ := hh
    have := (I.hst j ⟨oj, q1, q2, q3⟩).1 (hrdy j (hi.hokOk hk j oj h2 q1 (.inl q3)))
    omega
  have hall : ∀ j x, j < i → Amk P ops T j x → S j := fun j x h2 hh => by
    obtain ⟨oj, f, q1, q2, q3, q4⟩ := hh
    exact hrdy j (hi.hokOk hk j oj h2 q1 (.inr q3))
  have hsub : ∀ c x, (M i).heap.get c = some x → mS.heap.get c = some x := fun c x hc2 => C.sees I ho hns hrdy hnoH (fun j h1 h2 => by omega) hall hc2
  have hrA : Rel P ρ ⟨(M i).heap, (M i).next, base, []⟩ w := I.rel.sub hsub
  have hfr : Fresh ρ ⟨(M i).heap, (M i).next, base, []⟩ m1 := fun q h1 h2 => I.free i q hlt hns h1 (by rw [hM2]; exact h2)
  obtain ⟨ρ', w', v', q1, q2, q3, q4⟩ := I.run C ho hrdy hw h hrA hfr (b := b) (k := k) (cs := cs) (rest := rest)
  -- the blocks made later that are there already
  obtain ⟨hp, p1, p2⟩ := add_blocks m1.heap (fun j x => i < j ∧ S j ∧ Amk P ops T j x) (fun j => (M j).next) (fun j x y a b => a.2.2.uniq b.2.2) (fun j l x y a b e => C.apartIds a.2.2 b.2.2 e) ops.size
  have hextra : ∀ j x, i < j → S j → Amk P ops T j x → mS.heap.get (M j).next = some x := fun j x h1 h2 h3 => I.extra j x (by omega) h3 h2
  have hget : ∀ c y, hp.get c = some y → (∃ j, i < j ∧ S j ∧ Amk P ops T j y ∧ c = (M j).next) ∨ (m1.heap.get c = some y ∧ ∀ j x, i < j → S j → Amk P ops T j x → c ≠ (M j).next) := by
    intro c y hy
    by_cases e : ∃ j x, i < j ∧ S j ∧ Amk P ops T j x ∧ c = (M j).next
    · obtain ⟨j, x, e1, e2, e3, rfl⟩ := e
      rw [p1 j x e3.lt ⟨e1, e2, e3⟩] at hy
      cases hy
      exact .inl ⟨j, e1, e2, e3, rfl⟩
    · rw [p2 c fun j x h1 h2 e2 => e ⟨j, x, h2.1, h2.2.1, h2.2.2, e2⟩] at hy
      exact .inr ⟨hy, fun j x h1 h2 h3 h4 => e ⟨j, x, h1, h2, h3, h4⟩⟩
  -- such a block shares nothing with what the call has left
  have hapart : ∀ j x c y s t, i < j → S j → Amk P ops T j x → m1.heap.get c = some y → ρ' (M j).next = some s → ρ' c = some t → s.blk = t.blk → False := by
    intro j x c y s t h1 h2 h3 hy hs ht hst
    have hm := hextra j x h1 h2 h3
    obtain ⟨s1, y1, r1, _, _⟩ := I.rel.obj _ _ hm
    rw [q3.le _ _ r1] at hs
    cases hs
    have hin := I.rel.inb _ _ r1
    rcases q3.occ t.blk ⟨c, y, t, hy, ht, rfl⟩ with ⟨d, z, u, u1, u2, u3⟩ | h5
    · have hne : (M j).next ≠ d := by
        rintro rfl
        have := C.notYet h3 (p := i) (by omega)
        rw [show (M i).heap.get (M j).next = some z from u1] at this
        cases this
      rcases I.rel.sep _ d x z _ u hne hm (hsub _ _ u1) r1 u2 (by rw [u3]; exact hst) with h6 | h6
      · rw [(hpl j x h3).1] at h6
        cases h6.1
      · rw [(hpl j x h3).2] at h6
        cases h6.1
    · omega
  have hkeep : ∀ j x s, i < j → S j → Amk P ops T j x → ρ (M j).next = some s → w'.heap[s.blk]? = w.heap[s.blk]? := by
    intro j x s h1 h2 h3 hs
    have hm := hextra j x h1 h2 h3
    refine q3.keep s.blk (I.rel.inb _ _ hs) ?_
    rintro ⟨d, z, u, u1, u2, u3, u4⟩
    have hne : (M j).next ≠ d := by
      rintro rfl
      have := C.notYet h3 (p := i) (by omega)
      rw [show (M i).heap.get (M j).next = some z from u1] at this
      cases this
    rcases I.rel.sep _ d x z s u hne hm (hsub _ _ u1) hs u3 u4.symm with h6 | h6
    · rw [(hpl j x h3).1] at h6
      cases h6.1
    · rw [u2] at h6
      cases h6.2
  have hrel : Rel P ρ' ⟨hp, mS.next, lo, []⟩ w' := by
    refine ⟨fun c y hy => ?_, fun c1 c2 y1 y2 s1 s2 hne g1 g2 r1 r2 hs => ?_, q2.glob, q2.inb⟩
    · rcases hget c y hy with ⟨j, e1, e2, e3, rfl⟩ | ⟨e1, _⟩
      · obtain ⟨s, z, r1, r2, r3⟩ := I.rel.obj _ _ (hextra j y e1 e2 e3)
        exact ⟨s, z, q3.le _ _ r1, by rw [hkeep j y s e1 e2 e3 r1]; exact r2, r3.mono q3.le⟩
      · exact q2.obj c y e1
    · rcases hget c1 y1 g1 with ⟨j, e1, e2, e3, rfl⟩ | ⟨e1, _⟩
      · rcases hget c2 y2 g2 with ⟨l, f1, f2, f3, rfl⟩ | ⟨f1, _⟩
        · have hm1 := hextra j y1 e1 e2 e3
          have hm2 := hextra l y2 f1 f2 f3
          obtain ⟨t1, _, u1, _⟩ := I.rel.obj _ _ hm1
          obtain ⟨t2, _, u2, _⟩ := I.rel.obj _ _ hm2
          have v1 := q3.le _ _ u1
          have v2 := q3.le _ _ u2
          rw [v1] at r1
          rw [v2] at r2
          cases r1
          cases r2
          exact I.rel.sep _ _ _ _ _ _ hne hm1 hm2 u1 u2 hs
        · exact (hapart j y1 c2 y2 s1 s2 e1 e2 e3 f1 r1 r2 hs).elim
      · rcases hget c2 y2 g2 with ⟨l, f1, f2, f3, rfl⟩ | ⟨f1, _⟩
        · exact (hapart l y2 c1 y1 s2 s1 f1 f2 f3 e1 r2 r1 hs.symm).elim
        · exact q2.sep c1 c2 y1 y2 s1 s2 hne e1 f1 r1 r2 hs
  refine ⟨⟨hp, mS.next, lo, []⟩, i + 1, ρ', w', a.put o.dst v', q1, ?_⟩
  refine { closed := ?_, hle := hlt, hst := ?_, made := ?_, rel := hrel, nx := I.nx, extra := ?_, rest := ?_, free := ?_, size := ?_, tmp := I.tmps_step C ho hns hT q3.le q4, grow := ?_, defers := ?_ }
  · intro j l hj hb
    rcases hj with hj | rfl
    · exact .inl (I.closed j l hj hb)
    · exact .inl (hrdy l hb)
  · intro j hj
    constructor
    · rintro (h1 | rfl)
      · have := (I.hst j hj).1 h1
        omega
      · omega
    · intro h1
      by_cases e : j = i
      · exact .inr e
      · refine .inl ((I.hst j hj).2 ?_)
        exact Nat.lt_of_not_le fun hle => hnoH j hle (by omega) hj
  · intro j x h1 h2
    by_cases e : j = i
    · exact absurd (e ▸ h2) (hnA x)
    · exact .inl (hall j x (by omega) h2)
  · intro j x h1 h2 h3
    exact p1 j x h2.lt ⟨by omega, h3.resolve_right (by omega), h2⟩
  · intro c hcc
    rw [hM1]
    refine p2 c fun j x h1 h2 e => hcc j x h2.1 h2.2.2 (.inl h2.2.1) e
  · intro j c h1 h2 h3 h4
    have hne : j ≠ i := fun e => h2 (.inr e)
    rw [q3.only c ?_]
    · exact I.free j c h1 (fun h => h2 (.inl h)) h3 h4
    · rw [← hM2]
      show c < (M i).next ∨ _
      rcases Nat.lt_or_ge j i with hl | hl
      · have := C.nextLe (i := j + 1) (j := i) hl (Nat.le_of_lt hlt)
        omega
      · have := C.nextLe (i := i + 1) (j := j) (by omega) (Nat.le_of_lt h1)
        omega
  · rw [act_put_size]; exact I.size
  · have hown : ∀ c y t, hp.get c = some y → ρ' c = some t → (m1.heap.get c = some y) ∨ (mS.heap.get c = some y ∧ ρ c = some t) := by
      intro c y t hy ht
      rcases hget c y hy with ⟨j, e1, e2, e3, rfl⟩ | ⟨e1, _⟩
      · have hm := hextra j y e1 e2 e3
        obtain ⟨s, _, r1, _⟩ := I.rel.obj _ _ hm
        rw [q3.le _ _ r1] at ht
        cases ht
        exact .inr ⟨hm, r1⟩
      · exact .inl e1
    refine I.grow.glue q3 hsub (C.nextLe (Nat.zero_le _) (Nat.le_of_lt hlt)) ?_ rfl ?_ ?_
    · rw [I.nx, ← hM2]
      exact C.nextLe hlt (Nat.le_refl _)
    · rintro B ⟨c, y, t, h1, h2, h3, h4⟩
      rcases hown c y t h1 h3 with h5 | ⟨h5, h6⟩
      · exact .inl ⟨c, y, t, h5, h2, h3, h4⟩
      · exact .inr ⟨c, y, t, h5, h2, h6, h4⟩
    · rintro B ⟨c, y, t, h1, h3, h4⟩
      rcases hown c y t h1 h3 with h5 | ⟨h5, h6⟩
      · exact .inl ⟨c, y, t, h5, h3, h4⟩
      · exact .inr ⟨c, y, t, h5, h6, h4⟩
  · rw [Act.put_defers']; exact I.defers

/-- Any operation whose turn it may be. -/
theorem oneMore (hpl : ∀ j x, Amk P ops T j x → mateOf x = none ∧ isRo x = false) {b : Frame} {k : List Item} {cs : List Frame} {rest : List Nat} :
    ∃ mS' H' ρ' w' a', Steps P (lone (on b a (.inRegion ops (i :: rest) :: k)) cs w) (lone (on b a' (.inRegion ops rest :: k)) cs w') ∧ Inv P n ops T M ρ0 w0 ds (fun j => S j ∨ j = i) H' mS' ρ' w' a' := by
  obtain ⟨inf, hinf, _, hs⟩ := C.step ho
  have hnA : cls P o.op ≠ .a ∨ wantedA ops (T i) o = false → ∀ x, ¬ Amk P ops T i x := by
    rintro hne x ⟨oj, f, e1, e2, e3, _⟩
    rw [ho] at e1
    cases e1
    rcases hne with hne | hne
    · exact hne e3
    · rw [hne] at e2
      cases e2
  have hnH : cls P o.op ≠ .h ∨ wantedA ops (T i) o = false → ¬ Hst P ops T i := by
    rintro hne ⟨oj, e1, e2, e3⟩
    rw [ho] at e1
    cases e1
    rcases hne with hne | hne
    · exact hne e3
    · rw [hne] at e2
      cases e2
  have val : ∀ v, wantedA ops (T i) o = true → T (i + 1) = put n (T i) o.dst v → doOp P slf (T i) o.op mS = some (.val v mS) → ¬ Hst P ops T i → (∀ x, ¬ Amk P ops T i x) →
      ∃ mS' H' ρ' w' a', Steps P (lone (on b a (.inRegion ops (i :: rest) :: k)) cs w) (lone (on b a' (.inRegion ops rest :: k)) cs w') ∧ Inv P n ops T M ρ0 w0 ds (fun j => S j ∨ j = i) H' mS' ρ' w' a' := by
    intro v hw hT hd hh ha
    obtain ⟨ρ', w', v', q1, q2, q3, q4⟩ := I.run C ho hrdy hw hd I.rel (fun q h1 h2 => by omega) (b := b) (k := k) (cs := cs) (rest := rest)
    exact ⟨mS, H, ρ', w', _, q1, I.still C ho hns hrdy hT q2 q3 q4 hh ha⟩
  generalize hm' : M (i + 1) = m' at hs
  generalize ht' : T (i + 1) = t' at hs
  generalize hl' : L i = lg at hs
  generalize hr' : R i = rd at hs
  cases hs with
  | skip hw =>
    refine ⟨mS, H, ρ, w, a.put o.dst undef, .one ?_, I.still C ho hns hrdy ht' I.rel (.refl _ _ _) (undef_rel _) (hnH (.inr hw)) (hnA (.inr hw))⟩
    have := on_op_skip (P := P) (b := b) (a := a) (k := k) (cs := cs) (w := w) (ops := ops) (i := i) (rest := rest) (by rw [ho]; simp only [Option.map_some, Option.getD_some]; rw [← I.wants C ho hrdy]; exact hw)
    rw [ho] at this
    exact this
  | pure hw hc h => exact val _ hw ht' (by unfold doOp; rw [hc]; simp only [doP, h]) (hnH (.inl (by rw [hc]; simp))) (hnA (.inl (by rw [hc]; simp)))
  | imm hw hc h => exact val _ hw ht' (by unfold doOp; rw [hc]; simp only [doL, h]) (hnH (.inl (by rw [hc]; simp))) (hnA (.inl (by rw [hc]; simp)))
  | full hw hc h hv hf =>
    obtain ⟨x, hx1, hx2⟩ := Option.bind_eq_some_iff.1 hv
    have := C.sees_full I ho hns hrdy hc hinf hf hx1
    exact val _ hw ht' (by unfold doOp; rw [hc]; simp only [doL, h, this, Option.bind_some, hx2]) (hnH (.inl (by rw [hc]; simp))) (hnA (.inl (by rw [hc]; simp)))
  | read hw hc h hv hb =>
    have := C.sees_low I ho hns hrdy hc hr' hb
    exact val _ hw ht' (by unfold doOp; rw [hc]; simp only [doL, h, this, hv]) (hnH (.inl (by rw [hc]; simp))) (hnA (.inl (by rw [hc]; simp)))
  | make hw hc h =>
    obtain ⟨mS', ρ', w', a', q1, q2⟩ := C.makes I ho hns hrdy hw hc h ht' (b := b) (k := k) (cs := cs) (rest := rest)
    exact ⟨mS', H, ρ', w', a', q1, q2⟩
  | call hw hc hk h => exact C.calls I ho hns hrdy hpl hinf hk hw hc h ht' (by rw [hm']) (by rw [hm'])

end Ctx
end
end Go.Ab

/-
  THE ENGINE, 45: a region that draws: all of its operations, in any order that may be drawn.
-/
namespace Go.Ab

theorem fold_keeps (acc : List Nat) (j : Nat) : ∀ (es : List Edge) (s : Nat), s.testBit j = true → (es.foldl (fun s e => bif Region.binds .any e then s ||| (2 ^ e.on) ||| (acc.getD e.on 0) else s) s).testBit j = true
  | [], _, h => h
  | e :: es, s, h => by
    rw [List.foldl_cons]
    refine fold_keeps acc j es _ ?_
    cases Region.binds .any e with
    | true => simp [Nat.testBit_or, h]
    | false => exact h

theorem fold_edge (acc : List Nat) {e : Edge} (hb : Region.binds .any e = true) : ∀ (es : List Edge) (s : Nat), e ∈ es → (es.foldl (fun s e => bif Region.binds .any e then s ||| (2 ^ e.on) ||| (acc.getD e.on 0) else s) s).testBit e.on = true
  | [], _, h => by cases h
  | x :: es, s, h => by
    rw [List.foldl_cons]
    cases h with
    | head =>
      refine fold_keeps acc _ es _ ?_
      rw [hb]
      simp [Nat.testBit_or]
    | tail _ h => exact fold_edge acc hb es _ h

theorem pre_edge {os : List Oper} {i : Nat} {o : Oper} (ho : os[i]? = some o) {e : Edge} (he : e ∈ o.after) (hb : Region.binds .any e = true) : ((preds os).getD i 0).testBit e.on = true := by
  obtain ⟨h1, _, h3⟩ := predsGo_spec os []
  have hi := h3 i o ho
  simp only [List.length_nil, Nat.zero_add] at hi
  have e1 : (preds os).getD i 0 = preOf ((preds os).take i) o := by
    unfold preds
    rw [List.getD_eq_getElem?_getD, hi]
    rfl
  rw [e1]
  exact fold_edge _ hb _ 0 (by simpa using he)

def cnt (f : Nat → Bool) : Nat → Nat
  | 0 => 0
  | k + 1 => cnt f k + bif f k then 1 else 0

theorem cnt_same {f g : Nat → Bool} : ∀ {k : Nat}, (∀ j, j < k → f j = g j) → cnt f k = cnt g k
  | 0, _ => rfl
  | k + 1, h => by simp only [cnt, cnt_same (k := k) fun j hj => h j (by omega), h k (by omega)]

theorem cnt_less {f g : Nat → Bool} {i : Nat} (hf : f i = true) (hg : g i = false) : ∀ {k : Nat}, i < k → (∀ j, j ≠ i → f j = g j) → cnt f k = cnt g k + 1
  | 0, h, _ => by omega
  | k + 1, h, hs => by
    simp only [cnt]
    by_cases e : k = i
    · subst e
      rw [hf, hg, cnt_same fun j hj => hs j (by omega)]
      simp
    · rw [cnt_less hf hg (k := k) (by omega) hs, hs k e]
      omega

theorem cnt_zero {f : Nat → Bool} : ∀ {k : Nat}, cnt f k = 0 → ∀ j, j < k → f j = false
  | 0, _, j, hj => by omega
  | k + 1, h, j, hj => by
    simp only [cnt] at h
    by_cases e : j = k
    · subst e
      cases hf : f j with
      | false => rfl
      | true => rw [hf] at h; simp at h
    · exact cnt_zero (k := k) (by
        cases hf : f k with
        | false => rw [hf] at h; simpa using h
        | true => rw [hf] at h; simp at h) j (by omega)

section
variable {P : Program} {slf : Self} {n base lo : Nat} {ops : Array Oper} {T : Nat → Tr Value} {M : Nat → AW} {L : Nat → List Nat} {R : Nat → Option Nat}
variable {ρ0 : Ren} {w0 : World} {ds : List Deferred}

theorem Inv.all {S S' : Nat → Prop} {H : Nat} {mS : AW} {ρ : Ren} {w : World} {a : Act} (I : Inv P n ops T M ρ0 w0 ds S H mS ρ w a) (h : ∀ j, S j ↔ S' j) : Inv P n ops T M ρ0 w0 ds S' H mS ρ w a := by
  have : S = S' := funext fun j => propext (h j)
  rw [← this]
  exact I

theorem draw_run (C : Ctx P slf n base lo ops T M L R) (hpl : ∀ j x, Amk P ops T j x → mateOf x = none ∧ isRo x = false) {b : Frame} {k : List Item} {cs : List Frame} :
    ∀ (fuel t : Nat) (listed : Array Bool) (H : Nat) (mS : AW) (ρ : Ren) (w : World) (a : Act), listed.size = ops.size → cnt (fun j => !listed.getD j true) ops.size ≤ fuel → Inv P n ops T M ρ0 w0 ds (fun j => listed.getD j false = true) H mS ρ w a →
      ∃ H' mS' ρ' w' a', Steps P (lone (on b a (.inRegion ops (Region.linearise.go .any ops fuel t listed []) :: k)) cs w) (lone (on b a' k) cs w') ∧ Inv P n ops T M ρ0 w0 ds (fun j => j < ops.size) H' mS' ρ' w' a' := by
  have same : ∀ (listed : Array Bool), listed.size = ops.size → ∀ j, j < ops.size → listed.getD j true = listed.getD j false := by
    intro listed hs j hj
    simp [Array.getD_eq_getD_getElem?, Array.getElem?_eq_getElem (hs ▸ hj)]
  have out : ∀ (listed : Array Bool), listed.size = ops.size → ∀ j, listed.getD j false = true → j < ops.size := by
    intro listed hs j hj
    rcases Nat.lt_or_ge j ops.size with h | h
    · exact h
    · rw [Array.getD_eq_getD_getElem?, Array.getElem?_eq_none (by omega)] at hj
      cases hj
  intro fuel
  induction fuel with
  | zero =>
    intro t listed H mS ρ w a hs hc I
    have hall := cnt_zero (Nat.le_zero.1 hc)
    refine ⟨H, mS, ρ, w, a, ?_, I.all fun j => ⟨out listed hs j, fun hj => ?_⟩⟩
    · simp only [Region.linearise.go, List.reverse_nil]
      exact .one on_region_end
    · have := hall j hj
      rw [← same listed hs j hj]
      simpa using this
  | succ fuel ih =>
    intro t listed H mS ρ w a hs hc I
    simp only [Region.linearise.go]
    change ∃ H' mS' ρ' w' a', Steps P (lone (on b a (.inRegion ops (match (Region.ready .any ops listed)[t % (Region.ready .any ops listed).length]? with
      | some i => Region.linearise.go .any ops fuel (t / (Region.ready .any ops listed).length) (listed.setIfInBounds i true) [i]
      | none => [].reverse) :: k)) cs w) _ ∧ _
    cases hi : (Region.ready .any ops listed)[t % (Region.ready .any ops listed).length]? with
    | none =>
      have hnil : Region.ready .any ops listed = [] := by
        cases hr : Region.ready .any ops listed with
        | nil => rfl
        | cons x xs =>
          rw [hr] at hi
          have hlt : t % (x :: xs).length < (x :: xs).length := Nat.mod_lt _ (by simp)
          simp at hi
          simp at hlt
          omega
      have hall : ∀ j, j < ops.size → listed.getD j false = true := by
        intro j
        induction j using Nat.strongRecOn with
        | ind j ihj =>
          intro hj
          cases hx : listed.getD j false with
          | true => rfl
          | false =>
            have : j ∈ Region.ready .any ops listed := by
              rw [mem_ready]
              refine ⟨by rw [same listed hs j hj]; exact hx, ops[j], Array.getElem?_eq_getElem hj, fun e he hb => ?_⟩
              have h1 := pre_edge (os := ops.toList) (i := j) (o := ops[j]) (by simp [hj]) he hb
              have h2 := C.tm.below j e.on hj h1
              exact ihj e.on h2 (by omega)
            rw [hnil] at this
            cases this
      exact ⟨H, mS, ρ, w, a, .one on_region_end, I.all fun j => ⟨out listed hs j, hall j⟩⟩
    | some i =>
      simp only
      rw [linearise_go_acc, List.reverse_singleton, List.singleton_append]
      have hmem := List.mem_of_getElem? hi
      rw [mem_ready] at hmem
      obtain ⟨h0, o, ho, hedges⟩ := hmem
      have hlt : i < ops.size := (Array.getElem?_eq_some_iff.1 ho).1
      have hrdy : ∀ j, (preAt ops i).testBit j = true → listed.getD j false = true := by
        intro j hj
        obtain ⟨e, q1, q2, q3⟩ := pre_spec (os := ops.toList) (i := i) (o := o) (by simpa using ho) hj
        rcases q3 with rfl | q3
        · exact hedges e q1 q2
        · exact I.closed e.on j (hedges e q1 q2) q3
      have hns : ¬ (listed.getD i false = true) := by
        rw [← same listed hs i hlt, h0]
        simp
      obtain ⟨mS1, H1, ρ1, w1, a1, q1, q2⟩ := C.oneMore I ho hns hrdy hpl (b := b) (k := k) (cs := cs) (rest := Region.linearise.go .any ops fuel (t / (Region.ready .any ops listed).length) (listed.setIfInBounds i true) [])
      have hset : ∀ j, (listed.setIfInBounds i true).getD j false = true ↔ (listed.getD j false = true ∨ j = i) := by
        intro j
        by_cases e : i = j
        · subst e
          simp [hs, hlt]
        · rw [getD_set_ne false e]
          constructor
          · exact .inl
          · exact fun h => h.resolve_right fun e2 => e e2.symm
      obtain ⟨H', mS', ρ', w', a', r1, r2⟩ := ih (t / (Region.ready .any ops listed).length) (listed.setIfInBounds i true) H1 mS1 ρ1 w1 a1 (by simpa using hs) (by
        have := cnt_less (f := fun j => !listed.getD j true) (g := fun j => !(listed.setIfInBounds i true).getD j true) (i := i) (by simp [h0]) (by simp [hs, hlt]) (k := ops.size) hlt (fun j hj => by
          show (!listed.getD j true) = !(listed.setIfInBounds i true).getD j true
          rw [getD_set_ne true (Ne.symm hj)])
        omega) (q2.all fun j => (hset j).symm)
      exact ⟨H', mS', ρ', w', a', q1.trans r1, r2⟩

end
end Go.Ab

/-
  THE ENGINE, 46: a region that draws its order.
-/
namespace Go.Ab
section
variable {P : Program} {self : Self}
variable (hM : ∀ fr t m out, self fr t m = some out → Mono m out.m) (hS : ∀ fr t m out, self fr t m = some out → Sound P fr t m out)
include hM hS

theorem drawA_follows (hmx : P.follows .mixedOrders = true) {id : Nat} {ops : Array Oper} {fr : AFr} {m : AW} {out : Out} (h : drawA P self fr ops (ops.toList.zip (infos P ops.toList)) m = some out) : Follows P fr m out (Starts (.region id ops true)) := by
  intro ρ w b a n0 k cs todo hr hf hok hn hst
  have htodo : todo = .code (.region id ops true) :: k := by
    rcases hst with h | ⟨_, h, _⟩
    · exact h
    · cases h
  subst htodo
  unfold drawA at h
  obtain ⟨hc, h⟩ := bif_some h
  simp only [Bool.and_eq_true] at hc
  obtain ⟨T, M, L, R, t1, t2, t3, t4, t5, htr, _⟩ := dops_trace (P := P) (self := self) (n := fr.n) (ops := ops) (base := m.next) (lo := m.lo) (ops.toList.zip (infos P ops.toList)) 0 [] [] fr.ts m out
    (fun i o inf hk => ⟨by rw [(infos_ok hk).num, Nat.zero_add], (infos_ok hk).kind⟩) h
  have hlen : (ops.toList.zip (infos P ops.toList)).length = ops.size := by simp [infos]
  rw [Nat.zero_add, hlen] at t3 t4
  have hat : ∀ (k : Nat) o inf, (ops.toList.zip (infos P ops.toList))[k]? = some (o, inf) → ops[k]? = some o := fun i o inf hk => (infos_ok hk).at_
  have hr0 : Rel P ρ (M 0) w := by rw [t2]; exact hr
  have hf0 : Fresh ρ (M 0) (M ops.size) := by rw [t2, t4]; exact hf
  have ht0 : TsRel ρ fr.n (T 0) a.tmps := by rw [t1]; exact hok.tmps
  have C : Ctx P self fr.n m.next m.lo ops T M L R := {
    mono := hM
    sound := hS
    tr := htr
    tm := tmps_ok hc.2
    nj := fun i c h1 h2 h3 => no_junk hM hS htr hat hr0 (by rw [hlen]; exact hf0) ht0 (by rw [hlen]; exact h1) h2 (by rw [hlen]; exact h3)
    low := by rw [t2] }
  have hpl : ∀ j x, Amk P ops T j x → mateOf x = none ∧ isRo x = false := by
    intro j x hx
    obtain ⟨ρ1, w1, a1, q1, _, q3⟩ := ghost_run hM hS htr hat hr0 (by rw [hlen]; exact hf0) ht0 j (by rw [hlen]; exact Nat.le_of_lt hx.lt)
    exact hx.plain (erel_of q3 q1.glob)
  have g0 : Grow ρ ρ (M 0) ⟨m.heap, (M ops.size).next, m.lo, []⟩ w { w with drawn := w.drawn + 1 } := {
    le := .refl _
    only := fun _ _ => rfl
    rest := ⟨rfl, rfl, rfl⟩
    size := Nat.le_refl _
    keep := fun _ _ _ => rfl
    own := fun B hB => .inl (by rw [t2]; exact hB)
    next := C.nextLe (Nat.zero_le _) (Nat.le_refl _)
    occ := fun B hB => .inl (by rw [t2]; exact hB) }
  have I : Inv P fr.n ops T M ρ w a.defers (fun j => (Array.replicate ops.size false).getD j false = true) 0 ⟨m.heap, (M ops.size).next, m.lo, []⟩ ρ { w with drawn := w.drawn + 1 } a := by
    have hno : ∀ j, ¬ ((Array.replicate ops.size false).getD j false = true) := by
      intro j
      rw [Array.getD_eq_getD_getElem?, Array.getElem?_replicate]
      split <;> simp
    refine { closed := fun i j h => absurd h (hno i), hle := Nat.zero_le _, hst := fun j _ => ⟨fun h => absurd h (hno j), fun h => by omega⟩, made := fun j x h => by omega, rel := hr.of_heap rfl rfl, nx := rfl, extra := fun j x _ _ h => absurd h (hno j), rest := fun c _ => by rw [t2], free := ?_, size := hok.tmps.1, tmp := ?_, grow := g0, defers := rfl }
    · intro j c h1 _ h3 h4
      have e1 := C.nextLe (Nat.zero_le j) (Nat.le_of_lt h1)
      have e2 := C.nextLe (i := j + 1) (j := ops.size) h1 (Nat.le_refl _)
      exact hf0 c (by omega) (by omega)
    · intro t
      by_cases hw : t < fr.n ∧ ∃ (j : Nat) (o : Oper), ops[j]? = some o ∧ o.dst = some t
      · obtain ⟨h1, j, o, h2, h3⟩ := hw
        exact .inl ⟨h1, j, o, h2, hno j, h3⟩
      · right
        have := C.tmpKeeps (t := t) (p := 0) ops.size (by omega) (by
          rcases Nat.lt_or_ge t fr.n with h1 | h1
          · exact .inr fun j o _ _ h2 h3 => hw ⟨h1, j, o, h2, h3⟩
          · exact .inl h1)
        rw [Nat.zero_add] at this
        rw [this]
        exact ht0.2 t
  obtain ⟨H, mS, ρ', w', a', q1, q2⟩ := draw_run C hpl (b := b) (k := k) (cs := cs) ops.size (w.tape w.drawn (.order b.fn id)) (Array.replicate ops.size false) 0 _ ρ { w with drawn := w.drawn + 1 } a (by simp) (by
    have : ∀ (f : Nat → Bool) (n : Nat), cnt f n ≤ n := by
      intro f n
      induction n with
      | zero => exact Nat.le_refl _
      | succ n ih =>
        simp only [cnt]
        cases f n <;> simp <;> omega
    exact this _ _) I
  have hall : ∀ j x, Amk P ops T j x → j < ops.size := fun j x h => h.lt
  have hget : ∀ c, (M ops.size).heap.get c = mS.heap.get c := by
    intro c
    have hH := q2.hle
    have hnoH : ∀ j, H ≤ j → j < H + (ops.size - H) → ¬ Hst P ops T j := fun j h1 h2 hh => by
      have := (q2.hst j hh).1 (by omega)
      omega
    by_cases e : ∃ j x, H ≤ j ∧ Amk P ops T j x ∧ c = (M j).next
    · obtain ⟨j, x, e1, e2, rfl⟩ := e
      have := C.segMade (p := H) (d := ops.size - H) (j := j) (x := x) (by omega) hnoH e1 (by have := e2.lt; omega) e2
      rw [show H + (ops.size - H) = ops.size by omega] at this
      rw [this, q2.extra j x e1 e2 e2.lt]
    · rw [q2.rest c fun j x h1 h2 _ h3 => e ⟨j, x, h1, h2, h3⟩]
      have := C.seg (b := c) (p := H) (ops.size - H) (by omega) hnoH fun j x h1 _ h2 h3 => e ⟨j, x, h1, h2, h3⟩
      rwa [show H + (ops.size - H) = ops.size by omega] at this
  have hrel : Rel P ρ' out.m w' := q2.rel.sub fun c x hx => by
    rw [← hget c, t4]
    exact hx
  have hgrow : Grow ρ ρ' m out.m w w' := by
    have h1 := q2.grow
    rw [t2] at h1
    exact h1.of_get (fun c x hx => by rw [← hget c, t4]; exact hx) (by rw [q2.nx, t4])
  have hts : TsRel ρ' fr.n out.ts a'.tmps := by
    refine ⟨q2.size, fun t => ?_⟩
    rcases q2.tmp t with ⟨_, j, o, h1, h2, _⟩ | h1
    · exact absurd (Array.getElem?_eq_some_iff.1 h1).1 h2
    · rw [t3] at h1
      exact h1
  have hsteps : Steps P (lone (on b a (.code (.region id ops true) :: k)) cs w) (lone (on b a' k) cs w') := by
    refine .head on_region_draw ?_
    simp only [Region.schedule, hmx, Bool.true_or, if_true]
    exact q1
  refine ⟨ρ', w', a', on b a' k, hsteps, ?_, hrel, hgrow, hok.grow hgrow q2.defers hts⟩
  rw [t5]
  rfl

end
end Go.Ab

/-
  THE ENGINE, 47: what the engine reckons, the machine does.
-/
namespace Go.Ab
section
variable {P : Program} {self : Self}
variable (hM : ∀ fr t m out, self fr t m = some out → Mono m out.m) (hS : ∀ fr t m out, self fr t m = some out → Sound P fr t m out)
include hM hS

theorem istep_sound (hP : PlainNames P) (hmx : P.follows .mixedOrders = true) {fr : AFr} {t : Task} {m : AW} {out : Out} (h : istep P self fr t m = some out) : Sound P fr t m out := by
  unfold istep at h
  cases t with
  | scope body rest => exact stScope_follows hM hS h
  | fn f args => exact stFn_follows hM hS hP h
  | yield l args => exact stYield_follows hM hS h
  | code c =>
    simp only at h
    unfold stCode at h
    cases c with
    | skip =>
      cases h
      rintro ρ w b a n0 k cs todo hr hf hok hn (rfl | ⟨_, h, _⟩)
      · exact ⟨ρ, w, a, _, .one on_skip, rfl, hr, .refl _ _ _, hok⟩
      · cases h
    | label l =>
      cases h
      rintro ρ w b a n0 k cs todo hr hf hok hn (rfl | ⟨_, h, _⟩)
      · exact ⟨ρ, w, a, _, .one on_label, rfl, hr, .refl _ _ _, hok⟩
      · cases h
    | seq x y => exact stSeq_follows hM hS h
    | cond x y z => exact stCond_follows hM hS h
    | block id c => exact stBlock_follows hM hS h
    | loop c => exact stLoop_follows hM hS h
    | exit id =>
      cases h
      rintro ρ w b a n0 k cs todo hr hf hok hn (rfl | ⟨_, h, _⟩)
      · exact ⟨ρ, w, a, _, .refl _ _, ⟨k, rfl, rfl⟩, hr, .refl _ _ _, hok⟩
      · cases h
    | goto l =>
      cases h
      rintro ρ w b a n0 k cs todo hr hf hok hn (rfl | ⟨_, h, _⟩)
      · exact ⟨ρ, w, a, _, .refl _ _, ⟨k, rfl, rfl⟩, hr, .refl _ _ _, hok⟩
      · cases h
    | ret =>
      cases h
      rintro ρ w b a n0 k cs todo hr hf hok hn (rfl | ⟨_, h, _⟩)
      · exact ⟨ρ, w, a, _, .refl _ _, ⟨k, rfl⟩, hr, .refl _ _ _, hok⟩
      · cases h
    | scope c =>
      simp only at h
      rintro ρ w b a n0 k cs todo hr hf hok hn (rfl | ⟨_, h, _⟩)
      · exact Reaches.after0 (.one on_scope) (hS _ _ _ _ h ρ w b a n0 k cs _ hr hf hok hn rfl)
      · cases h
    | region id ops draw =>
      simp only at h
      cases draw with
      | true => exact drawA_follows hM hS hmx h
      | false =>
        simp only [cond_false] at h
        rintro ρ w b a n0 k cs todo hr hf hok hn (rfl | ⟨_, h, _⟩)
        · refine Reaches.after0 (.one on_region) ?_
          have := iops_follows (b := b) (n0 := n0) (k := k) (cs := cs) (fr := fr) hM hS ops.toList 0 fr.ts m out ρ w a rfl h hr hf hok hn
          rwa [Nat.sub_zero, ← List.range_eq_range'] at this
        · cases h
    | rangeFunc f params assign body => exact stRF_follows hM hS h
    | refuse r => cases h

end

theorem irun_sound {P : Program} (hP : PlainNames P) (hmx : P.follows .mixedOrders = true) : ∀ (k : Nat) (fr : AFr) (t : Task) (m : AW) (out : Out), irun P k fr t m = some out → Sound P fr t m out
  | 0, _, _, _, _, h => by simp [irun] at h
  | k + 1, fr, t, m, out, h => istep_sound (fun fr t m out => irun_mono k fr t m out) (fun fr t m out => irun_sound hP hmx k fr t m out) hP hmx h

end Go.Ab

/-
  THE ENGINE, 48: a run of the engine's, as a call.
-/
namespace Go.Ab

/-- What lay there before lies there still. -/
def Still (W W' : World) : Prop := W'.os = W.os ∧ W'.output = W.output ∧ W.heap.size ≤ W'.heap.size ∧ ∀ b, b < W.heap.size → W'.heap[b]? = W.heap[b]?

theorem calls_of_irun {P : Program} (hP : PlainNames P) (hmx : P.follows .mixedOrders = true) {k : Nat} {fr : AFr} {f : FuncId} {args args' : List Value} {m : AW} {out : Out} (h : irun P k fr (.fn f args) m = some out) (hret : out.ex = .ret) {fn : Func} (hf : P.funcs[f]? = some fn) (hb : fn.body.isSome = true)
    {ρ : Ren} {W : World} (hr : Rel P ρ m W) (hfr : Fresh ρ m out.m) (ha : VsRel ρ args args') :
    Calls P f ⟨args'⟩ W fun e W' => ∃ v' ρ', e = .returned v' ∧ VRel ρ' out.v v' ∧ Rel P ρ' out.m W' ∧ Grow ρ ρ' m out.m W W' := by
  intro cs
  obtain ⟨c, hc⟩ := Option.isSome_iff_exists.1 hb
  have he := callFunc_enter hP hf hc ⟨args'⟩ W
  obtain ⟨ρ', w', q1, q2, q3⟩ := irun_sound hP hmx k _ _ _ _ h ρ W args' cs hr hfr ha
  rcases q3 with ⟨v', _, _, q4⟩ | ⟨_, fr', q5, q6, q7⟩
  · rw [he] at q4
    cases q4
  · rcases q7 with ⟨v', q8, q9, q10⟩ | ⟨v, _, q8, _⟩
    · exact ⟨.returned v', w', fr', ⟨v', ρ', rfl, q9, q1, q2⟩, q6, q5, q10⟩
    · rw [hret] at q8
      cases q8

theorem still_of_grow {ρ ρ' : Ren} {m m' : AW} {W W' : World} (g : Grow ρ ρ' m m' W W') (h : ∀ b, m.heap.get b = none) : Still W W' :=
  ⟨g.rest.1, g.rest.2.2, g.size, fun b hb => g.keep b hb fun ⟨c, o, s, h1, _⟩ => by rw [h c] at h1; cases h1⟩

/-- Nothing but the variables' places. -/
def ren0 (P : Program) : Ren := fun i => if i < P.globals.size then some ⟨i, 0, 0⟩ else none

theorem rel0 {P : Program} {W : World} {nx lo : Nat} {lg : List Nat} (h : P.globals.size ≤ W.heap.size) : Rel P (ren0 P) ⟨.lf, nx, lo, lg⟩ W :=
  ⟨fun b o hb => (by cases hb), fun b1 b2 o1 o2 s1 s2 _ g1 => (by cases g1), fun g hg => ⟨0, by simp [ren0, hg]⟩, fun b s hb => (by
    unfold ren0 at hb
    split at hb
    · cases hb
      simp only
      omega
    · cases hb)⟩

/-- What a run leaves: a truth value. -/
def saysB (b : Bool) (o : Option Out) : Bool :=
  match o with
  | some ⟨.ret, _, .bool c, _⟩ => c == b
  | _ => false

theorem saysB_spec {b : Bool} {o : Option Out} (h : saysB b o = true) : ∃ out, o = some out ∧ out.ex = .ret ∧ out.v = .bool b := by
  unfold saysB at h
  split at h
  · simp only [beq_iff_eq] at h
    subst h
    exact ⟨_, rfl, rfl, rfl⟩
  · cases h

/-- A run that begins with nothing, and ends with a truth value. -/
theorem calls_bool {P : Program} (hP : PlainNames P) (hmx : P.follows .mixedOrders = true) {k : Nat} {fr : AFr} {f : FuncId} {args args' : List Value} {nx lo : Nat} {b : Bool} (h : saysB b (irun P k fr (.fn f args) ⟨.lf, nx, lo, []⟩) = true) {fn : Func} (hf : P.funcs[f]? = some fn) (hb : fn.body.isSome = true)
    {W : World} (hW : P.globals.size ≤ W.heap.size) (hnx : P.globals.size ≤ nx) (ha : VsRel (ren0 P) args args') :
    Calls P f ⟨args'⟩ W fun e W' => e = .returned (.bool b) ∧ Still W W' := by
  obtain ⟨out, h1, h2, h3⟩ := saysB_spec h
  refine (calls_of_irun hP hmx h1 h2 hf hb (rel0 hW) (fun i hi _ => ?_) ha).mono fun e W' ⟨v', ρ', q1, q2, _, q4⟩ => ?_
  · simp only at hi
    simp [ren0, show ¬ i < P.globals.size by omega]
  · rw [h3] at q2
    cases q2
    exact ⟨q1, still_of_grow q4 fun _ => rfl⟩

theorem Still.keptBut {W W' : World} (h : Still W W') (may : MemPlace → Prop) : W.keptBut W' may := by
  refine ⟨h.1, h.2.1, fun i hi => ?_⟩
  rw [h.2.2.2 i hi]
  split
  · rename_i h1 h2
    rw [h1] at h2
    cases h2
    exact ⟨rfl, rfl, rfl, fun _ _ => rfl⟩
  · rename_i h1 h2
    rw [h1] at h2
    cases h2
    exact .inr ⟨rfl, rfl⟩
  · rfl

theorem Still.frozen {W W' : World} (h : Still W W') {a : Addr} (ha : a.block < W.heap.size) : W'.frozen? a = W.frozen? a := by
  simp [World.frozen?, h.2.2.2 _ ha]

def plainNamesB (P : Program) : Bool := P.funcs.toList.all fun fn => !fn.body.isSome || fn.name != "runtime.NumGoroutine"
theorem plainNames_of {P : Program} (h : plainNamesB P = true) : PlainNames P := by
  intro f fn hf hb hn
  have := List.all_eq_true.1 h fn (by
    have := Array.mem_of_getElem? hf
    simpa using this)
  simp [hb, hn] at this

/-- The variables lie in every world that a call begins in. -/
theorem globals_of_shaped {P : Program} {w : World} (h : w.ShapedOpen P) (hk : Nat.blt P.globals.size (begin P (fun _ _ => 0) default).world.heap.size = true) : P.globals.size ≤ w.heap.size := by
  rw [nblt, decide_eq_true_eq] at hk
  obtain ⟨o, _, ho, _⟩ := h.2 P.globals.size (Nat.le_refl _) hk
  have := (Array.getElem?_eq_some_iff.1 ho).1
  omega

section
variable {H : Type} {enc : TypeId × Value → H}

/-- What a law's call leaves, where it has answered and nothing has changed. -/
theorem post_law {P : Program} {f : Func} {s : ChangeSpec} {apart fresh handsOn again : Bool} {W W' : World} {args : Array Value} {v : Value} {ds gs : List (DataW H)} {before pa pv : List MemPlace}
    (hW : DataW.Whole enc P f.params.toList s.vars apart W args.toList ds gs before)
    (hres : ∀ (b : Nat) (sp : Nat → Bool) (hd : Bool), DataW.TrodAll enc P W' b sp hd f.resultTypes.toList (v.resultList f.resultTypes.size) (s.fn H (ds ++ gs)).results [])
    (hargs : ∀ sp : Nat → Bool, (∀ p ∈ before, sp p.block = true) → DataW.TrodAll enc P W' 0 sp true f.params.toList args.toList (s.fn H (ds ++ gs)).args pa)
    (hvars : ∀ sp : Nat → Bool, (∀ p ∈ before, sp p.block = true) → DataW.TrodVars enc P W' sp s.vars (s.fn H (ds ++ gs)).vars pv)
    (hps : before = pa ++ pv) (hk : Still W W')
    (hok : ∀ (j : Nat) (t : TypeId) (r : Value), f.resultTypes[j]? = some t → (v.resultList f.resultTypes.size)[j]? = some r → Value.okWide P W' .any 0 t r) :
    s.post enc P f apart fresh handsOn again W args v W' := by
  have hold : ∀ p ∈ before, (fun b => decide (b < W.heap.size)) p.block = true := fun p hp => by simpa using hW.lt p hp
  have hlt := hW.lt
  refine ⟨ds, gs, before, [], pa, pv, hW, hres _ _ _, hargs _ hold, hvars _ hold, hk.keptBut _, fun _ => ?_⟩
  obtain ⟨_, _, _, _, _, hz, hn⟩ := hW
  refine ⟨hok, _, _, ([] ++ pa) ++ pv, ⟨[] ++ pa, pv, ChangeShapes.trodAll_append (hargs _ (fun _ _ => rfl)) (hres _ _ _), hvars _ (fun _ _ => rfl), rfl, ?_, ?_⟩, ?_⟩
  · intro b off hp
    have hmem : MemPlace.cell b off ∈ before := by rw [hps]; simpa using hp
    have := hlt _ hmem
    rw [hk.frozen this]
    exact hz b off hmem
  · intro ha
    have := hn ha
    rw [hps] at this
    simpa using this
  · intro p hp _
    rw [hps]
    simpa using hp

/-- As the kit's 'returnsInHanded_of_change_and'; the contract is told, besides, how the world is shaped. -/
theorem returns_shaped {a : Assume} {C : Checked} {os : Os} {f : FuncId} {fn : Func} {s : ChangeSpec} {conds : List PathCond} {apart fresh handsOn again : Bool} {X : World → Array Value → Prop}
    (hX : ∀ (w w' : World) (args : Array Value), w.heap = w'.heap → X w args → X w' args)
    (own : ownKnob C.prog.godebug = none) (started : os.Started) (noInit : C.prog.inits.idxOf? f = none) (hfn : C.prog.funcs[f]? = some fn)
    (witness : ∃ (w : World) (tape : Tape) (i : Input), w.os = os ∧ (w.forCall tape i).Shaped C.prog ∧ i.vars = [] ∧ Input.okWide C.prog (w.forCall tape i) .any w.heap.size f i ∧
      ((s.pre enc C.prog fn conds apart (w.forCall tape i).memory i.args ∧ X (w.forCall tape i).memory i.args) ∧ sizedMet enc C.prog fn (OpenSpec.ofChange s) apart (w.forCall tape i).memory i.args) ∧ a.holds C.prog (lone (Frame.enter C.prog f i.args .normal) [] (w.forCall tape i)))
    (contract : ∀ (W : World) (base : Nat) (args : Array Value) (ds gs : List (DataW H)) (before : List MemPlace), W.ShapedOpen C.prog →
      (∀ (j : Nat) t v, fn.params[j]? = some t → args[j]? = some v → Value.okWide C.prog W .any base t v) →
      DataW.Whole enc C.prog fn.params.toList s.vars apart W args.toList ds gs before →
      conds.all (PathCond.test C.prog ⟨fn.params.toList, ds, s.plain.varTypes C.prog, gs⟩) = true →
      (DataW.weightsEach C.prog (fn.params.toList ++ s.plain.varTypes C.prog) (ds ++ gs)).all (· ≤ reachBytes) = true → X W args →
      Calls C.prog f args W fun e W' => ∃ v, e = .returned v ∧ s.post enc C.prog fn apart fresh handsOn again W args v W') :
    ReturnsInHanded a C os f .any (fun w args => (s.pre enc C.prog fn conds apart w args ∧ X w args) ∧ sizedMet enc C.prog fn (OpenSpec.ofChange s) apart w args) (s.post enc C.prog fn apart fresh handsOn again) := by
  refine returnsInHanded_of_calls own started noInit witness ?_
  intro w tape i _ hsh _ hok hpre hholds
  obtain ⟨_, _, _, fn', hfn', _, _, _, _, hval⟩ := hok
  have e : fn' = fn := Option.some.inj (hfn'.symm.trans hfn)
  subst e
  obtain ⟨⟨⟨ds, gs, before, hw, hc⟩, hx⟩, hz⟩ := hpre
  have hw' := DataW.Whole.of_heap (w' := w.forCall tape i) (by rfl) hw
  refine (contract (w.forCall tape i) w.heap.size i.args ds gs before hsh hval hw' hc (hz.weights hw) (hX _ _ _ (by rfl) hx)).mono fun e W' ⟨v, he, hp⟩ => ?_
  subst he
  exact ChangeSpec.post_blind hp

end
end Go.Ab
