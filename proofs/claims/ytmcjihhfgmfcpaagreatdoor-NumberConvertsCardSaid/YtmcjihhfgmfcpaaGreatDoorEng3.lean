/-
  The engine, part 3: an interpreter over abstract memories, and the proof that the model's machine does what it reckons. Conditions: none.
-/
import Derived.Test.YtmcjihhfgmfcpaaGreatDoorEng2
import Derived.Lib.Bytealg
import Derived.Laws.Externs
import Derived.Defers
import Derived.Lib.MakeNoZero

set_option autoImplicit true
set_option relaxedAutoImplicit true
set_option linter.unusedSectionVars false
set_option linter.unusedVariables false
set_option linter.unusedSimpArgs false
namespace Go.Ab
variable [Vals]
section
variable {P : Program} [FactsOk P] {ρ ρ' : Ren} {m m' : AW} {w w' : World} {ts : Tr Value} {self : Self}
theorem doOp_nodefer (h : doOp P self ts o m = some r) : NoDefer o := by
 rintro c rfl
 simp [doOp, cls, opH] at h
theorem valM_val (h : valM v x = some (.pan u m')) : False := by
 unfold valM at h
 split at h <;> cases h
theorem valP_val (h : valP x = some (.pan u m')) : False := by
 unfold valP at h
 split at h <;> cases h
theorem callB_pan (h : callB P b args t m = some (.pan u m')) : False := by
 unfold callB at h
 split at h
 ·split at h
  ·unfold appendV at h
   split at h
   ·split at h
    ·split at h
     ·split at h
      ·obtain ⟨_, h⟩ := bif_some h
       split at h
       ·exact valP_val h
       cases h
      cases h
     ·split at h
      ·split at h
       ·exact valP_val h
       cases h
      cases h
     cases h
    cases h
   cases h
  cases h
 ·split at h
  ·unfold copyV at h
   split at h
   ·split at h
    ·split at h
     ·split at h
      ·split at h
       ·split at h
        ·obtain ⟨_, h⟩ := bif_some h
         cases h
        ·exact valM_val h
        cases h
       cases h
      cases h
     cases h
    cases h
   cases h
  cases h
 ·split at h
  ·unfold deleteV at h
   split at h
   ·obtain ⟨_, h⟩ := bif_some h
    split at h
    ·cases h
    ·split at h
     ·split at h <;> cases h
     cases h
    cases h
   cases h
  cases h
 ·split at h
  ·unfold unsafeStr at h
   split at h
   ·split at h
    ·obtain ⟨_, h⟩ := bif_some h
     cases h
    cases h
   ·split at h
    ·split at h
     ·split at h
      ·split at h
       ·split at h
        ·obtain ⟨_, h⟩ := bif_some h
         cases h
        cases h
       cases h
      cases h
     cases h
    cases h
   cases h
  cases h
 cases h
theorem nextA_pan (h : nextA x b m = some (.pan u m')) : False := by
 unfold nextA at h
 split at h
 ·split at h
  ·obtain ⟨_, h⟩ := bif_some h
   generalize Nat.blt _ _ = c at h
   cases c <;> cases h
  ·cases b with
   | true => cases h
   | false =>
    simp only [cond_false] at h
    split at h
    ·cases h
    split at h
    ·split at h <;> cases h
    cases h
  cases h
 cases h
theorem entryA_pan (h : entryA x m = some (.pan u m')) : False := by
 unfold entryA at h
 split at h
 ·split at h
  ·split at h
   ·split at h
    ·split at h
     ·revert h
      generalize Nat.beq _ _ = c
      intro h
      cases c <;> cases h
     cases h
    cases h
   cases h
  cases h
 cases h
theorem opH_pan (h : opH P self ts o m = some (.pan u m')) (hl : Local o) : False := by
 unfold opH at h
 split at h
 ·split at h
  ·split at h
   ·unfold storeV at h
    split at h
    ·split at h
     ·obtain ⟨_, h⟩ := bif_some h
      exact valM_val h
     cases h
    cases h
   cases h
  cases h
 ·split at h
  ·unfold mapSet at h
   split at h
   ·split at h
    ·obtain ⟨_, h⟩ := bif_some h
     split at h
     ·split at h <;> cases h
     cases h
    cases h
   cases h
  cases h
 ·split at h
  ·unfold mapSet at h
   split at h
   ·split at h
    ·obtain ⟨_, h⟩ := bif_some h
     split at h
     ·split at h <;> cases h
     cases h
    cases h
   cases h
  cases h
 ·split at h
  ·unfold rangeA at h
   split at h
   ·split at h <;> cases h
   ·split at h <;> cases h
   ·split at h
    ·split at h <;> cases h
    cases h
   cases h
  cases h
 ·split at h
  ·exact nextA_pan h
  cases h
 ·split at h
  ·exact entryA_pan h
  cases h
 ·obtain ⟨b, hb⟩ := hl
  simp only [callH, hb] at h
  split at h
  ·exact callB_pan h
  cases h
 ·exact hl
 cases h
theorem callFunc_args (a b c : List Value) : (⟨a⟩ : Array Value) ++ ⟨b⟩ ++ ⟨c⟩ = ⟨a ++ b ++ c⟩ := by simp
def OpEnds (P : Program) (ρ : Ren) (m : AW) (w : World) (b : Frame) (a : Act) (cs : List Frame) (todo next : List Item) (dst : Option Tmp) (r : Rs) : Prop :=
 match r with
 | .val v m' => ∃ ρ' w' v', Steps P (lone (on b a todo) cs w) (lone (on b (a.put dst v') next) cs w') ∧ Rel P ρ' m' w' ∧ Grow ρ ρ' m m' w w' ∧ VRel ρ' v v'
 | .pan v m' => ∃ ρ' w' v', Steps P (lone (on b a todo) cs w) (lone (off b a todo (.panicking [{ v := v', recovered := false }])) cs w') ∧ Rel P ρ' m' w' ∧ Grow ρ ρ' m m' w w' ∧ VRel ρ' v v'
theorem op_follows (hS : ∀ fr t m out, self fr t m = some out → Sound P fr t m out) (ho : ops[i]? = some o) (hw : Region.wanted o (yielded ops a.tmps) = true)
  (hx : execOp a.eval o = execOp e o) (hE : ERel P ρ ts e) (hr : Rel P ρ m w) (h : doOp P self ts o.op m = some r) (hf : Fresh ρ m r.m) :
  OpEnds P ρ m w b a cs (.inRegion ops (i :: rest) :: k) (.inRegion ops rest :: k) o.dst r := by
 have hd := doOp_nodefer h
 unfold doOp at h
 split at h
 ·unfold doP at h
  split at h
  ·rename_i v hv
   cases h
   obtain ⟨v', q1, q2⟩ := opP_rel hE hv w
   exact ⟨ρ, w, v', .one (op_value ho hw hd (by rw [hx]; exact q1)), hr, .refl _ _ _, q2⟩
  cases h
 ·unfold doL at h
  split at h
  ·rename_i v hv
   cases h
   obtain ⟨v', q1, q2⟩ := opL_imm hE hv w
   exact ⟨ρ, w, v', .one (op_value ho hw hd (by rw [hx]; exact q1)), hr, .refl _ _ _, q2⟩
  ·rename_i bl f hv
   split at h
   ·rename_i v hb
    cases h
    obtain ⟨ob, hb1, hb2⟩ := Option.bind_eq_some_iff.1 hb
    obtain ⟨s, x, q1, q2, q3⟩ := hr.obj _ _ hb1
    obtain ⟨v', r1, r2⟩ := opL_rd hE hv hb2 ⟨q1, q2, q3⟩
    exact ⟨ρ, w, v', .one (op_value ho hw hd (by rw [hx]; exact r1)), hr, .refl _ _ _, r2⟩
   cases h
  cases h
 ·unfold doA at h
  split at h
  ·rename_i x f hv
   cases h
   obtain ⟨s, q1, q2, q3, q4⟩ := opA_rel hE hv
   obtain ⟨cap, y, w1, v', r1, r2, r3, r4⟩ := q4 w
   have hfr := hf _ (Nat.le_refl _) (by simp [Rs.m, AW.new])
   have hle : ρ.le (ρ.set m.next ⟨w.heap.size, 0, cap⟩) := Ren.le_set hfr
   obtain ⟨t1, t2⟩ := r4 (ρ.set m.next ⟨w.heap.size, 0, cap⟩) m.next hle (Ren.set_same _ _ _)
   have hn := hr.new hfr r2 r3 t1
   refine ⟨_, w1, v', .one (op_value ho hw hd ?_), hn.1, hn.2, t2⟩
   rw [hx]
   rw [q1]
   simp only [Sem.run_bind, r1, Result.andThen_ok, Sem.run_pure]
  cases h
 have loc : ∀ v m', r = .val v m' → Local o.op → ∃ ρ' w' v', Steps P (lone (on b a (.inRegion ops (i :: rest) :: k)) cs w) (lone (on b (a.put o.dst v') (.inRegion ops rest :: k)) cs w') ∧ Rel P ρ' m' w' ∧ Grow ρ ρ' m m' w w' ∧ VRel ρ' v v' := by
  intro v m' hrv hl
  subst hrv
  obtain ⟨ρ', w', x, q1, q2, q3, q4⟩ := opH_rel hE hr hf h hl
  rcases q4 with ⟨v', rfl, q5⟩ | ⟨rfl, rfl⟩
  ·exact ⟨ρ', w', v', .one (op_value ho hw hd (by rw [hx]; exact q1)), q2, q3, q5⟩
  exact ⟨ρ', w', undef, .one (Ab.op_skip ho hw hd (by rw [hx]; exact q1)), q2, q3, undef_rel _⟩
 by_cases hl : Local o.op
 ·cases r with
  | val v m' => exact loc v m' rfl hl
  | pan v m' => exact (opH_pan h hl).elim
 cases hop : o.op with
 | call c =>
  cases hc : c.callee with
  | builtin bn => exact absurd (by rw [hop]; exact ⟨bn, hc⟩) hl
  | invoke x nm =>
   rw [hop] at h
   simp only [opH, callH, hc] at h
   split at h
   ·rename_i args ha
    split at h
    ·rename_i t rv hrv
     split at h
     ·rename_i g hg
      have hargs := hE.list ha
      have hrr := hE _ _ hrv
      generalize he : e x = rv' at hrr
      cases hrr with
      | iface hvv =>
       rename_i v0
       have hmeth : (method (P.types.size + Made.depth) t v0 nm).run P w = .ok (g, v0) w := methA_method hg (P.types.size + 99) v0 w
       have hrun : (execOp e o).run P w = (callFunc g ⟨v0 :: c.args.toList.map e⟩).run P w := by
        unfold execOp
        rw [hop]
        have e1 : (#[Value.iface t v0] ++ c.args.map e : Array Value)[0]? = some (.iface t v0) := by
         rw [Array.getElem?_append_left (by simp)]
         rfl
        have e2 : (#[Value.iface t v0] ++ c.args.map e : Array Value).extract 1 (#[Value.iface t v0] ++ c.args.map e : Array Value).size = c.args.map e := by
         apply Array.ext'
         simp [List.take_of_length_le]
        simp only [resolve, hc, he, Sem.run_bind, Sem.run_pure, Result.andThen_ok, invoke, e1, e2, callMethod, run_program, hmeth]
        congr 2
        apply Array.ext'
        simp
       unfold callA at h
       split at h
       ·rename_i heq
        cases h
        have hs := hS _ _ _ _ heq
        obtain ⟨ρ', w', q1, q2, q3⟩ := hs ρ w _ (on b a (.inRegion ops (i :: rest) :: k) :: cs) hr hf (.cons hvv hargs)
        rcases q3 with ⟨v', _, q4, q5⟩ | ⟨q5, fr, q6, q7, q8⟩
        ·exact ⟨ρ', w', v', .one (op_value ho hw hd (by rw [hx, hrun]; exact q5)), q1, q2, q4⟩
        rcases q8 with ⟨v', _, q9, q10⟩ | ⟨_, _, q9, _⟩
        ·refine ⟨ρ', w', v', ?_, q1, q2, q9⟩
         refine .head (op_enter ho hw hd (by rw [hx, hrun]; exact q5)) (q7.trans (.one ?_))
         rw [step_leave_returned q10, on_finish, ho]
         rfl
        cases q9
       ·rename_i heq
        cases h
        have hs := hS _ _ _ _ heq
        obtain ⟨ρ', w', q1, q2, q3⟩ := hs ρ w _ (on b a (.inRegion ops (i :: rest) :: k) :: cs) hr hf (.cons hvv hargs)
        rcases q3 with ⟨v', q4, _⟩ | ⟨q5, fr, q6, q7, q8⟩
        ·cases q4
        rcases q8 with ⟨v', q9, _⟩ | ⟨v2, v', q9, q10, q11⟩
        ·cases q9
        cases q9
        refine ⟨ρ', w', v', ?_, q1, q2, q10⟩
        refine .head (op_enter ho hw hd (by rw [hx, hrun]; exact q5)) (q7.trans (.one ?_))
        rw [step_leave_panicked q11]
        rfl
       cases h
     cases h
    cases h
   cases h
  | value f =>
   rw [hop] at h
   simp only [opH, callH, hc] at h
   split at h
   ·rename_i args ha
    split at h
    ·rename_i fv hfv
     have hargs := hE.list ha
     have hfr := hE _ _ hfv
     have hex : execOp e o = (do let d ← Deferred.ofValue (e f) (c.args.map e); invoke d.target d.args) := by
      unfold execOp
      rw [hop]
      simp only [resolve, hc]
     rw [map_arr] at hex
     unfold callV at h
     split at h
     ·rename_i g first captured
      generalize he : e f = fv' at hfr hex
      cases hfr with
      | func h1 h2 =>
       rename_i first' captured'
       have hrun : (execOp e o).run P w = (callFunc g ⟨first' ++ c.args.toList.map e ++ captured'⟩).run P w := by
        rw [hex]
        simp only [Deferred.ofValue, Sem.run_bind, Sem.run_pure, Result.andThen_ok, invoke, callFunc_args]
       unfold callA at h
       split at h
       ·rename_i heq
        cases h
        have hs := hS _ _ _ _ heq
        obtain ⟨ρ', w', q1, q2, q3⟩ := hs ρ w _ (on b a (.inRegion ops (i :: rest) :: k) :: cs) hr hf ((h1.append hargs).append h2)
        rcases q3 with ⟨v', _, q4, q5⟩ | ⟨q5, fr, q6, q7, q8⟩
        ·exact ⟨ρ', w', v', .one (op_value ho hw hd (by rw [hx, hrun]; exact q5)), q1, q2, q4⟩
        rcases q8 with ⟨v', _, q9, q10⟩ | ⟨_, _, q9, _⟩
        ·refine ⟨ρ', w', v', ?_, q1, q2, q9⟩
         refine .head (op_enter ho hw hd (by rw [hx, hrun]; exact q5)) (q7.trans (.one ?_))
         rw [step_leave_returned q10, on_finish, ho]
         rfl
        cases q9
       ·rename_i heq
        cases h
        have hs := hS _ _ _ _ heq
        obtain ⟨ρ', w', q1, q2, q3⟩ := hs ρ w _ (on b a (.inRegion ops (i :: rest) :: k) :: cs) hr hf ((h1.append hargs).append h2)
        rcases q3 with ⟨v', q4, _⟩ | ⟨q5, fr, q6, q7, q8⟩
        ·cases q4
        rcases q8 with ⟨v', q9, _⟩ | ⟨v2, v', q9, q10, q11⟩
        ·cases q9
        cases q9
        refine ⟨ρ', w', v', ?_, q1, q2, q10⟩
        refine .head (op_enter ho hw hd (by rw [hx, hrun]; exact q5)) (q7.trans (.one ?_))
        rw [step_leave_panicked q11]
        rfl
       cases h
     ·rename_i l x1 x2
      generalize he : e f = fv' at hfr hex
      cases hfr with
      | yield hl2 =>
       rename_i s
       have hrun : (execOp e o).run P w = (Instr.yield s.blk ⟨c.args.toList.map e⟩).run P w := by
        rw [hex]
        simp only [Deferred.ofValue, Sem.run_bind, Sem.run_pure, Result.andThen_ok, invoke]
        rw [show (⟨[]⟩ : Array Value) ++ (⟨c.args.toList.map e⟩ : Array Value) = ⟨c.args.toList.map e⟩ by simp]
       split at h
       ·rename_i heq
        cases h
        have hs := hS _ _ _ _ heq
        obtain ⟨ρ', w', f2, tmps, x, y, q0, q1, q2, q3⟩ := hs ρ w _ (on b a (.inRegion ops (i :: rest) :: k)) cs s hr hf hargs hl2
        rcases q3 with ⟨v', _, q4, q5⟩ | ⟨_, _, q9, _⟩
        ·refine ⟨ρ', w', v', ?_, q1, q2, q4⟩
         rw [on_finish, ho] at q5
         exact .head (op_round ho hw hd (by rw [hx, hrun]; exact q0)) q5
        cases q9
       ·rename_i heq
        cases h
        have hs := hS _ _ _ _ heq
        obtain ⟨ρ', w', f2, tmps, x, y, q0, q1, q2, q3⟩ := hs ρ w _ (on b a (.inRegion ops (i :: rest) :: k)) cs s hr hf hargs hl2
        rcases q3 with ⟨v', q9, _⟩ | ⟨v2, v', q9, q4, q5⟩
        ·cases q9
        cases q9
        exact ⟨ρ', w', v', .head (op_round ho hw hd (by rw [hx, hrun]; exact q0)) q5, q1, q2, q4⟩
       cases h
     cases h
    cases h
   cases h
 | panic x =>
  rw [hop] at h
  simp only [opH] at h
  unfold panicV at h
  split at h
  ·rename_i t v hxv
   cases h
   have hv := hE _ _ hxv
   generalize he : e x = xv at hv
   cases hv with
   | iface hv2 =>
    refine ⟨ρ, w, _, .one (op_panic ho hw hd ?_), hr, .refl _ _ _, .iface hv2⟩
    rw [hx]
    unfold execOp
    rw [hop]
    simp only [he, Instr.panic, Sem.run_bind]
    rfl
  cases h
 | _ => exact absurd (by rw [hop]; trivial) hl
end
end Go.Ab
namespace Go.Ab
variable [Vals]
section
variable {P : Program} [FactsOk P] {ρ ρ' : Ren} {m m' : AW} {w w' : World} {ts : Tr Value} {self : Self}
theorem Fresh.left (h : Fresh ρ m m2) (h1 : m1.next ≤ m2.next) : Fresh ρ m m1 := fun i a b => h i a (by omega)
theorem Fresh.right (h : Fresh ρ m m2) (g : Grow ρ ρ' m m1 w w') : Fresh ρ' m1 m2 := fun i a b => by
 have := g.next
 rw [g.only i (.inr a)]
 exact h i (by omega) b
def Reaches (P : Program) (ρ : Ren) (w : World) (fr : AFr) (b : Frame) (a : Act) (n0 : Nat) (k : List Item) (cs : List Frame) (todo : List Item) (m : AW) (out : Out) : Prop :=
 ∃ ρ' w' a' f, Steps P (lone (on b a todo) cs w) (lone f cs w') ∧ Ends ρ' b a' k out.ex f ∧ Rel P ρ' out.m w' ∧ Grow ρ ρ' m out.m w w' ∧ FOk ρ' n0 (fr.with out.ts) b a' out.m w'
theorem Reaches.after
  (hs : Steps P (lone (on b a todo) cs w) (lone (on b a1 todo1) cs w1)) (hg : Grow ρ ρ1 m m1 w w1) (h : Reaches P ρ1 w1 (fr.with ts1) b a1 n0 k cs todo1 m1 out) : Reaches P ρ w fr b a n0 k cs todo m out := by
 obtain ⟨ρ', w', a', f, q1, q2, q3, q4, q5⟩ := h
 exact ⟨ρ', w', a', f, hs.trans q1, q2, q3, hg.trans q4, q5⟩
theorem Reaches.after0
  (hs : Steps P (lone (on b a todo) cs w) (lone (on b a todo1) cs w)) (h : Reaches P ρ w fr b a n0 k cs todo1 m out) : Reaches P ρ w fr b a n0 k cs todo m out := by
 obtain ⟨ρ', w', a', f, q1, q2, q3, q4, q5⟩ := h
 exact ⟨ρ', w', a', f, hs.trans q1, q2, q3, q4, q5⟩
section
variable (hM : ∀ fr t m out, self fr t m = some out → Mono m out.m) (hS : ∀ fr t m out, self fr t m = some out → Sound P fr t m out)
include hM hS
theorem iops_follows {q : Bool} {ops : Array Oper} {fr : AFr} {b : Frame} {n0 : Nat} {k : List Item} {cs : List Frame} : ∀ (l : List Oper) (i : Nat) (ts : Tr Value) (m : AW) (out : Out) (ρ : Ren) (w : World) (a : Act), ops.toList.drop i = l → iops P self fr.n q ops l ts m = some out → (q = true → fr.round = none) → NR b cs →
  Rel P ρ m w → Fresh ρ m out.m → FOk ρ n0 (fr.with ts) b a m w → n0 ≤ w.heap.size → Reaches P ρ w fr b a n0 k cs (.inRegion ops (List.range' i (ops.size - i)) :: k) m out
 | [], i, ts, m, out, ρ, w, a, hl, h, hq, hnr, hr, hf, hok, hn => by
  simp only [iops, Option.some.injEq] at h
  subst h
  have hsz : ops.size - i = 0 := by
   have := congrArg List.length hl
   simpa using this
  rw [hsz]
  exact ⟨ρ, w, a, _, .one on_region_end, rfl, hr, .refl _ _ _, hok⟩
 | o :: l, i, ts, m, out, ρ, w, a, hl, h, hq, hnr, hr, hf, hok, hn => by
  have hi : i < ops.size := by
   have := congrArg List.length hl
   simp at this
   omega
  have ho : ops[i]? = some o := by
   have := congrArg (·[0]?) hl
   simpa using this
  have hl' : ops.toList.drop (i + 1) = l := by
   have := congrArg List.tail hl
   simpa using this
  have hrange : List.range' i (ops.size - i) = i :: List.range' (i + 1) (ops.size - (i + 1)) := by
   rw [show ops.size - i = (ops.size - (i + 1)) + 1 by omega, List.range'_succ]
  rw [hrange]
  unfold iops at h
  have hw : wantedA ops ts o = Region.wanted o (yielded ops a.tmps) := wanted_rel hok.tmps ops o
  have hE : ERel P ρ ts a.eval := erel_of hok.tmps hr.glob
  cases hc : wantedA ops ts o with
  | true =>
   rw [hc] at h hw
   simp only [cond_true] at h
   split at h
   ·split at h
    ·rename_i v m1 heq
     have h1 := doOp_mono hM heq
     have h2 := iops_mono hM _ _ _ _ h
     obtain ⟨ρ1, w1, v', q1, q2, q3, q4⟩ := op_follows (b := b) (k := k) (cs := cs) (rest := List.range' (i + 1) (ops.size - (i + 1))) hS ho hw.symm rfl hE hr heq (hf.left h2.next)
     have hok1 : FOk ρ1 n0 (fr.with (put fr.n ts o.dst v)) b (a.put o.dst v') m1 w1 :=
      FOk.grow (fr := fr.with ts) hok q3 (Act.put_defers' _ _ _) (put_defs hok.tmps.1.2) ((TsRel.mono q3.le hok.tmps).put q4 o.dst)
     refine Reaches.after (ts1 := put fr.n ts o.dst v) q1 q3 ?_
     exact iops_follows (fr := fr.with (put fr.n ts o.dst v)) l (i + 1) _ _ _ _ _ _ hl' h hq hnr q2 (hf.right q3) hok1 (Nat.le_trans hn q3.size)
    ·rename_i v m1 heq
     cases h
     obtain ⟨ρ1, w1, v', q1, q2, q3, q4⟩ := op_follows (b := b) (k := k) (cs := cs) (rest := List.range' (i + 1) (ops.size - (i + 1))) hS ho hw.symm rfl hE hr heq hf
     exact ⟨ρ1, w1, a, _, q1, ⟨_, v', rfl, q4⟩, q2, q3, FOk.grow (fr := fr.with ts) hok q3 rfl rfl (TsRel.mono q3.le hok.tmps)⟩
    cases h
   ·rename_i c hspc
    have hop : o.op = .defer c := by
     unfold spc at hspc
     split at hspc <;> first | cases hspc | skip
     assumption
    split at h
    ·rename_i v hv
     obtain ⟨hqt, h⟩ := bif_some h
     have hround := hq hqt
     unfold dfrA at hv
     split at hv
     ·rename_i f hcal
      split at hv
      ·rename_i g first captured hfv
       split at hv
       ·rename_i args hargs
        cases hv
        have ha := hE.list hargs
        have hfr := hE _ _ hfv
        generalize he : a.eval f = fv' at hfr
        cases hfr with
        | func h1 h2 =>
         rename_i first' captured'
         rcases hok.round with ⟨l0, s0, e1, _⟩ | ⟨e1, e2, e3⟩
         ·rw [show (fr.with ts).round = fr.round from rfl, hround] at e1
          cases e1
         have hrun : (execOp a.eval o).run P w = .ok (.defer { target := .fn (.func g) ⟨captured'⟩, args := ⟨first' ++ c.args.toList.map a.eval⟩ }) w := by
          unfold execOp
          rw [hop]
          simp only [resolve, hcal, he, Deferred.ofValue, Sem.run_bind, Sem.run_pure, Result.andThen_ok]
          congr 3
          apply Array.ext'
          simp
         have hstep := op_defer (P := P) (b := b) (a := a) (k := k) (cs := cs) (rest := List.range' (i + 1) (ops.size - (i + 1))) ho hw.symm hop e2 hrun
         have hts0 : TsRel ρ fr.n (pushD ts (.func (.func g) ⟨first ++ args⟩ ⟨captured⟩)) a.tmps := by
          refine ⟨hok.tmps.1, fun t ht => ?_⟩
          unfold pushD
          rw [Tr.get_set, if_neg (fun e => Nat.lt_irrefl dIx (by rw [e] at ht; exact ht))]
          exact hok.tmps.2 t ht
         have hdefs : defsOf (pushD ts (.func (.func g) ⟨first ++ args⟩ ⟨captured⟩)) = .func (.func g) ⟨first ++ args⟩ ⟨captured⟩ :: defsOf ts := by
          unfold pushD
          exact defsOf_set _ _
         have hok1 : FOk ρ n0 (fr.with (put fr.n (pushD ts (.func (.func g) ⟨first ++ args⟩ ⟨captured⟩)) o.dst undef)) b ((⟨a.tmps, { target := .fn (.func g) ⟨captured'⟩, args := ⟨first' ++ c.args.toList.map a.eval⟩ } :: a.defers⟩ : Act).put o.dst undef) m w := by
          have hput := TsRel.put (a := ⟨a.tmps, { target := .fn (.func g) ⟨captured'⟩, args := ⟨first' ++ c.args.toList.map a.eval⟩ } :: a.defers⟩) hts0 (undef_rel _) o.dst
          refine ⟨hok.fn, hput, .inr ⟨e1, e2, ?_⟩⟩
          show Defs ρ n0 m w (defsOf (put fr.n _ o.dst undef)) _
          rw [put_defs (n := fr.n) hok.tmps.1.2, hdefs, Act.put_defers']
          obtain ⟨Bs, t1, t2⟩ := e3
          exact ⟨Bs, .call (h1.append ha) h2 t1, t2⟩
         obtain ⟨ρ', w', a', f', r1, r2, r3, r4, r5⟩ := iops_follows (fr := fr.with (put fr.n (pushD ts (.func (.func g) ⟨first ++ args⟩ ⟨captured⟩)) o.dst undef)) l (i + 1) _ _ _ ρ w _ hl' h hq hnr hr hf hok1 hn
         exact ⟨ρ', w', a', f', .head hstep r1, r2, r3, r4, r5⟩
       cases hv
      cases hv
     cases hv
    cases h
   rename_i hspc
   obtain ⟨hqt, h⟩ := bif_some h
   have hround := hq hqt
   have hrec : ∃ c : Call, o.op = .call c ∧ c.callee = .builtin .recover := by
    unfold spc at hspc
    split at hspc <;> first | cases hspc | skip
    rename_i heq
    exact ⟨_, heq, rfl⟩
   obtain ⟨c, hop, hcal⟩ := hrec
   rcases hok.round with ⟨l0, s0, e1, _⟩ | ⟨e1, e2, e3⟩
   ·rw [show (fr.with ts).round = fr.round from rfl, hround] at e1
    cases e1
   have hrun : (execOp a.eval o).run P w = .ok .recover w := by
    unfold execOp
    rw [hop]
    simp only [resolve, hcal, Sem.run_bind, Sem.run_pure, Result.andThen_ok, invoke, builtin]
   have hstep := op_recover (P := P) (b := b) (a := a) (k := k) (cs := cs) (rest := List.range' (i + 1) (ops.size - (i + 1))) ho hw.symm (fun c2 hc2 => by rw [hop] at hc2; cases hc2) e2 (hnr e2) hrun
   have hok1 : FOk ρ n0 (fr.with (put fr.n ts o.dst .nilIface)) b (a.put o.dst .nilIface) m w :=
    FOk.grow (fr := fr.with ts) hok (.refl _ _ _) (Act.put_defers' _ _ _) (put_defs hok.tmps.1.2) (TsRel.put hok.tmps .nilIface o.dst)
   refine Reaches.after (ts1 := put fr.n ts o.dst .nilIface) (.one hstep) (.refl _ _ _) ?_
   exact iops_follows (fr := fr.with (put fr.n ts o.dst .nilIface)) l (i + 1) _ _ _ _ _ _ hl' h hq hnr hr hf hok1 hn
  | false =>
   rw [hc] at h hw
   simp only [cond_false] at h
   have hskip : step P (lone (on b a (.inRegion ops (i :: List.range' (i + 1) (ops.size - (i + 1))) :: k)) cs w) = .next (lone (on b (a.put o.dst undef) (.inRegion ops (List.range' (i + 1) (ops.size - (i + 1))) :: k)) cs w) := by
    have := on_op_skip (P := P) (b := b) (a := a) (k := k) (cs := cs) (w := w) (ops := ops) (i := i) (rest := List.range' (i + 1) (ops.size - (i + 1))) (by rw [ho]; simp only [Option.map_some, Option.getD_some]; exact hw.symm)
    rw [ho] at this
    exact this
   have hok1 : FOk ρ n0 (fr.with (put fr.n ts o.dst undef)) b (a.put o.dst undef) m w :=
    FOk.grow (fr := fr.with ts) hok (.refl _ _ _) (Act.put_defers' _ _ _) (put_defs hok.tmps.1.2) (TsRel.put hok.tmps (undef_rel _) o.dst)
   refine Reaches.after (ts1 := put fr.n ts o.dst undef) (.one hskip) (.refl _ _ _) ?_
   exact iops_follows (fr := fr.with (put fr.n ts o.dst undef)) l (i + 1) _ _ _ _ _ _ hl' h hq hnr hr hf hok1 hn
end
end
end Go.Ab
namespace Go.Ab
variable [Vals]
section
variable {P : Program} [FactsOk P] {ρ ρ' : Ren} {m m' : AW} {w w' : World} {ts : Tr Value} {self : Self}
theorem Ends.pass (h : Ends ρ b a k1 ex f) (hx : ∀ id, exitTo id k1 = exitTo id k) (hg : ∀ l, gotoIn l k1 = gotoIn l k) (hn : ex ≠ .normal) : Ends ρ b a k ex f := by
 cases ex with
 | normal => exact absurd rfl hn
 | exit id =>
  obtain ⟨k', h1, h2⟩ := h
  exact ⟨k', h1, h2.trans (hx id)⟩
 | goto l =>
  obtain ⟨k', h1, h2⟩ := h
  exact ⟨k', h1, h2.trans (hg l)⟩
 | ret => exact h
 | panic v => exact h
theorem Reaches.pass (h : Reaches P ρ w fr b a n0 k1 cs todo m out) (hx : ∀ id, exitTo id k1 = exitTo id k) (hg : ∀ l, gotoIn l k1 = gotoIn l k) (hn : out.ex ≠ .normal) :
  Reaches P ρ w fr b a n0 k cs todo m out := by
 obtain ⟨ρ', w', a', f, q1, q2, q3, q4, q5⟩ := h
 exact ⟨ρ', w', a', f, q1, q2.pass hx hg hn, q3, q4, q5⟩
section
variable (hM : ∀ fr t m out, self fr t m = some out → Mono m out.m) (hS : ∀ fr t m out, self fr t m = some out → Sound P fr t m out)
include hM hS
theorem then_follows (heq : self fr (.code c) m = some out1) (hr : Rel P ρ m w) (hf : Fresh ρ m out.m) (hok : FOk ρ n0 fr b a m w) (hn : n0 ≤ w.heap.size)
  (hnr : NR b cs) (hst : Starts c k1 todo) (hle : out1.m.next ≤ out.m.next) (hx : ∀ id, exitTo id k1 = exitTo id k) (hg : ∀ l, gotoIn l k1 = gotoIn l k)
  (hno : out1.ex ≠ .normal → out = out1) (hyes : out1.ex = .normal → ∀ ρ1 w1 a1, Rel P ρ1 out1.m w1 → Fresh ρ1 out1.m out.m → FOk ρ1 n0 (fr.with out1.ts) b a1 out1.m w1 → n0 ≤ w1.heap.size → Reaches P ρ1 w1 (fr.with out1.ts) b a1 n0 k cs k1 out1.m out) :
  Reaches P ρ w fr b a n0 k cs todo m out := by
 have _ := hM
 obtain ⟨ρ1, w1, a1, f, q1, q2, q3, q4, q5⟩ := hS _ _ _ _ heq ρ w b a n0 k1 cs todo hnr hr (hf.left hle) hok hn hst
 by_cases he : out1.ex = .normal
 ·rw [he] at q2
  have q2 : f = on b a1 k1 := q2
  subst q2
  exact Reaches.after q1 q4 (hyes he ρ1 w1 a1 q3 (hf.right q4) q5 (Nat.le_trans hn q4.size))
 have := hno he
 subst this
 exact ⟨ρ1, w1, a1, f, q1, q2.pass hx hg he, q3, q4, q5⟩
theorem stSeq_follows (h : stSeq self fr x y m = some out) : Follows P fr m out (Starts (.seq x y)) := by
 intro ρ w b a n0 k cs todo hnr hr hf hok hn hst
 rcases hst with rfl | ⟨body, hb, _⟩
 ·refine Reaches.after0 (.one on_seq) ?_
  unfold stSeq at h
  split at h
  ·rename_i ts1 v1 m1 heq
   exact then_follows (k1 := .code y :: k) hM hS heq hr hf hok hn hnr (.inl rfl) (hM _ _ _ _ h).next (fun id => by simp [exitTo]) (fun l => by simp [gotoIn]) (fun hh => absurd rfl hh)
    (fun _ ρ1 w1 a1 r1 r2 r3 r4 => hS _ _ _ _ h ρ1 w1 b a1 n0 k cs _ hnr r1 r2 r3 r4 (.inl rfl))
  rename_i hnn
  refine then_follows (k1 := .code y :: k) hM hS h hr hf hok hn hnr (.inl rfl) (Nat.le_refl _) (fun id => by simp [exitTo]) (fun l => by simp [gotoIn]) (fun _ => rfl) (fun he => ?_)
  obtain ⟨ex, ts1, v1, m1⟩ := out
  simp only at he
  subst he
  exact absurd h (hnn _ _ _)
 cases hb
theorem stCond_follows (h : stCond P self fr x y z m = some out) : Follows P fr m out (Starts (.cond x y z)) := by
 have _ := hM
 intro ρ w b a n0 k cs todo hnr hr hf hok hn hst
 rcases hst with rfl | ⟨body, hb, _⟩
 ·have hE : ERel P ρ fr.ts a.eval := erel_of hok.tmps hr.glob
  unfold stCond at h
  split at h
  ·rename_i hx
   have hb := (bool_rel (hE _ _ hx) true).1 rfl
   exact Reaches.after0 (.one (on_cond hb)) (hS _ _ _ _ h ρ w b a n0 k cs _ hnr hr hf hok hn (.inl rfl))
  ·rename_i hx
   have hb := (bool_rel (hE _ _ hx) false).1 rfl
   exact Reaches.after0 (.one (on_cond hb)) (hS _ _ _ _ h ρ w b a n0 k cs _ hnr hr hf hok hn (.inl rfl))
  cases h
 cases hb
theorem stBlock_follows {id : Nat} (h : stBlock self fr id c m = some out) : Follows P fr m out (Starts (.block id c)) := by
 have _ := hM
 intro ρ w b a n0 k cs todo hnr hr hf hok hn hst
 rcases hst with rfl | ⟨body, hb, _⟩
 ·refine Reaches.after0 (.one on_block) ?_
  have key : ∀ o1, self fr (.code c) m = some o1 → o1.m = out.m → o1.ts = out.ts → (o1.ex = .normal → out.ex = .normal) → (∀ i, o1.ex = .exit i → i = id → out.ex = .normal) → (o1.ex ≠ .normal → (∀ i, o1.ex = .exit i → i ≠ id) → out.ex = o1.ex) →
    Reaches P ρ w fr b a n0 k cs (.code c :: .inBlock id :: k) m out := by
   intro o1 heq hm ht h1 h2 h3
   obtain ⟨ρ1, w1, a1, f, q1, q2, q3, q4, q5⟩ := hS _ _ _ _ heq ρ w b a n0 (.inBlock id :: k) cs _ hnr hr (by rw [hm]; exact hf) hok hn (.inl rfl)
   rw [hm] at q3 q4 q5
   rw [ht] at q5
   cases hex : o1.ex with
   | normal =>
    rw [hex] at q2
    have q2 : f = on b a1 (.inBlock id :: k) := q2
    subst q2
    exact ⟨ρ1, w1, a1, _, q1.trans (.one on_inBlock), by rw [h1 hex]; rfl, q3, q4, q5⟩
   | exit i =>
    rw [hex] at q2
    obtain ⟨k', rfl, r2⟩ := q2
    by_cases hi : i = id
    ·have : exitTo i k' = some k := by rw [r2]; simp [exitTo, hi]
     exact ⟨ρ1, w1, a1, _, q1.trans (.one (on_exit this)), by rw [h2 i hex hi]; rfl, q3, q4, q5⟩
    have : exitTo i k' = exitTo i k := by
     rw [r2]
     have hne : (id == i) = false := by simpa using fun e => hi e.symm
     simp [exitTo, hne]
    exact ⟨ρ1, w1, a1, _, q1, by rw [h3 (by rw [hex]; simp) (fun j hj => by rw [hex] at hj; cases hj; exact hi), hex]; exact ⟨k', rfl, this⟩, q3, q4, q5⟩
   | goto l =>
    rw [hex] at q2
    obtain ⟨k', rfl, r2⟩ := q2
    exact ⟨ρ1, w1, a1, _, q1, by rw [h3 (by rw [hex]; simp) (fun j hj => by rw [hex] at hj; cases hj), hex]; exact ⟨k', rfl, by rw [r2]; simp [gotoIn]⟩, q3, q4, q5⟩
   | ret =>
    rw [hex] at q2
    exact ⟨ρ1, w1, a1, _, q1, by rw [h3 (by rw [hex]; simp) (fun j hj => by rw [hex] at hj; cases hj), hex]; exact q2, q3, q4, q5⟩
   | panic v =>
    rw [hex] at q2
    exact ⟨ρ1, w1, a1, _, q1, by rw [h3 (by rw [hex]; simp) (fun j hj => by rw [hex] at hj; cases hj), hex]; exact q2, q3, q4, q5⟩
  unfold stBlock at h
  split at h
  ·rename_i i ts1 v1 m1 heq
   by_cases hi : i = id
   ·simp only [nbeq, hi, decide_true, cond_true, Option.some.injEq] at h
    subst h
    exact key _ heq rfl rfl (fun hh => by cases hh) (fun _ _ _ => rfl) (fun _ hh => absurd hi (hh i rfl))
   simp only [nbeq, hi, decide_false, cond_false, Option.some.injEq] at h
   subst h
   exact key _ heq rfl rfl (fun hh => by cases hh) (fun j hj hj2 => by cases hj; exact absurd hj2 hi) (fun _ _ => rfl)
  rename_i hnn
  refine key _ h rfl rfl (fun hh => hh) (fun j hj hj2 => ?_) (fun _ _ => rfl)
  obtain ⟨ex, ts1, v1, m1⟩ := out
  simp only at hj
  subst hj
  exact absurd h (hnn _ _ _ _)
 cases hb
theorem stLoop_follows (h : stLoop self fr c m = some out) : Follows P fr m out (Starts (.loop c)) := by
 intro ρ w b a n0 k cs todo hnr hr hf hok hn hst
 have start : Steps P (lone (on b a todo) cs w) (lone (on b a (.code c :: .inLoop c :: k)) cs w) := by
  rcases hst with rfl | ⟨body, hb, rfl⟩
  ·exact .one on_loop
  cases hb
  exact .one on_inLoop
 refine Reaches.after0 start ?_
 unfold stLoop at h
 split at h
 ·rename_i ts1 v1 m1 heq
  exact then_follows (k1 := .inLoop c :: k) hM hS heq hr hf hok hn hnr (.inl rfl) (hM _ _ _ _ h).next (fun id => by simp [exitTo]) (fun l => by simp [gotoIn]) (fun hh => absurd rfl hh)
   (fun _ ρ1 w1 a1 r1 r2 r3 r4 => hS _ _ _ _ h ρ1 w1 b a1 n0 k cs _ hnr r1 r2 r3 r4 (.inr ⟨c, rfl, rfl⟩))
 rename_i hnn
 refine then_follows (k1 := .inLoop c :: k) hM hS h hr hf hok hn hnr (.inl rfl) (Nat.le_refl _) (fun id => by simp [exitTo]) (fun l => by simp [gotoIn]) (fun _ => rfl) (fun he => ?_)
 obtain ⟨ex, ts1, v1, m1⟩ := out
 simp only at he
 subst he
 exact absurd h (hnn _ _ _)
theorem stScope_follows (h : stScope self fr body rest m = some out) : Follows P fr m out fun k todo => todo = .code rest :: .inScope body :: k := by
 intro ρ w b a n0 k cs todo hnr hr hf hok hn hst
 subst hst
 unfold stScope at h
 split at h
 ·rename_i l ts1 v1 m1 heq
  split at h
  ·rename_i r hl
   have hle := (hM _ _ _ _ h).next
   obtain ⟨ρ1, w1, a1, f, q1, q2, q3, q4, q5⟩ := hS _ _ _ _ heq ρ w b a n0 (.inScope body :: k) cs _ hnr hr (hf.left hle) hok hn (.inl rfl)
   obtain ⟨k', rfl, r2⟩ := q2
   have hgo : gotoIn l k' = some (.code r :: .inScope body :: k) := by rw [r2]; simp [gotoIn, hl]
   exact Reaches.after (q1.trans (.one (on_goto hgo))) q4 (hS _ _ _ _ h ρ1 w1 b a1 n0 k cs _ hnr q3 (hf.right q4) q5 (Nat.le_trans hn q4.size) rfl)
  rename_i hl
  cases h
  obtain ⟨ρ1, w1, a1, f, q1, q2, q3, q4, q5⟩ := hS _ _ _ _ heq ρ w b a n0 (.inScope body :: k) cs _ hnr hr hf hok hn (.inl rfl)
  obtain ⟨k', rfl, r2⟩ := q2
  exact ⟨ρ1, w1, a1, _, q1, ⟨k', rfl, by rw [r2]; simp [gotoIn, hl]⟩, q3, q4, q5⟩
 rename_i hnn
 obtain ⟨ρ1, w1, a1, f, q1, q2, q3, q4, q5⟩ := hS _ _ _ _ h ρ w b a n0 (.inScope body :: k) cs _ hnr hr hf hok hn (.inl rfl)
 obtain ⟨ex, ts1, v1, m1⟩ := out
 cases ex with
 | normal =>
  have q2 : f = on b a1 (.inScope body :: k) := q2
  subst q2
  exact ⟨ρ1, w1, a1, _, q1.trans (.one on_inScope), rfl, q3, q4, q5⟩
 | exit i =>
  obtain ⟨k', rfl, r2⟩ := q2
  exact ⟨ρ1, w1, a1, _, q1, ⟨k', rfl, by rw [r2]; simp [exitTo]⟩, q3, q4, q5⟩
 | goto l => exact absurd h (hnn _ _ _ _)
 | ret => exact ⟨ρ1, w1, a1, _, q1, q2, q3, q4, q5⟩
 | panic v => exact ⟨ρ1, w1, a1, _, q1, q2, q3, q4, q5⟩
end
end
end Go.Ab
namespace Go.Ab
variable [Vals]
section
variable {P : Program} [FactsOk P] {ρ ρ' : Ren} {m m' : AW} {w w' : World} {ts : Tr Value} {self : Self}
theorem argsT_get : ∀ (args : List Value) (i : Nat) (t : Tr Value) (j : Nat), (argsT args i t).get j = if i ≤ j ∧ j - i < args.length then args[j - i]? else t.get j
 | [], i, t, j => by simp [argsT]
 | v :: vs, i, t, j => by
  unfold argsT
  rw [argsT_get vs (i + 1) _ j, Tr.get_set]
  by_cases h1 : j = i
  ·subst h1
   rw [if_neg (by omega), if_pos rfl, if_pos (by simp)]
   simp
  by_cases h2 : i + 1 ≤ j ∧ j - (i + 1) < vs.length
  ·rw [if_pos h2, if_pos (by simp; omega)]
   rw [show j - i = (j - (i + 1)) + 1 by omega, List.getElem?_cons_succ]
  rw [if_neg h2, if_neg h1, if_neg (by simp; omega)]
theorem args_ts (h : VsRel ρ args args') (hn : args.length ≤ n) (hD : n ≤ dIx) : TsRel ρ n (argsT args 0 .lf) ((⟨args'⟩ : Array Value) ++ Array.replicate (n - (⟨args'⟩ : Array Value).size) undef) := by
 have hl := h.length_eq
 have hsz : (⟨args'⟩ : Array Value).size = args'.length := rfl
 refine ⟨⟨by simp; omega, hD⟩, fun t _ => ?_⟩
 rw [argsT_get, Array.getD_eq_getD_getElem?, Array.getElem?_append, hsz]
 by_cases ht : t < args.length
 ·rw [if_pos (by simpa using ht), if_pos (by omega)]
  simp only [Nat.sub_zero, List.getElem?_toArray]
  obtain ⟨v', h1, h2⟩ := h.get (List.getElem?_eq_getElem ht)
  rw [h1, List.getElem?_eq_getElem ht]
  exact h2
 rw [if_neg (by simpa using ht), if_neg (by omega), Array.getElem?_replicate]
 simp only [Tr.get, Option.getD_none]
 split <;> exact undef_rel _
def baseK (kd : CallKind) (f : FuncId) : Frame := { fn := f, tmps := #[], todo := [], defers := [], mode := .run, kind := kd, roundOf := none }
abbrev baseFr (f : FuncId) : Frame := baseK .normal f
theorem enter_on (hf : P.funcs[f]? = some fn) (hb : fn.body = some c) :
  Frame.enter P f args kd = on (baseK kd f) ⟨args ++ Array.replicate (fn.ntmps - args.size) undef, []⟩ [.code c] := by
 simp [Frame.enter, on, baseK, hf, hb]
theorem step_take (hm : mode ≠ .run) (hB : w.heap[B]? = some (.deferred (some []))) :
  step P (lone (off b ⟨tmps, mark1 B :: ds⟩ todo mode) cs w) = .next (lone (off b ⟨tmps, ds⟩ todo mode) cs (setBlk w B (.deferred none))) := by
 have hrun : (Instr.takeDeferred B).run P w = .ok [] (setBlk w B (.deferred none)) := by
  simp only [Instr.takeDeferred, Sem.run_bind]
  have hg : (getObj B).run P w = .ok (.deferred (some [])) w := by simp [getObj, Sem.run, hB]
  rw [hg]
  simp only [Result.andThen_ok, Sem.run_bind, run_setObj_any hB (by intros; simp), Sem.run_pure]
 refine step_lone_go ?_
 cases mode with
 | run => exact absurd rfl hm
 | returning => simp [stepG, unwind, off, mark1, hrun]
 | panicking ch => simp [stepG, unwind, off, mark1, hrun]
structure Taken (n0 : Nat) (w w' : World) : Prop where
 rest : Rest w w'
 size : w'.heap.size = w.heap.size
 old : ∀ j, j < n0 → w'.heap[j]? = w.heap[j]?
 obj : ∀ (j : Nat) (x : Obj), w.heap[j]? = some x → w'.heap[j]? = some x ∨ (∃ q q', x = Obj.deferred q ∧ w'.heap[j]? = some (Obj.deferred q'))
theorem Taken.refl (n0 : Nat) (w : World) : Taken n0 w w := ⟨.refl _, rfl, fun _ _ => rfl, fun _ _ h => .inl h⟩
theorem Taken.trans (h : Taken n0 a b) (k : Taken n0 b c) : Taken n0 a c where
 rest := h.rest.trans k.rest
 size := k.size.trans h.size
 old := fun j hj => (k.old j hj).trans (h.old j hj)
 obj := fun j x hx => by
  rcases h.obj j x hx with h1 | ⟨q, q', rfl, h1⟩
  ·exact k.obj j x h1
  rcases k.obj j _ h1 with h2 | ⟨q2, q2', _, h2⟩
  ·exact .inr ⟨q, q', rfl, h2⟩
  exact .inr ⟨q, q2', rfl, h2⟩
theorem unwind_all {n0 : Nat} {b : Frame} {tmps : Array Value} {todo : List Item} {mode : FrameMode} {cs : List Frame} (hm : mode ≠ .run) : ∀ (Bs : List Nat) (w : World), Bs.Nodup → (∀ B ∈ Bs, n0 ≤ B ∧ w.heap[B]? = some (.deferred (some []))) →
  ∃ w', Steps P (lone (off b ⟨tmps, Bs.map mark1⟩ todo mode) cs w) (lone (off b ⟨tmps, []⟩ todo mode) cs w') ∧ Taken n0 w w'
 | [], w, _, _ => ⟨w, .refl _ _, .refl _ _⟩
 | B :: Bs, w, hnd, h => by
  obtain ⟨h1, h2⟩ := h B List.mem_cons_self
  have hlt : B < w.heap.size := (Array.getElem?_eq_some_iff.1 h2).1
  have hnb := List.nodup_cons.1 hnd
  obtain ⟨w', q1, q2⟩ := unwind_all hm Bs (setBlk w B (.deferred none)) hnb.2 (fun B2 hB2 => by
   obtain ⟨h3, h4⟩ := h B2 (List.mem_cons_of_mem _ hB2)
   refine ⟨h3, ?_⟩
   rw [setBlk_get hlt, if_neg (fun e => hnb.1 (by rw [← e]; exact hB2))]
   exact h4)
  have t1 : Taken n0 w (setBlk w B (.deferred none)) := by
   refine ⟨⟨rfl, rfl, rfl⟩, setBlk_size, fun j hj => ?_, fun j x hx => ?_⟩
   ·rw [setBlk_get hlt, if_neg (by omega)]
   rw [setBlk_get hlt]
   by_cases hj : j = B
   ·subst hj
    rw [h2] at hx
    cases hx
    exact .inr ⟨_, none, rfl, by rw [if_pos rfl]⟩
   exact .inl (by rw [if_neg hj]; exact hx)
  exact ⟨w', .head (step_take hm h2) q1, t1.trans q2⟩
theorem XRel.taken (h : XRel P ρ s o (.deferred q)) : XRel P ρ s o (.deferred q') := by
 cases o with
 | cells cs e g md mt => obtain ⟨c, fr, h1, _⟩ := h; cases h1
 | map es cl => obtain ⟨_, _, h1, _⟩ := h; cases h1
 | siter t pos => obtain ⟨_, h1⟩ := h; cases h1
 | miter _ _ _ _ =>
  obtain ⟨_, _, h1, _⟩ := h
  cases h1
 | loop st pe fn n ts ps as bo d => obtain ⟨l, h1, _⟩ := h; cases h1
 | deferred => exact ⟨_, rfl⟩
theorem Rel.taken (h : Rel P ρ m w) (t : Taken n0 w w') : Rel P ρ m w' := by
 refine ⟨fun b o hb => ?_, h.sep, h.glob, fun b s hb => by rw [t.size]; exact h.inb b s hb⟩
 obtain ⟨s, x, h1, h2, h3⟩ := h.obj b o hb
 rcases t.obj _ _ h2 with h4 | ⟨q, q', rfl, h4⟩
 ·exact ⟨s, x, h1, h4, h3⟩
 exact ⟨s, _, h1, h4, h3.taken⟩
theorem Grow.taken (h : Grow ρ ρ' m m' w0 w) (t : Taken w0.heap.size w w') : Grow ρ ρ' m m' w0 w' :=
 ⟨h.le, h.only, h.rest.trans t.rest, by rw [t.size]; exact h.size, fun B hB hno => by rw [t.old B hB]; exact h.keep B hB hno, h.own, h.next, h.occ⟩
def resSem (tmps : Array Value) : ResultVar → Sem Value
 | .tmp t => pure (tmps.getD t undef)
 | .cell a t => do loadVar t (← asAddr (tmps.getD a undef))
theorem resA_go {tmps : Array Value} {n : Nat} (hr : Rel P ρ m w) (ht : TsRel ρ n ts tmps) : ∀ (l : List ResultVar) (vs : List Value), resA.go P ts m l = some vs → ∃ vs', (l.mapM (resSem tmps)).run P w = .ok vs' w ∧ VsRel ρ vs vs'
 | [], vs, h => by
  simp only [resA.go, Option.some.injEq] at h
  subst h
  exact ⟨[], rfl, .nil⟩
 | .tmp t :: l, vs, h => by
  simp only [resA.go] at h
  obtain ⟨hlt, h⟩ := bif_some h
  rw [nblt, decide_eq_true_eq] at hlt
  obtain ⟨us, h1, rfl⟩ := Option.map_eq_some_iff.1 h
  obtain ⟨us', h2, h3⟩ := resA_go hr ht l us h1
  refine ⟨tmps.getD t undef :: us', ?_, .cons (ht.2 t hlt) h3⟩
  rw [List.mapM_cons]
  simp only [resSem, Sem.run_bind, Sem.run_pure, Result.andThen_ok]
  rw [h2]
  rfl
 | .cell x t :: l, vs, h => by
  simp only [resA.go] at h
  obtain ⟨hlt, h⟩ := bif_some h
  rw [nblt, decide_eq_true_eq] at hlt
  split at h
  ·rename_i bl f hl
   split at h
   ·rename_i v hv
    obtain ⟨us, h1, rfl⟩ := Option.map_eq_some_iff.1 h
    obtain ⟨us', h2, h3⟩ := resA_go hr ht l us h1
    obtain ⟨o, ho1, ho2⟩ := Option.bind_eq_some_iff.1 hv
    obtain ⟨s, y, q1, q2, q3⟩ := hr.obj _ _ ho1
    obtain ⟨v', r1, r2⟩ := loadA_rel hl (ht.2 x hlt) ho2 q1 q2 q3
    refine ⟨v' :: us', ?_, .cons r2 h3⟩
    have hx := ht.2 x hlt
    have : (resSem tmps (.cell x t)).run P w = .ok v' w := by
     rw [← r1]
     show (do loadVar t (← asAddr (tmps.getD x undef))).run P w = (Instr.loadAt t (tmps.getD x undef)).run P w
     unfold loadA at hl
     split at hl
     ·rename_i b1 off e1
      rw [e1] at hx
      generalize tmps.getD x undef = xv at hx
      cases hx with
      | ptr hb => rfl
     cases hl
    rw [List.mapM_cons]
    simp only [Sem.run_bind, this, Result.andThen_ok]
    rw [h2]
    rfl
   cases h
  cases h
theorem resA_rel (hr : Rel P ρ m w) (ht : TsRel ρ n ts tmps) (h : resA P fn ts m = some v) : ∃ v', (results fn tmps).run P w = .ok v' w ∧ VRel ρ v v' := by
  unfold resA at h
  obtain ⟨vs, h1, h2⟩ := Option.map_eq_some_iff.1 h
  obtain ⟨vs', h3, h4⟩ := resA_go hr ht _ _ h1
  have hrun : (results fn tmps).run P w = .ok (if h : (⟨vs'⟩ : Array Value).size = 1 then (⟨vs'⟩ : Array Value)[0] else .tuple ⟨vs'⟩) w := by
    have e1 : results fn tmps = (do
        let vs ← fn.results.mapM (resSem tmps)
        pure (if h : vs.size = 1 then vs[0] else .tuple vs)) := rfl
    rw [e1, Array.mapM_eq_mapM_toList]
    simp only [Sem.run_bind, Sem.run_map, h3, Result.andThen_ok, Sem.run_pure]
  split at h2
  · subst h2
    cases h4 with
    | cons h5 h6 =>
      cases h6
      exact ⟨_, hrun, h5⟩
  · rename_i hne
    subst h2
    refine ⟨_, hrun, ?_⟩
    have : ¬ ((⟨vs'⟩ : Array Value).size = 1) := by
      intro e1
      have e2 : vs.length = 1 := by rw [h4.length_eq]; exact e1
      match vs, e2 with
      | [v], _ => exact hne v rfl
    rw [dif_neg this]
    exact .tuple h4
theorem compare_eq : ∀ (a b : List UInt8), Lib.compareBytes a b = (bif ltBytes a b then -1 else bif ltBytes b a then 1 else 0)
 | [], [] => rfl
 | [], _ :: _ => rfl
 | _ :: _, [] => rfl
 | a :: as, b :: bs => by
  unfold Lib.compareBytes ltBytes
  simp only [nblt, nbeq]
  by_cases h1 : a < b
  ·have : a.toNat < b.toNat := h1
   simp [h1, this]
  have h1' : ¬ a.toNat < b.toNat := h1
  by_cases h2 : b < a
  ·have h2' : b.toNat < a.toNat := h2
   have h3 : ¬ a.toNat = b.toNat := by omega
   simp [h1, h1', h2, h2', h3]
  have h2' : ¬ b.toNat < a.toNat := h2
  have h3 : a.toNat = b.toNat := by omega
  simp [h1, h2, h3, compare_eq as bs]
theorem byteAt_spec (x : ByteArray) (c : UInt8) : ∀ (n i : Nat), i + n = x.size → (List.range' i n).find? (fun i => x[i]! == c) = byteAt c (x.data.toList.drop i) i
 | 0, i, h => by
  have : x.data.toList.drop i = [] := List.drop_eq_nil_of_le (by show x.data.size ≤ i; have : x.data.size = x.size := rfl; omega)
  rw [this]
  rfl
 | n + 1, i, h => by
  have hlt : i < x.data.toList.length := by show i < x.data.size; have : x.data.size = x.size := rfl; omega
  rw [List.range'_succ, List.find?_cons, List.drop_eq_getElem_cons hlt]
  have e : x[i]! = x.data.toList[i] := by
   have hi : i < x.size := by omega
   rw [getElem!_pos x i hi]
   rfl
  unfold byteAt
  rw [e]
  cases x.data.toList[i] == c with
  | true => rfl
  | false =>
   simp only [cond_false]
   exact byteAt_spec x c n (i + 1) (by omega)
theorem byteAt_find (x : ByteArray) (c : UInt8) : (List.range x.size).find? (fun i => x[i]! == c) = byteAt c x.data.toList 0 := by
 rw [List.range_eq_range', byteAt_spec x c x.size 0 (by omega)]
 rfl
theorem countB_list (c : UInt8) : ∀ (l : List UInt8) (n : Nat), l.foldl (fun (n : Int) z => if z == c then n + 1 else n) (n : Int) = ((countB c l n : Nat) : Int)
 | [], _ => rfl
 | x :: l, n => by
  rw [List.foldl_cons]
  unfold countB
  cases x == c with
  | true => exact countB_list c l (n + 1)
  | false => exact countB_list c l n
theorem externA_rel (hf : P.funcs[f]? = some fn) (hb : fn.body = none) (h : externA fn args = some v) (ha : VsRel ρ args args') : ∃ v', (callFunc f ⟨args'⟩).run P w = .ok (.value v') w ∧ VRel ρ v v' := by
  unfold externA at h
  split at h
  · rename_i hn
    split at h
    · cases h
      cases ha with
      | cons h1 h2 =>
        cases h2
        rename_i v'
        refine ⟨v', ?_, h1⟩
        rw [run_callFunc_extern hf (by rw [hn.1]; rfl) (by rw [hb]; rfl) (e := Extern.AbiNoEscape.same) (by unfold Extern.findNext; rw [hn.1, hn.2]; rfl) (by unfold Extern.find; rw [hn.1, hn.2]; rfl)]
        rfl
    · cases h
  · split at h
    · rename_i hn
      split at h
      · rename_i x y
        cases h
        cases ha with
        | cons h1 h2 =>
          cases h2 with
          | cons h3 h4 =>
            cases h4
            cases h1
            cases h3
            refine ⟨_, ?_, .int ..⟩
            rw [run_callFunc_extern hf (by rw [hn.1]; rfl) (by rw [hb]; rfl) (e := Extern.BytealgCompare.compare) (by unfold Extern.findNext; rw [hn.1, hn.2]; rfl) (by unfold Extern.find; rw [hn.1, hn.2]; rfl)]
            have := Lib.run_compareString (P := P) x y w
            rw [compare_eq] at this
            rw [show (⟨[.string x, .string y]⟩ : Array Value) = #[.string x, .string y] from rfl, this]
            rfl
      · cases h
    · split at h
      · rename_i hn
        split at h
        · cases h
          cases ha with
          | cons h1 h2 =>
            cases h2
            cases h1
            refine ⟨_, ?_, .int ..⟩
            rcases hn.1 with hn1 | hn1
            · rw [run_callFunc_extern hf (by rw [hn1]; rfl) (by rw [hb]; rfl) (e := Extern.MathFloatBits.float64bits) (by unfold Extern.findNext; rw [hn1, hn.2]; rfl) (by unfold Extern.find; rw [hn1, hn.2]; rfl)]
              rfl
            · rw [run_callFunc_extern hf (by rw [hn1]; rfl) (by rw [hb]; rfl) (e := Extern.MathFloatBits.float64bits) (by unfold Extern.findNext; rw [hn1, hn.2]; rfl) (by unfold Extern.find; rw [hn1, hn.2]; rfl)]
              rfl
        · cases h
      · split at h
        · rename_i hn
          split at h
          · cases h
            cases ha with
            | cons h1 h2 =>
              cases h2
              cases h1
              refine ⟨_, ?_, .float ..⟩
              rcases hn.1 with hn1 | hn1
              · rw [run_callFunc_extern hf (by rw [hn1]; rfl) (by rw [hb]; rfl) (e := Extern.MathFloatBits.float64frombits) (by unfold Extern.findNext; rw [hn1, hn.2]; rfl) (by unfold Extern.find; rw [hn1, hn.2]; rfl)]
                rfl
              · rw [run_callFunc_extern hf (by rw [hn1]; rfl) (by rw [hb]; rfl) (e := Extern.MathFloatBits.float64frombits) (by unfold Extern.findNext; rw [hn1, hn.2]; rfl) (by unfold Extern.find; rw [hn1, hn.2]; rfl)]
                rfl
          · cases h
        · split at h
          · rename_i hn
            split at h
            · rename_i x y
              cases h
              cases ha with
              | cons h1 h2 =>
                cases h2 with
                | cons h3 h4 =>
                  cases h4
                  cases h1
                  cases h3
                  refine ⟨idxVal (byteAt y.toNat.toUInt8 x.data.toList 0), ?_, ?_⟩
                  · rw [run_callFunc_extern hf (by rw [hn.1]; rfl) (by rw [hb]; rfl) (e := Extern.BytealgIndexByte.indexByte) (by unfold Extern.findNext; rw [hn.1, hn.2]; rfl) (by unfold Extern.find; rw [hn.1, hn.2]; rfl)]
                    rw [← byteAt_find]
                    have hix : Extern.BytealgIndexByte.indexByte ⟨[.string x, .int .u8 y]⟩ = (match (List.range x.size).find? fun i => x[i]! == y.toNat.toUInt8 with
                        | some i => pure (goInt i)
                        | none => pure (goInt (-1)) : Sem Value) := rfl
                    rw [hix]
                    cases (List.range x.size).find? fun i => x[i]! == y.toNat.toUInt8 <;> rfl
                  · unfold idxVal
                    split <;> exact .int ..
            · cases h
          · split at h
            · rename_i hn
              split at h
              · rename_i x y
                cases h
                cases ha with
                | cons h1 h2 =>
                  cases h2 with
                  | cons h3 h4 =>
                    cases h4
                    cases h1
                    cases h3
                    refine ⟨_, ?_, .int ..⟩
                    rw [run_callFunc_extern hf (by rw [hn.1]; rfl) (by rw [hb]; rfl) (e := Extern.BytealgCount.count) (by unfold Extern.findNext; rw [hn.1, hn.2]; rfl) (by unfold Extern.find; rw [hn.1, hn.2]; rfl)]
                    have hix : Extern.BytealgCount.count ⟨[.string x, .int .u8 y]⟩ = (pure (goInt (x.foldl (fun (n : Int) z => if z == y.toNat.toUInt8 then n + 1 else n) ((0 : Nat) : Int))) : Sem Value) := rfl
                    rw [hix, Lib.foldl_data, countB_list]
                    rfl
              · cases h
            · cases h
end
end Go.Ab
namespace Go.Ab
variable [Vals]
section
variable {P : Program} [FactsOk P] {ρ ρ' : Ren} {m m' : AW} {w w' : World} {ts : Tr Value} {self : Self}
def PlainNames (P : Program) : Prop := ∀ (f : FuncId) (fn : Func), P.funcs[f]? = some fn → fn.body.isSome = true → fn.name ≠ "runtime.NumGoroutine"
theorem callFunc_enter (hP : PlainNames P) (hf : P.funcs[f]? = some fn) (hb : fn.body = some c) (args : Array Value) (w : World) : (callFunc f args).run P w = .ok (.enter f args) w := by
 have hn := hP f fn hf (by rw [hb]; rfl)
 have hn2 : (fn.name == "runtime.NumGoroutine") = false := by simpa using hn
 unfold callFunc
 simp [hf, hn, hb]
theorem Rel.globals (h : Rel P ρ m w) : P.globals.size ≤ w.heap.size := by
 rcases Nat.eq_zero_or_pos P.globals.size with h0 | h0
 ·omega
 obtain ⟨c, hc⟩ := h.glob (P.globals.size - 1) (by omega)
 have := h.inb _ _ hc
 simp only at this
 omega
def low (ρ : Ren) : Ren := fun i => if i < laidEnd then ρ i else none
theorem low_le (ρ : Ren) : (low ρ).le ρ := by
 intro i s h
 unfold low at h
 split at h
 ·exact h
 cases h
theorem eqAdr_spec (h : eqAdr a b = true) : a = b ∧ a.spot = none ∧ a.block < laidEnd := by
 unfold eqAdr at h
 simp only [Bool.and_eq_true, nbeq, nblt, decide_eq_true_eq, Option.isNone_iff_eq_none] at h
 obtain ⟨h1, h2, h3, h4, h5⟩ := h
 obtain ⟨x, y, z⟩ := a
 obtain ⟨x', y', z'⟩ := b
 simp only at h1 h2 h3 h4 h5
 subst h1 h2 h3 h4
 exact ⟨rfl, rfl, h5⟩
theorem eqS_lrel (h : eqS a b = true) (hr : VRel ρ a a') : LRel (low ρ) b a' := by
 unfold eqS at h
 split at h
 ·simp only [Bool.and_eq_true, decide_eq_true_eq] at h
  obtain ⟨rfl, rfl⟩ := h
  cases hr
  exact ⟨rfl, rfl⟩
 ·simp only [beq_iff_eq] at h
  subst h
  cases hr
  exact ⟨rfl, rfl⟩
 ·rename_i s t
  rw [eqBytes_eq, decide_eq_true_eq] at h
  have : s = t := by
   cases s
   cases t
   congr 1
   exact Array.ext' h
  subst this
  cases hr
  exact ⟨rfl, rfl⟩
 ·simp only [Bool.and_eq_true, decide_eq_true_eq] at h
  obtain ⟨rfl, rfl⟩ := h
  cases hr
  exact ⟨rfl, rfl⟩
 ·rename_i x l c x' l' c'
  simp only [Bool.and_eq_true, nbeq, nblt, decide_eq_true_eq] at h
  obtain ⟨h1, rfl, rfl, h2, h3⟩ := h
  obtain ⟨rfl, h4, h5⟩ := eqAdr_spec h1
  cases hr with
  | slice hb hc => exact ⟨rfl, h3, _, by unfold low; rw [if_pos h5]; exact hb, rfl⟩
  | empty => omega
  | open_ hb hi hcap ha =>
   exfalso
   unfold big at hcap h3
   unfold top at h3
   omega
 ·obtain ⟨rfl, h4, h5⟩ := eqAdr_spec h
  cases hr with
  | ptr hb => exact ⟨rfl, _, by unfold low; rw [if_pos h5]; exact hb, rfl⟩
 cases h
theorem eqSs_get : ∀ {as bs : List Value}, eqSs as bs = true → as.length = bs.length ∧ ∀ {i : Nat} {b : Value}, bs[i]? = some b → ∃ a, as[i]? = some a ∧ eqS a b = true
 | [], [], _ => ⟨rfl, fun h => by simp at h⟩
 | [], _ :: _, h => by cases h
 | _ :: _, [], h => by cases h
 | a :: as, b :: bs, h => by
  simp only [eqSs, Bool.and_eq_true] at h
  obtain ⟨h1, h2⟩ := eqSs_get h.2
  refine ⟨by simp [h1], fun {i} {b'} hb => ?_⟩
  cases i with
  | zero =>
   simp only [List.getElem?_cons_zero, Option.some.injEq] at hb
   subst hb
   exact ⟨a, rfl, h.1⟩
  | succ i => exact h2 hb
theorem hasL_item (hr : Rel P ρ m w) {b : Nat} {g : Bool} {vs : List Value} : ∀ {l : List (Nat × Bool × List Value)}, hasL m.heap l = true → (b, g, vs) ∈ l →
  ∃ s c t fr, low ρ b = some s ∧ w.heap[s.blk]? = some (.cells c t fr) ∧ s.off + vs.length ≤ c.size ∧ (∀ (i : Nat) v, vs[i]? = some v → ∃ v', c[s.off + i]? = some v' ∧ LRel (low ρ) v v') ∧
   (g = false → s.off = 0 ∧ c.size = vs.length) ∧ (g = true → s.cap < big ∧ s.off + s.cap * P.cellsOf t ≤ c.size)
 | (b', g', vs') :: l, h, hm => by
  simp only [hasL, Bool.and_eq_true] at h
  cases hm with
  | tail _ hm => exact hasL_item hr h.2.2 hm
  | head =>
   have h1 := h.1
   split at h1
   ·rename_i cs t2 g2 md mt hget
    simp only [Bool.and_eq_true, beq_iff_eq] at h1
    obtain ⟨rfl, he⟩ := h1
    obtain ⟨hlen, hel⟩ := eqSs_get he
    have hb : b < laidEnd := by
     have := h.2.1
     rwa [nblt, decide_eq_true_eq] at this
    obtain ⟨s, x, q1, q2, c, fr, rfl, q4, q5, q6, q7, _⟩ := hr.obj _ _ hget
    refine ⟨s, c, t2, fr, by unfold low; rw [if_pos hb]; exact q1, q2, by rw [← hlen]; exact q4, fun i v hv => ?_, fun hg => ?_, q7⟩
    ·obtain ⟨a, ha, hab⟩ := hel hv
     obtain ⟨v', e1, e2⟩ := q5 i a ha
     exact ⟨v', e1, eqS_lrel hab e2⟩
    rw [← hlen]
    exact q6 hg
   cases h1
theorem hasL_spec (hr : Rel P ρ m w) (hg : P.globals.size ≤ laidEnd) (h : hasL m.heap l = true) : LiesBy P w l :=
 ⟨low ρ, fun g hg' => (hr.glob g hg').imp fun c hc => by unfold low; rw [if_pos (Nat.lt_of_lt_of_le hg' hg)]; exact hc,
  fun b s hb => ⟨(by
   unfold low at hb
   split at hb
   ·assumption
   cases hb), hr.inb b s (low_le ρ _ _ hb)⟩, fun _ _ _ hm => hasL_item hr h hm⟩
theorem bytesA_rel (hf : P.funcs[f]? = some fn) (hb : fn.body = none) (h : bytesA P fn args m = some (v, m')) (hr : Rel P ρ m w) (hn0 : ρ m.next = none) (ha : VsRel ρ args args') :
  ∃ ρ' w' v', (callFunc f ⟨args'⟩).run P w = .ok (.value v') w' ∧ Rel P ρ' m' w' ∧ Grow ρ ρ' m m' w w' ∧ VRel ρ' v v' := by
 unfold bytesA at h
 split at h
 ·rename_i hn
  split at h
  ·rename_i n t hrt
   split at h
   ·rename_i e ht
    obtain ⟨hc, h⟩ := bif_some h
    simp only [Bool.and_eq_true, nbeq, nble, decide_eq_true_eq] at hc
    cases h
    cases ha with
    | cons h1 h2 =>
     cases h2
     cases h1
     have hmax : n ≤ maxLen := by have := hc.2; unfold maxLen; omega
     obtain ⟨cs, q1, q2, q3⟩ := Lib.run_makeNoZero (P := P) w fn.params t e ht n (by omega)
     have hcb : cs.size < big := by have := q3 hmax; unfold maxLen at this; unfold big; omega
     have hw : (w.drew.drew.alloc (.cells cs e)).heap = w.heap.push (.cells cs e) := rfl
     obtain ⟨r1, r2⟩ := hr.new (w' := w.drew.drew.alloc (.cells cs e)) (x := .cells [] e true .plain none) (cap := cs.size) hn0 hw ⟨rfl, rfl, rfl⟩
      ⟨cs, (0, 0), rfl, by simp, fun i v hi => (by simp at hi), fun hg => (by cases hg), fun _ => ⟨hcb, by rw [hc.1]; simp⟩, rfl⟩
     refine ⟨_, _, _, ?_, r1, r2, VRel.open_ (i := 0) (s := ⟨w.heap.size, 0, cs.size⟩) (Ren.set_same _ _ _) (by simpa using q2) hcb (fun _ => rfl)⟩
     rw [run_callFunc_extern hf (by rw [hn.1]; rfl) (by rw [hb]; rfl) (e := Extern.BytealgMakeNoZero.makeNoZero fn.params fn.resultTypes) (by unfold Extern.findNext; rw [hn.1, hn.2]; rfl) (by unfold Extern.find; rw [hn.1, hn.2]; rfl), hrt]
     rw [show (#[t] : Array TypeId) = ⟨[t]⟩ from rfl] at q1
     have e1 : (⟨[Value.int .i64 (Int.ofNat n)]⟩ : Array Value) = #[.int .i64 (n : Int)] := rfl
     rw [e1, q1]
     rfl
   cases h
  cases h
 cases h
theorem Rel.later (h : Rel P ρ m w) (hrest : w'.os = w.os ∧ w'.tape = w.tape ∧ w'.output = w.output) (hs : w.heap.size ≤ w'.heap.size) (hk : ∀ b, b < w.heap.size → w'.heap[b]? = w.heap[b]?) : Rel P ρ m w' ∧ Grow ρ ρ m m w w' :=
 ⟨⟨fun b o hb => by
   obtain ⟨s, x, h1, h2, h3⟩ := h.obj b o hb
   exact ⟨s, x, h1, by rw [hk _ (h.inb _ _ h1)]; exact h2, h3⟩, h.sep, h.glob, fun b s hb => Nat.lt_of_lt_of_le (h.inb b s hb) hs⟩,
 ⟨.refl _, fun _ _ => rfl, hrest, hs, fun B hB _ => hk B hB, fun _ h => .inl h, Nat.le_refl _, fun _ h => .inl h⟩⟩
section
variable (hM : ∀ fr t m out, self fr t m = some out → Mono m out.m) (hS : ∀ fr t m out, self fr t m = some out → Sound P fr t m out) (hP : PlainNames P)
include hM hS hP
theorem unwind_mix {ρ0 : Ren} {m0 m' : AW} {w0 : World} {b : Frame} {tmps : Array Value} {todo : List Item} {cs : List Frame} : ∀ (ds : List Deferred) (dv : List Value) (Bs : List Nat) (ρ : Ren) (m : AW) (w : World), Mix ρ dv Bs ds → Rel P ρ m w → Fresh ρ m m' → runD self dv m = some m' → Grow ρ0 ρ m0 m w0 w → Bs.Nodup →
  (∀ B ∈ Bs, w0.heap.size ≤ B ∧ B < w.heap.size ∧ w.heap[B]? = some (.deferred (some [])) ∧ ¬ Own ρ m B) →
  ∃ ρ' w', Steps P (lone (off b ⟨tmps, ds⟩ todo .returning) cs w) (lone (off b ⟨tmps, []⟩ todo .returning) cs w') ∧ Rel P ρ' m' w' ∧ Grow ρ0 ρ' m0 m' w0 w' ∧ ρ.le ρ'
 | [], dv, Bs, ρ, m, w, hx, hr, hf, hd, hg, _, _ => by
  cases hx
  cases hd
  exact ⟨ρ, w, .refl _ _, hr, hg, .refl _⟩
 | d :: ds, dv, Bs, ρ, m, w, hx, hr, hf, hd, hg, hnd, hB => by
  cases hx with
  | mark B hx =>
   rename_i Bs
   obtain ⟨h1, h3, h2, h4⟩ := hB B List.mem_cons_self
   have hnb := List.nodup_cons.1 hnd
   have t1 : Taken w0.heap.size w (setBlk w B (.deferred none)) := by
    refine ⟨⟨rfl, rfl, rfl⟩, setBlk_size, fun j hj => ?_, fun j x hx => ?_⟩
    ·rw [setBlk_get h3, if_neg (by omega)]
    rw [setBlk_get h3]
    by_cases hj : j = B
    ·subst hj
     rw [h2] at hx
     cases hx
     exact .inr ⟨_, none, rfl, by rw [if_pos rfl]⟩
    exact .inl (by rw [if_neg hj]; exact hx)
   obtain ⟨ρ', w', q1, q2, q3, q4⟩ := unwind_mix (b := b) (tmps := tmps) (todo := todo) (cs := cs) ds dv Bs ρ m _ hx (hr.taken t1) hf hd (hg.taken t1) hnb.2 fun B2 hB2 => by
    obtain ⟨e1, e2, e3, e4⟩ := hB B2 (List.mem_cons_of_mem _ hB2)
    refine ⟨e1, by rw [setBlk_size]; exact e2, ?_, e4⟩
    rw [setBlk_get h3, if_neg (fun e => hnb.1 (by rw [← e]; exact hB2))]
    exact e3
   exact ⟨ρ', w', .head (step_take (by simp) h2) q1, q2, q3, q4⟩
  | call ha hc hx =>
   rename_i dv g a1 a2 c1 c2
   unfold runD at hd
   simp only at hd
   split at hd
   ·rename_i ts2 v2 m2 heq
    have h2 := runD_mono hM _ hd
    obtain ⟨ρ1, w1, q1, q2, q3⟩ := hS _ _ _ _ heq ρ w (a2 ++ c2) (off b ⟨tmps, ds⟩ todo .returning :: cs) (fun fr hk => by simp [tryRecover, hk, off]) hr (hf.left h2.next) (ha.append hc)
    have hi : ∀ n, (callFunc g ⟨a2 ++ c2⟩).run P w = n → (invoke (Target.fn (.func g) ⟨c2⟩) ⟨a2⟩).run P w = n := by
     rintro n rfl
     simp [invoke]
    have fin : ∃ ρ1' w1', Steps P (lone (off b ⟨tmps, { target := .fn (.func g) ⟨c2⟩, args := ⟨a2⟩ } :: ds⟩ todo .returning) cs w) (lone (off b ⟨tmps, ds⟩ todo .returning) cs w1') ∧ ρ1' = ρ1 ∧ w1' = w1 := by
     rcases q3 with ⟨v', _, _, q4⟩ | ⟨q4, fr, _, q6, q7⟩
     ·refine ⟨ρ1, w1, .one ?_, rfl, rfl⟩
      exact step_lone_go (by simp [stepG, unwind, callDeferred, off, hi _ q4])
     rcases q7 with ⟨v', _, _, g1, g2, g3, g4⟩ | ⟨v, v', q8, _⟩
     ·refine ⟨ρ1, w1, .head (step_defer (fr := off b ⟨tmps, _ :: ds⟩ todo .returning) (by simp [off]) rfl rfl (hi _ q4)) (q6.trans (.one ?_)), rfl, rfl⟩
      have := step_going_returned (P := P) (fr := fr) (c := off b ⟨tmps, ds⟩ todo .returning) (cs := cs) (w := w1) (v := v') g3 ⟨g1, g2, g4⟩
      rw [this]
      rfl
     cases q8
    obtain ⟨_, _, s1, rfl, rfl⟩ := fin
    obtain ⟨ρ', w', r1, r2, r3, r4⟩ := unwind_mix (b := b) (tmps := tmps) (todo := todo) (cs := cs) ds dv Bs _ m2 _ (hx.mono q2.le) q1 (hf.right q2) hd (hg.trans q2) hnd fun B2 hB2 => by
     obtain ⟨e1, e2, e3, e4⟩ := hB B2 hB2
     refine ⟨e1, Nat.lt_of_lt_of_le e2 q2.size, by rw [q2.keep B2 e2 e4]; exact e3, fun ho => ?_⟩
     rcases q2.own B2 ho with h5 | h5
     ·exact e4 h5
     omega
    exact ⟨ρ', w', s1.trans r1, r2, r3, q2.le.trans r4⟩
   cases hd
theorem stFb_follows (hfn : P.funcs[f]? = some fn) (hb : fn.body = some c) (h : stFb P self f fn c args m = some out) : FollowsK P kd f args m out := by
  intro ρ w args' cs hnr hr hf ha
  unfold stFb at h
  obtain ⟨hle, h⟩ := bif_some h
  simp only [Bool.and_eq_true, nble, decide_eq_true_eq] at hle
  have hcf := callFunc_enter hP hfn hb ⟨args'⟩ w
  have hen := enter_on (kd := kd) (args := ⟨args'⟩) hfn hb
  let a0 : Act := ⟨(⟨args'⟩ : Array Value) ++ Array.replicate (fn.ntmps - (⟨args'⟩ : Array Value).size) undef, []⟩
  have hts0 := args_ts ha hle.1 hle.2
  have hd0 : defsOf (argsT args 0 .lf) = [] := by
    unfold defsOf
    rw [argsT_get, if_neg ?_]
    · rfl
    · rintro ⟨_, h2⟩
      have := Nat.le_trans hle.1 hle.2
      omega
  have hok : FOk ρ w.heap.size ⟨f, fn.ntmps, argsT args 0 .lf, none⟩ (baseK kd f) a0 m w :=
    ⟨rfl, hts0, .inr ⟨rfl, rfl, [], by rw [hd0]; exact .nil, List.nodup_nil, fun B hB => by cases hB⟩⟩
  have hNR : NR (baseK kd f) cs := fun _ fr hk => hnr fr hk
  have back : ∀ (ρ1 : Ren) (w1 : World) (a1 : Act) (todo : List Item) (ts1 : Tr Value) (m1 : AW), retD P self fn ts1 m1 = some out → Fresh ρ1 m1 out.m → Steps P (lone (Frame.enter P f ⟨args'⟩ kd) cs w) (lone (off (baseK kd f) a1 todo .returning) cs w1) →
      Rel P ρ1 m1 w1 → Grow ρ ρ1 m m1 w w1 → FOk ρ1 w.heap.size ⟨f, fn.ntmps, ts1, none⟩ (baseK kd f) a1 m1 w1 →
      ∃ ρ' w', Rel P ρ' out.m w' ∧ Grow ρ ρ' m out.m w w' ∧ ((∃ v', out.ex = .ret ∧ VRel ρ' out.v v' ∧ (callFunc f ⟨args'⟩).run P w = .ok (.value v') w') ∨
        ((callFunc f ⟨args'⟩).run P w = .ok (.enter f ⟨args'⟩) w ∧ ∃ fr, fr.fn = f ∧ Steps P (lone (Frame.enter P f ⟨args'⟩ kd) cs w) (lone fr cs w') ∧
          ((∃ v', out.ex = .ret ∧ VRel ρ' out.v v' ∧ Goes P kd fr w' v') ∨ (∃ v v', out.ex = .panic v ∧ VRel ρ' v v' ∧ fr.leaving P w' (.panicked [{ v := v', recovered := false }]))))) := by
    intro ρ1 w1 a1 todo ts1 m1 hret hf1 hst hr1 hg1 hok1
    unfold retD at hret
    split at hret
    · rename_i m2 hd
      unfold retFn at hret
      split at hret
      · rename_i v hv
        cases hret
        rcases hok1.round with ⟨l, s, h1, _⟩ | ⟨_, _, Bs, h2, h3, h4⟩
        · cases h1
        · obtain ⟨ρ2, w2, q1, q2, q3, q4⟩ := unwind_mix hM hS hP (b := baseK kd f) (tmps := a1.tmps) (todo := todo) (cs := cs) a1.defers _ Bs ρ1 m1 w1 h2 hr1 hf1 hd hg1 h3 h4
          obtain ⟨v', r1, r2⟩ := resA_rel q2 (hok1.tmps.mono q4) hv
          exact ⟨ρ2, w2, q2, q3, .inr ⟨hcf, _, rfl, hst.trans q1, .inl ⟨v', rfl, r2, rfl, rfl, rfl, fn, hfn, r1⟩⟩⟩
      · cases hret
    · cases hret
  split at h
  · rename_i ts1 v1 m1 heq
    have hle2 := (retD_mono hM h).next
    obtain ⟨ρ1, w1, a1, fx, q1, q2, q3, q4, q5⟩ := hS _ _ _ _ heq ρ w (baseK kd f) a0 w.heap.size [] cs [.code c] hNR hr (hf.left hle2) hok (Nat.le_refl _) (.inl rfl)
    have q2 : fx = on (baseK kd f) a1 [] := q2
    subst q2
    rw [← hen] at q1
    exact back ρ1 w1 a1 [] ts1 m1 h (hf.right q4) (q1.trans (.one (on_end rfl))) q3 q4 q5
  · rename_i ts1 v1 m1 heq
    have hle2 := (retD_mono hM h).next
    obtain ⟨ρ1, w1, a1, fx, q1, q2, q3, q4, q5⟩ := hS _ _ _ _ heq ρ w (baseK kd f) a0 w.heap.size [] cs [.code c] hNR hr (hf.left hle2) hok (Nat.le_refl _) (.inl rfl)
    obtain ⟨k', rfl⟩ := q2
    rw [← hen] at q1
    exact back ρ1 w1 a1 _ ts1 m1 h (hf.right q4) (q1.trans (.one (on_ret rfl))) q3 q4 q5
  · rename_i v1 ts1 v2 m1 heq
    split at h
    · rename_i hdf
      cases h
      obtain ⟨ρ1, w1, a1, fx, q1, q2, q3, q4, q5⟩ := hS _ _ _ _ heq ρ w (baseK kd f) a0 w.heap.size [] cs [.code c] hNR hr hf hok (Nat.le_refl _) (.inl rfl)
      obtain ⟨k', v', rfl, hv⟩ := q2
      rw [← hen] at q1
      rcases q5.round with ⟨l, s, h1, _⟩ | ⟨_, _, Bs, h2, h3, h4⟩
      · cases h1
      · have hmap : a1.defers = Bs.map mark1 := by
          have h2' : Mix ρ1 [] Bs a1.defers := by
            rw [← hdf]
            exact h2
          have gen : ∀ (dv : List Value) (Bs : List Nat) (ds : List Deferred), Mix ρ1 dv Bs ds → dv = [] → ds = Bs.map mark1 := by
            intro dv Bs ds hx
            induction hx with
            | nil => intro _; rfl
            | mark B _ ih => intro e; rw [ih e]; rfl
            | call _ _ _ _ => intro e; cases e
          exact gen _ _ _ h2' rfl
        obtain ⟨w2, r1, r2⟩ := unwind_all (P := P) (n0 := w.heap.size) (b := baseK kd f) (tmps := a1.tmps) (todo := k') (cs := cs) (mode := .panicking [{ v := v', recovered := false }]) (by simp) Bs w1 h3 fun B hB => ⟨(h4 B hB).1, (h4 B hB).2.2.1⟩
        have e : off (baseK kd f) a1 k' (.panicking [{ v := v', recovered := false }]) = off (baseK kd f) ⟨a1.tmps, Bs.map mark1⟩ k' (.panicking [{ v := v', recovered := false }]) := by
          unfold off
          rw [hmap]
        rw [e] at q1
        exact ⟨ρ1, w2, q3.taken r2, q4.taken r2, .inr ⟨hcf, _, rfl, q1.trans r1, .inr ⟨v1, v', rfl, hv, rfl, rfl, fn, hfn⟩⟩⟩
    · cases h
  · cases h
theorem stFn_follows (h : stFn P self f args m = some out) : FollowsFn P f args m out := by
 unfold stFn at h
 split at h
 ·cases h
 rename_i fn hfn
 split at h
 ·intro ρ w args' cs hr hf ha
  rename_i hb
  split at h
  ·rename_i v hv
   cases h
   obtain ⟨v', h1, h2⟩ := externA_rel (w := w) hfn hb hv ha
   exact ⟨ρ, w, hr, .refl _ _ _, .inl ⟨v', rfl, h2, h1⟩⟩
  split at h
  ·rename_i v hv
   obtain ⟨hc, h⟩ := bif_some h
   simp only [Bool.and_eq_true] at hc
   cases h
   rw [scals_den hc.1 ha]
   exact ⟨ρ, w, hr, .refl _ _ _, .inl ⟨_, rfl, den_rel hc.2, FactsOk.ext f args v hv w⟩⟩
  split at h
  ·rename_i v m2 hv
   cases h
   obtain ⟨ρ2, w2, v2, h1, h2, h3, h4⟩ := bytesA_rel hfn hb hv hr (hf _ (Nat.le_refl _) (by
    obtain ⟨o, rfl⟩ := bytesA_new hv
    exact Nat.lt_succ_self _)) ha
   exact ⟨ρ2, w2, h2, h3, .inl ⟨v2, rfl, h4, h1⟩⟩
  cases h
 rename_i c hb
 split at h
 ·intro ρ w args' cs hr hf ha
  rename_i v hv
  obtain ⟨hc, h⟩ := bif_some h
  simp only [Bool.and_eq_true] at hc
  obtain ⟨hc, hL⟩ := hc
  cases h
  rw [scals_den hc.1 ha]
  obtain ⟨e, w', fr, ⟨rfl, h1, h2, h3⟩, h4, h5, h6⟩ := FactsOk.call f args v hv w (hasL_spec hr (by rw [nble, decide_eq_true_eq] at hL; exact hL.1) hL.2) cs
  exact ⟨ρ, w', (hr.later h1 h2 h3).1, (hr.later h1 h2 h3).2, .inr ⟨callFunc_enter hP hfn hb _ w, fr, h5, h4, .inl ⟨_, rfl, denT_rel hc.2, h6⟩⟩⟩
 exact (stFb_follows hM hS hP hfn hb h).fn
theorem stDfn_follows (h : stDfn P self f args m = some out) : FollowsK P .deferred f args m out := by
 unfold stDfn at h
 split at h
 ·cases h
 rename_i fn hfn
 split at h
 ·cases h
 rename_i c hb
 exact stFb_follows hM hS hP hfn hb h
end
end
end Go.Ab
namespace Go.Ab
variable [Vals]
section
variable {P : Program} [FactsOk P] {ρ ρ' : Ren} {m m' : AW} {w w' : World} {ts : Tr Value} {self : Self}
theorem loop_obj (hr : Rel P ρ m w) (hs : ρ l = some s) (h : m.heap.get l = some (.loop st p fn n ts ps as bo d)) :
  ∃ r : Loop, w.heap[s.blk]? = some (.loop r) ∧ r.state = st ∧ r.pending = p ∧ r.fn = fn ∧ TsRel ρ n ts r.tmps ∧ r.params.toList = ps ∧ r.assign = as ∧ r.body = bo ∧ ∃ sd, ρ d = some sd ∧ sd.blk = r.defers := by
 obtain ⟨s2, x, h1, h2, r, rfl, h3⟩ := hr.obj _ _ h
 rw [hs] at h1
 cases h1
 exact ⟨r, h2, h3⟩
theorem run_getLoop (h : w.heap[b]? = some (.loop r)) : (Instr.getLoop b).run P w = .ok r w := by
 have hg : (getObj b).run P w = .ok (.loop r) w := by simp [getObj, Sem.run, h]
 simp only [Instr.getLoop, Sem.run_bind, hg, Result.andThen_ok, Sem.run_pure]
theorem loop_put (hr : Rel P ρ m w) (hs : ρ l = some s) (h : m.heap.get l = some (.loop st p fn n ts ps as bo d)) (hw : w.heap[s.blk]? = some (.loop r)) :
  (setObj s.blk (.loop { r with state := st', pending := p' })).run P w = .ok () (setBlk w s.blk (.loop { r with state := st', pending := p' })) ∧
   Rel P ρ (m.set l (some (.loop st' p' fn n ts ps as bo d))) (setBlk w s.blk (.loop { r with state := st', pending := p' })) ∧ Grow ρ ρ m (m.set l (some (.loop st' p' fn n ts ps as bo d))) w (setBlk w s.blk (.loop { r with state := st', pending := p' })) := by
 obtain ⟨r2, h1, h2, h3, h4, h5, h6, h7, h8, h9⟩ := loop_obj hr hs h
 rw [hw] at h1
 cases h1
 have := hr.put (o' := .loop st' p' fn n ts ps as bo d) (y := .loop { r with state := st', pending := p' }) h hs rfl rfl (alone hr h hs rfl) ⟨_, rfl, rfl, rfl, h4, h5, h6, h7, h8, h9⟩
 exact ⟨run_setObj_any hw (by intros; simp), this⟩
theorem step_leave_round (hro : b.roundOf = some B) (hk : b.kind = .normal)
  (hj : (todo = [] ∧ jump = none) ∨ (∃ k, todo = .code .ret :: k ∧ jump = some .ret) ∨ (∃ id k, todo = .code (.exit id) :: k ∧ jump = some (.exit id) ∧ exitTo id k = none)) (hr : (Instr.endRound B jump).run P w = .ok v w') :
  step P (lone (on b a todo) (c :: cs) w) = .next (lone (c.finish v) cs w') := by
 refine step_lone_go ?_
 rcases hj with ⟨rfl, rfl⟩ | ⟨k, rfl, rfl⟩ | ⟨id, k, rfl, rfl, hx⟩
 ·simp [stepG, stepG.exec, on, hro, hr, doReturn, hk]
 ·simp [stepG, stepG.exec, on, hro, hr, doReturn, hk]
 simp [stepG, stepG.exec, on, hro, hr, doReturn, hk, hx]
theorem step_raise_round (hd : a.defers = []) (hf : P.funcs[b.fn]? = some fn) :
  step P (lone (off b a todo (.panicking ch)) (c :: cs) w) = .next (lone (c.raise ch) cs w) := by
 refine step_lone_go ?_
 simp [stepG, unwind, off, hd, Frame.catches, hf]
theorem on_beginRound (hro : b.roundOf = some B) (hr : (Instr.beginRound B).run P w = .ok () w') :
  step P (lone (on b a (.beginRound :: k)) cs w) = .next (lone (on b a k) cs w') := by
 refine step_lone_go ?_
 simp [stepG, stepG.exec, stepG.apply, on, hro, hr, Frame.finish]
def roundFr (f : FuncId) (B : Nat) : Frame := { fn := f, tmps := #[], todo := [], defers := [], mode := .run, kind := .normal, roundOf := some B }
theorem params_ts {n : Nat} : ∀ (ps : List Tmp) {args args' : List Value} {ts : Tr Value} {tmps : Array Value}, VsRel ρ args args' → TsRel ρ n ts tmps →
  TsRel ρ n ((ps.zip args).foldl (fun ts x => put n ts (some x.1) x.2) ts) ((ps.zip args').foldl (fun tmps x => tmps.setIfInBounds x.1 x.2) tmps)
 | [], _, _, _, _, _, ht => by simpa using ht
 | p :: ps, _, _, _, _, .nil, ht => by simpa using ht
 | p :: ps, _, _, ts, tmps, .cons h hs, ht => by
  simp only [List.zip_cons_cons, List.foldl_cons]
  exact params_ts ps hs (TsRel.put (a := ⟨tmps, []⟩) ht h (some p))
section
variable (hM : ∀ fr t m out, self fr t m = some out → Mono m out.m) (hS : ∀ fr t m out, self fr t m = some out → Sound P fr t m out)
include hM hS
theorem stYield_follows (h : stYield P self l args m = some out) : FollowsYield P l args m out := by
  intro ρ w args' c cs s hr hf ha hs
  unfold stYield at h
  split at h
  · rename_i p fn n ts ps as bo d hl
    obtain ⟨hlen, h⟩ := bif_some h
    simp only [nbeq, decide_eq_true_eq] at hlen
    obtain ⟨r, r1, r2, r3, r4, r5, r6, r7, r8, r9⟩ := loop_obj hr hs hl
    have hsize : ¬ ((⟨args'⟩ : Array Value).size ≠ r.params.size) := by
      have e1 : (⟨args'⟩ : Array Value).size = args'.length := rfl
      have e2 : r.params.size = r.params.toList.length := by simp
      rw [e1, e2, r6, ← ha.length_eq, hlen]
      simp
    let tmps : Array Value := (r.params.zip (⟨args'⟩ : Array Value)).foldl (fun tmps (x : Tmp × Value) => tmps.setIfInBounds x.1 x.2) r.tmps
    have htm : tmps = (ps.zip args').foldl (fun tmps x => tmps.setIfInBounds x.1 x.2) r.tmps := by
      show Array.foldl _ _ _ = _
      rw [← Array.foldl_toList, Array.toList_zip, r6]
    have hy : (Instr.yield s.blk ⟨args'⟩).run P w = .ok (.round s.blk fn tmps as bo) w := by
      simp only [Instr.yield, Sem.run_bind, run_getLoop r1, Result.andThen_ok, hsize, if_false, Sem.run_pure, r4, r7, r8]
      rfl
    have hfr : Frame.round s.blk fn tmps as bo .normal = on (roundFr fn s.blk) ⟨tmps, []⟩ [.code as, .beginRound, .code bo] := rfl
    have hts : TsRel ρ n ((ps.zip args).foldl (fun ts x => put n ts (some x.1) x.2) ts) tmps := by
      rw [htm]
      exact params_ts ps ha r5
    have hok : FOk ρ w.heap.size ⟨fn, n, (ps.zip args).foldl (fun ts x => put n ts (some x.1) x.2) ts, some l⟩ (roundFr fn s.blk) ⟨tmps, []⟩ m w := ⟨rfl, hts, .inl ⟨l, s, rfl, hs, rfl, rfl⟩⟩
    have pan : ∀ (v v' : Value) (ρ1 : Ren) (w1 : World) (a1 : Act) (todo : List Item) (m1 : AW), panOf P fn v m1 = some out → a1.defers = [] → VRel ρ1 v v' → Rel P ρ1 m1 w1 → Grow ρ ρ1 m m1 w w1 →
        Steps P (lone (on (roundFr fn s.blk) ⟨tmps, []⟩ [.code as, .beginRound, .code bo]) (c :: cs) w) (lone (off (roundFr fn s.blk) a1 todo (.panicking [{ v := v', recovered := false }])) (c :: cs) w1) →
        ∃ ρ' w' f tmps x y, (Instr.yield s.blk ⟨args'⟩).run P w = .ok (.round s.blk f tmps x y) w ∧ Rel P ρ' out.m w' ∧ Grow ρ ρ' m out.m w w' ∧
          ((∃ v', out.ex = .ret ∧ VRel ρ' out.v v' ∧ Steps P (lone (Frame.round s.blk f tmps x y .normal) (c :: cs) w) (lone (c.finish v') cs w')) ∨
           (∃ v v', out.ex = .panic v ∧ VRel ρ' v v' ∧ Steps P (lone (Frame.round s.blk f tmps x y .normal) (c :: cs) w) (lone (c.raise [{ v := v', recovered := false }]) cs w'))) := by
      intro v v' ρ1 w1 a1 todo m1 hp hd hv hr1 hg1 hst
      unfold panOf at hp
      obtain ⟨hfn, hp⟩ := bif_some hp
      obtain ⟨fnn, hfn⟩ := Option.isSome_iff_exists.1 hfn
      cases hp
      exact ⟨ρ1, w1, fn, tmps, as, bo, hy, hr1, hg1, .inr ⟨v, v', rfl, hv, by rw [hfr]; exact hst.trans (.one (step_raise_round hd hfn))⟩⟩
    split at h
    · rename_i ts2 v2 m1 heq
      have hle : m1.next ≤ out.m.next := by
        unfold stBody at h
        split at h
        · exact (endRound_mono (m := m1) hM h fun _ ho => (Mono.set _ _ _).trans (hM _ _ _ _ ho)).next
        · cases h
      obtain ⟨ρ1, w1, a1, f1, q1, q2, q3, q4, q5⟩ := hS _ _ _ _ heq ρ w (roundFr fn s.blk) ⟨tmps, []⟩ w.heap.size [.beginRound, .code bo] (c :: cs) _ (fun e => by cases e) hr (hf.left hle) hok (Nat.le_refl _) (.inl rfl)
      have q2 : f1 = on (roundFr fn s.blk) a1 [.beginRound, .code bo] := q2
      subst q2
      unfold stBody at h
      split at h
      · rename_i p' fn' n' ts' ps' as' bo' d' hl1
        obtain ⟨rr, t1, t2, t3, t4⟩ := loop_obj q3 (q4.le _ _ hs) hl1
        obtain ⟨u1, u2, u3⟩ := loop_put (st' := .busy) (p' := p') q3 (q4.le _ _ hs) hl1 t1
        have hbegin : (Instr.beginRound s.blk).run P w1 = .ok () (setBlk w1 s.blk (.loop { rr with state := .busy, pending := p' })) := by
          simp only [Instr.beginRound, Sem.run_bind, run_getLoop t1, Result.andThen_ok]
          rw [← t3] at u1 ⊢
          rw [u1]
          simp only [Result.andThen_ok, t2, Sem.run_pure]
        have hok2 : FOk ρ1 w.heap.size ⟨fn, n, ts2, some l⟩ (roundFr fn s.blk) a1 (m1.set l (some (.loop .busy p' fn' n' ts' ps' as' bo' d'))) (setBlk w1 s.blk (.loop { rr with state := .busy, pending := p' })) :=
          FOk.grow (fr := ⟨fn, n, ts2, some l⟩) q5 u3 rfl rfl q5.tmps
        have st1 : Steps P (lone (on (roundFr fn s.blk) ⟨tmps, []⟩ [.code as, .beginRound, .code bo]) (c :: cs) w) (lone (on (roundFr fn s.blk) a1 [.code bo]) (c :: cs) (setBlk w1 s.blk (.loop { rr with state := .busy, pending := p' }))) :=
          q1.trans (.one (on_beginRound rfl hbegin))
        have body : ∀ o2, self ⟨fn, n, ts2, some l⟩ (.code bo) (m1.set l (some (.loop .busy p' fn' n' ts' ps' as' bo' d'))) = some o2 → o2.m.next ≤ out.m.next →
            ∃ ρ2 w2 a2 f2, Steps P (lone (on (roundFr fn s.blk) ⟨tmps, []⟩ [.code as, .beginRound, .code bo]) (c :: cs) w) (lone f2 (c :: cs) w2) ∧ Ends ρ2 (roundFr fn s.blk) a2 [] o2.ex f2 ∧ Rel P ρ2 o2.m w2 ∧ Grow ρ ρ2 m o2.m w w2 ∧ a2.defers = [] ∧ ρ2 l = some s := by
          intro o2 ho2 hle2
          obtain ⟨ρ2, w2, a2, f2, x1, x2, x3, x4, x5⟩ := hS _ _ _ _ ho2 ρ1 _ (roundFr fn s.blk) a1 w.heap.size [] (c :: cs) _ (fun e => by cases e) u2 (((hf.right q4).right u3).left hle2) hok2 (by rw [setBlk_size]; exact q4.size) (.inl rfl)
          refine ⟨ρ2, w2, a2, f2, st1.trans x1, x2, x3, (q4.trans u3).trans x4, ?_, x4.le _ _ (q4.le _ _ hs)⟩
          rcases x5.round with ⟨_, _, _, _, _, y1⟩ | ⟨y1, _⟩
          · exact y1
          · cases y1
        have fin : ∀ (v : Value) (jump : Option Code) (st : LoopState) (o2 : Out) (ρ2 : Ren) (w2 : World) (a2 : Act) (todo : List Item), outOf v (setLoop o2.m l st jump) = some out → st = (if jump.isNone then .ready else .done) → v = .bool jump.isNone →
            Steps P (lone (on (roundFr fn s.blk) ⟨tmps, []⟩ [.code as, .beginRound, .code bo]) (c :: cs) w) (lone (on (roundFr fn s.blk) a2 todo) (c :: cs) w2) → Rel P ρ2 o2.m w2 → Grow ρ ρ2 m o2.m w w2 → ρ2 l = some s →
            ((todo = [] ∧ jump = none) ∨ (∃ k, todo = .code .ret :: k ∧ jump = some .ret) ∨ (∃ id k, todo = .code (.exit id) :: k ∧ jump = some (.exit id) ∧ exitTo id k = none)) →
            ∃ ρ' w' f tmps x y, (Instr.yield s.blk ⟨args'⟩).run P w = .ok (.round s.blk f tmps x y) w ∧ Rel P ρ' out.m w' ∧ Grow ρ ρ' m out.m w w' ∧
              ((∃ v', out.ex = .ret ∧ VRel ρ' out.v v' ∧ Steps P (lone (Frame.round s.blk f tmps x y .normal) (c :: cs) w) (lone (c.finish v') cs w')) ∨
               (∃ v v', out.ex = .panic v ∧ VRel ρ' v v' ∧ Steps P (lone (Frame.round s.blk f tmps x y .normal) (c :: cs) w) (lone (c.raise [{ v := v', recovered := false }]) cs w'))) := by
          intro v jump st o2 ρ2 w2 a2 todo hout hst hv x1 x3 x4 x5 hj
          unfold outOf at hout
          split at hout
          · rename_i m3 hm3
            cases hout
            unfold setLoop at hm3
            split at hm3
            · rename_i y1 y2 y3 y4 y5 y6 y7 y8 y9 hl2
              cases hm3
              obtain ⟨r3, z1, _⟩ := loop_obj x3 x5 hl2
              obtain ⟨z2, z3, z4⟩ := loop_put (st' := st) (p' := jump) x3 x5 hl2 z1
              have hend : (Instr.endRound s.blk jump).run P w2 = .ok (.bool jump.isNone) (setBlk w2 s.blk (.loop { r3 with state := st, pending := jump })) := by
                simp only [Instr.endRound, Sem.run_bind, run_getLoop z1, Result.andThen_ok]
                rw [← hst, z2]
                simp only [Result.andThen_ok, Sem.run_pure]
              refine ⟨ρ2, _, fn, tmps, as, bo, hy, z3, x4.trans z4, .inl ⟨_, rfl, by rw [hv]; exact .bool _, ?_⟩⟩
              rw [hfr]
              exact x1.trans (.one (step_leave_round rfl rfl hj hend))
            · cases hm3
          · cases hout
        unfold endRound at h
        split at h
        · rename_i ts3 v3 m3 heq2
          have hle3 : m3.next ≤ out.m.next := (outOf_mono (m := m3) h fun _ hs => setLoop_mono (self := self) hM hs).next
          obtain ⟨ρ2, w2, a2, f2, x1, x2, x3, x4, x5, x6⟩ := body _ heq2 hle3
          have x2 : f2 = on (roundFr fn s.blk) a2 [] := x2
          subst x2
          exact fin _ none .ready ⟨.normal, ts3, v3, m3⟩ ρ2 w2 a2 [] h rfl rfl x1 x3 x4 x6 (.inl ⟨rfl, rfl⟩)
        · rename_i ts3 v3 m3 heq2
          have hle3 : m3.next ≤ out.m.next := (outOf_mono (m := m3) h fun _ hs => setLoop_mono (self := self) hM hs).next
          obtain ⟨ρ2, w2, a2, f2, x1, x2, x3, x4, x5, x6⟩ := body _ heq2 hle3
          obtain ⟨k', rfl⟩ := x2
          exact fin _ (some .ret) .done ⟨.ret, ts3, v3, m3⟩ ρ2 w2 a2 _ h rfl rfl x1 x3 x4 x6 (.inr (.inl ⟨k', rfl, rfl⟩))
        · rename_i id ts3 v3 m3 heq2
          have hle3 : m3.next ≤ out.m.next := (outOf_mono (m := m3) h fun _ hs => setLoop_mono (self := self) hM hs).next
          obtain ⟨ρ2, w2, a2, f2, x1, x2, x3, x4, x5, x6⟩ := body _ heq2 hle3
          obtain ⟨k', rfl, hx⟩ := x2
          exact fin _ (some (.exit id)) .done ⟨.exit id, ts3, v3, m3⟩ ρ2 w2 a2 _ h rfl rfl x1 x3 x4 x6 (.inr (.inr ⟨id, k', rfl, rfl, hx⟩))
        · rename_i v ts3 v3 m3 heq2
          have hle3 : m3.next ≤ out.m.next := by rw [← panOf_mono h]; exact Nat.le_refl _
          obtain ⟨ρ2, w2, a2, f2, x1, x2, x3, x4, x5, x6⟩ := body _ heq2 hle3
          obtain ⟨k', v', rfl, hv⟩ := x2
          exact pan v v' ρ2 w2 a2 k' m3 h x5 hv x3 x4 x1
        · cases h
      · cases h
    · rename_i v ts2 v2 m1 heq
      have hle : m1.next ≤ out.m.next := by rw [← panOf_mono h]; exact Nat.le_refl _
      obtain ⟨ρ1, w1, a1, f1, q1, q2, q3, q4, q5⟩ := hS _ _ _ _ heq ρ w (roundFr fn s.blk) ⟨tmps, []⟩ w.heap.size [.beginRound, .code bo] (c :: cs) _ (fun e => by cases e) hr (hf.left hle) hok (Nat.le_refl _) (.inl rfl)
      obtain ⟨k', v', rfl, hv⟩ := q2
      refine pan v v' ρ1 w1 a1 k' m1 h ?_ hv q3 q4 q1
      rcases q5.round with ⟨_, _, _, _, _, y1⟩ | ⟨y1, _⟩
      · exact y1
      · cases y1
    · cases h
  · cases h
end
end
end Go.Ab
namespace Go.Ab
variable [Vals]
section
variable {P : Program} [FactsOk P] {ρ ρ' : Ren} {m m' : AW} {w w' : World} {ts : Tr Value} {self : Self}
def rfCall (f : Operand) (L : Nat) : Call := { callee := .value f, args := #[.const (.func (.yield L) #[] #[])], argTypes := #[] }
def rfSem (a : Act) (f : Operand) (L : Nat) : Sem Next := do let d ← resolve a.eval (rfCall f L) 0; invoke d.target d.args
theorem on_range_enter {mark : List Deferred}
  (he : (Instr.enterLoop b.fn a.tmps params assign body b.roundOf).run P w = .ok (L, mark) w1) (hc : (rfSem a f L).run P w1 = .ok (.enter g args) w2) :
  step P (lone (on b a (.code (.rangeFunc f params assign body) :: k)) cs w) = .next (lone (Frame.enter P g args .normal) (on b ⟨a.tmps, mark ++ a.defers⟩ (.inRangeFunc L :: k) :: cs) w2) := by
 have h1 := on_eval b ⟨a.tmps, mark ++ a.defers⟩ (.inRangeFunc L :: k)
 simp only [on] at h1
 have h2 : (Act.eval ⟨a.tmps, mark ++ a.defers⟩) = a.eval := by funext x; cases x <;> rfl
 rw [h2] at h1
 unfold rfSem rfCall at hc
 refine step_lone_go ?_
 simp [stepG, stepG.exec, stepG.apply, on, he, h1, hc]
theorem on_range_value {mark : List Deferred}
  (he : (Instr.enterLoop b.fn a.tmps params assign body b.roundOf).run P w = .ok (L, mark) w1) (hc : (rfSem a f L).run P w1 = .ok (.value v) w2) :
  step P (lone (on b a (.code (.rangeFunc f params assign body) :: k)) cs w) = .next (lone (on b ⟨a.tmps, mark ++ a.defers⟩ (.endRangeFunc L :: k)) cs w2) := by
 have h1 := on_eval b ⟨a.tmps, mark ++ a.defers⟩ (.inRangeFunc L :: k)
 simp only [on] at h1
 have h2 : (Act.eval ⟨a.tmps, mark ++ a.defers⟩) = a.eval := by funext x; cases x <;> rfl
 rw [h2] at h1
 unfold rfSem rfCall at hc
 refine step_lone_go ?_
 simp [stepG, stepG.exec, stepG.apply, on, he, h1, hc, Frame.finish]
theorem on_endRange (he : (Instr.endLoop L).run P w = .ok jump w') :
  step P (lone (on b a (.endRangeFunc L :: k)) cs w) = .next (lone (on b a ((jump.map Item.code).toList ++ k)) cs w') := by
 refine step_lone_go ?_
 simp [stepG, stepG.exec, on, he]
theorem not_own (h : Rel P ρ m w) (hd : m.heap.get d = some o) (hro : isRo o = true) (hmt : mateOf o = none) (hs : ρ d = some s) : ¬ Own ρ m s.blk := by
 rintro ⟨b2, o2, s2, h1, h2, h3, h4⟩
 by_cases e : b2 = d
 ·subst e
  rw [hd] at h1
  cases h1
  rw [hro] at h2
  cases h2
 rcases h.sep b2 d o2 o s2 s e h1 hd h3 hs h4 with ⟨_, h5⟩ | ⟨h5, _⟩
 ·rw [hmt] at h5; cases h5
 rw [h2] at h5; cases h5
theorem begin_rel (hr : Rel P ρ m w) (h : beginRF fr params.toList assign body m = some (l, m2)) (hf : Fresh ρ m m2) (hok : FOk ρ n0 fr b a m w) (hn : n0 ≤ w.heap.size) :
  ∃ ρ2 w2 s mark, (Instr.enterLoop b.fn a.tmps params assign body b.roundOf).run P w = .ok (s.blk, mark) w2 ∧ ρ2 l = some s ∧ Rel P ρ2 m2 w2 ∧ Grow ρ ρ2 m m2 w w2 ∧ FOk ρ2 n0 fr b ⟨a.tmps, mark ++ a.defers⟩ m2 w2 := by
 unfold beginRF at h
 rcases hok.round with ⟨lo, so, h1, h2, h3, h4⟩ | ⟨h1, h2, h3⟩
 ·rw [h1] at h
  simp only at h
  split at h
  ·rename_i y1 y2 y3 y4 y5 y6 y7 y8 d hlo
   cases h
   obtain ⟨r, r1, r2, r3, r4, r5, r6, r7, r8, sd, r9, r10⟩ := loop_obj hr h2 hlo
   have hfr := hf _ (Nat.le_refl _) (by simp [AW.new])
   have hle : ρ.le (ρ.set m.next ⟨w.heap.size, 0, 0⟩) := Ren.le_set hfr
   obtain ⟨q1, q2⟩ := hr.new (w' := w.alloc (.loop { state := .ready, pending := none, fn := b.fn, tmps := a.tmps, params := params, assign := assign, body := body, defers := r.defers })) hfr (x := .loop .ready none fr.fn fr.n fr.ts params.toList assign body d) (cap := 0)
    (y := .loop { state := .ready, pending := none, fn := b.fn, tmps := a.tmps, params := params, assign := assign, body := body, defers := r.defers }) rfl ⟨rfl, rfl, rfl⟩
    ⟨_, rfl, rfl, rfl, hok.fn, hok.tmps.mono hle, rfl, rfl, rfl, sd, hle _ _ r9, r10⟩
   refine ⟨_, _, ⟨w.heap.size, 0, 0⟩, [], ?_, Ren.set_same _ _ _, q1, q2, ?_⟩
   ·simp only [Instr.enterLoop, h3, Sem.run_bind, run_getLoop r1, Result.andThen_ok, Sem.run_pure, run_newObj]
    rfl
   exact FOk.grow (fr := fr) hok q2 rfl rfl (hok.tmps.mono hle)
  cases h
 rw [h1] at h
 cases h
 have hfr := hf m.next (Nat.le_refl _) (by simp [AW.new]; omega)
 have hfr2 := hf (m.next + 1) (by omega) (by simp [AW.new])
 obtain ⟨q1, q2⟩ := hr.new (w' := w.alloc (.deferred (some []))) hfr (x := .deferred) (cap := 0) (y := .deferred (some [])) rfl ⟨rfl, rfl, rfl⟩ ⟨_, rfl⟩
 have hle := q2.le
 have hfr3 : (ρ.set m.next ⟨w.heap.size, 0, 0⟩) (m.new .deferred).next = none := by
  rw [q2.only _ (.inr (Nat.le_refl _))]
  exact hfr2
 have hle2 : (ρ.set m.next ⟨w.heap.size, 0, 0⟩).le ((ρ.set m.next ⟨w.heap.size, 0, 0⟩).set (m.new .deferred).next ⟨(w.alloc (.deferred (some []))).heap.size, 0, 0⟩) := Ren.le_set hfr3
 obtain ⟨q3, q4⟩ := q1.new (w' := (w.alloc (.deferred (some []))).alloc (.loop { state := .ready, pending := none, fn := b.fn, tmps := a.tmps, params := params, assign := assign, body := body, defers := w.heap.size })) hfr3
  (x := .loop .ready none fr.fn fr.n fr.ts params.toList assign body m.next) (cap := 0)
  (y := .loop { state := .ready, pending := none, fn := b.fn, tmps := a.tmps, params := params, assign := assign, body := body, defers := w.heap.size }) rfl ⟨rfl, rfl, rfl⟩
  ⟨_, rfl, rfl, rfl, hok.fn, (hok.tmps.mono hle).mono hle2, rfl, rfl, rfl, ⟨w.heap.size, 0, 0⟩, hle2 _ _ (Ren.set_same _ _ _), rfl⟩
 have g := q2.trans q4
 refine ⟨_, _, ⟨(w.alloc (.deferred (some []))).heap.size, 0, 0⟩, [mark1 w.heap.size], ?_, Ren.set_same _ _ _, q3, g, ⟨hok.fn, (hok.tmps.mono hle).mono hle2, .inr ⟨h1, h2, ?_⟩⟩⟩
 ·simp only [Instr.enterLoop, h2, Sem.run_bind, Result.andThen_ok, Sem.run_pure, run_newObj]
  rfl
 obtain ⟨Bs, u1, u2, u3⟩ := h3
 have hd2 : (ρ.set m.next ⟨w.heap.size, 0, 0⟩) m.next = some ⟨w.heap.size, 0, 0⟩ := Ren.set_same _ _ _
 have hget : ((m.new .deferred).new (.loop .ready none fr.fn fr.n fr.ts params.toList assign body m.next)).heap.get m.next = some .deferred := by
  rw [AW.new_get, AW.new_get]
  simp [AW.new]
 refine ⟨w.heap.size :: Bs, .mark _ (u1.mono g.le), List.nodup_cons.2 ⟨fun hin => ?_, u2⟩, fun B hB => ?_⟩
 ·have := (u3 _ hin).2.1
  omega
 cases hB with
 | head =>
  refine ⟨hn, ?_, ?_, not_own q3 hget rfl rfl (hle2 _ _ hd2)⟩
  ·show w.heap.size < ((w.heap.push _).push _).size
   rw [Array.size_push, Array.size_push]
   omega
  have : ((w.alloc (.deferred (some []))).alloc (.loop { state := .ready, pending := none, fn := b.fn, tmps := a.tmps, params := params, assign := assign, body := body, defers := w.heap.size })).heap[w.heap.size]? = some (.deferred (some [])) := by
   show ((w.heap.push _).push _)[w.heap.size]? = _
   rw [heap_push_old (by rw [Array.size_push]; omega)]
   simp
  exact this
 | tail _ hB => exact mark_grow g (u3 B hB)
section
variable (hM : ∀ fr t m out, self fr t m = some out → Mono m out.m) (hS : ∀ fr t m out, self fr t m = some out → Sound P fr t m out)
include hM hS
theorem stRF_follows (h : stRF P self fr f params.toList assign body m = some out) : Follows P fr m out (Starts (.rangeFunc f params assign body)) := by
  intro ρ w b a n0 k cs todo hnr hr hf hok hn hst
  rcases hst with rfl | ⟨body, hb, _⟩
  · have hE : ERel P ρ fr.ts a.eval := erel_of hok.tmps hr.glob
    unfold stRF at h
    split at h
    · rename_i g first captured hfv
      split at h
      · rename_i l m2 hbeg
        have hm2 := beginRF_mono (self := self) hM hbeg
        have key : ∀ o3, self noFr (.fn g (first ++ [.func (.yield l) #[] #[]] ++ captured)) m2 = some o3 → o3.m.next ≤ out.m.next →
            ∃ ρ3 w3 s a', ρ3 l = some s ∧ Rel P ρ3 o3.m w3 ∧ Grow ρ ρ3 m o3.m w w3 ∧ FOk ρ3 n0 fr b a' o3.m w3 ∧
              ((o3.ex = .ret ∧ Steps P (lone (on b a (.code (.rangeFunc f params assign body) :: k)) cs w) (lone (on b a' (.endRangeFunc s.blk :: k)) cs w3)) ∨
               (∃ v v', o3.ex = .panic v ∧ VRel ρ3 v v' ∧ Steps P (lone (on b a (.code (.rangeFunc f params assign body) :: k)) cs w) (lone (off b a' (.inRangeFunc s.blk :: k) (.panicking [{ v := v', recovered := false }])) cs w3))) := by
          intro o3 ho3 hle
          have hm3 := hM _ _ _ _ ho3
          obtain ⟨ρ2, w2, s, mark, e1, e2, e3, e4, e5⟩ := begin_rel hr hbeg (hf.left (Nat.le_trans hm3.next hle)) hok hn
          have hfv' := hE _ _ hfv
          generalize he : a.eval f = fv' at hfv'
          cases hfv' with
          | func h1 h2 =>
            rename_i first' captured'
            have hrun : ∀ w, (rfSem a f s.blk).run P w = (callFunc g ⟨first' ++ [.func (.yield s.blk) #[] #[]] ++ captured'⟩).run P w := by
              intro w
              simp only [rfSem, rfCall, resolve, Sem.run_bind, he, Deferred.ofValue, Sem.run_pure, Result.andThen_ok, invoke]
              congr 2
              simp [Act.eval]
            have hargs : VsRel ρ2 (first ++ [.func (.yield l) #[] #[]] ++ captured) (first' ++ [.func (.yield s.blk) #[] #[]] ++ captured') :=
              ((h1.mono e4.le).append (.cons (.yield e2) .nil)).append (h2.mono e4.le)
            obtain ⟨ρ3, w3, q1, q2, q3⟩ := hS _ _ _ _ ho3 ρ2 w2 _ (on b ⟨a.tmps, mark ++ a.defers⟩ (.inRangeFunc s.blk :: k) :: cs) e3 ((hf.right e4).left hle) hargs
            have hok3 : FOk ρ3 n0 fr b ⟨a.tmps, mark ++ a.defers⟩ o3.m w3 := FOk.grow (fr := fr) e5 q2 rfl rfl (e5.tmps.mono q2.le)
            refine ⟨ρ3, w3, s, ⟨a.tmps, mark ++ a.defers⟩, q2.le _ _ e2, q1, e4.trans q2, hok3, ?_⟩
            rcases q3 with ⟨v', t1, _, t2⟩ | ⟨t1, frx, t2, t3, t4⟩
            · exact .inl ⟨t1, .one (on_range_value e1 (by rw [hrun]; exact t2))⟩
            · have hent := on_range_enter (k := k) (cs := cs) e1 (by rw [hrun]; exact t1)
              rcases t4 with ⟨v', t5, _, t6⟩ | ⟨v, v', t5, t6, t7⟩
              · refine .inl ⟨t5, .head hent (t3.trans (.one ?_))⟩
                rw [step_leave_returned t6]
                rfl
              · refine .inr ⟨v, v', t5, t6, .head hent (t3.trans (.one ?_))⟩
                rw [step_leave_panicked t7]
                rfl
        split at h
        · rename_i ts3 v3 m3 heq
          have hle := (endRF_mono (self := self) hM h).next
          obtain ⟨ρ3, w3, s, a', q1, q2, q3, q4, q5⟩ := key _ heq hle
          rcases q5 with ⟨_, q5⟩ | ⟨_, _, q5, _⟩
          · unfold endRF at h
            split at h
            · rename_i st pending y3 y4 y5 y6 y7 y8 y9 hl
              obtain ⟨r, z1, z2, z3, z4⟩ := loop_obj q2 q1 hl
              obtain ⟨u1, u2, u3⟩ := loop_put (st' := .exhausted) (p' := pending) q2 q1 hl z1
              have hend : st ≠ .busy → (Instr.endLoop s.blk).run P w3 = .ok pending (setBlk w3 s.blk (.loop { r with state := .exhausted, pending := pending })) := by
                intro hst
                have hb : (r.state == LoopState.busy) = false := by
                  rw [z2]
                  cases st <;> first | rfl | exact absurd rfl hst
                simp only [Instr.endLoop, Sem.run_bind, run_getLoop z1, Result.andThen_ok, hb, Bool.false_eq_true, if_false, Sem.run_pure]
                rw [← z3] at u1 ⊢
                rw [u1]
                rfl
              have hok4 : FOk ρ3 n0 fr b a' (m3.set l (some (.loop .exhausted pending y3 y4 y5 y6 y7 y8 y9))) (setBlk w3 s.blk (.loop { r with state := .exhausted, pending := pending })) := FOk.grow (fr := fr) q4 u3 rfl rfl q4.tmps
              split at h
              · cases h
              · rename_i hnb
                have hend := hend (fun e => hnb e)
                have st4 := q5.trans (.one (on_endRange (k := k) (b := b) (a := a') (cs := cs) hend))
                split at h
                · cases h
                  exact ⟨ρ3, _, a', _, st4, rfl, u2, q3.trans u3, hok4⟩
                · cases h
                  exact ⟨ρ3, _, a', _, st4, ⟨k, rfl⟩, u2, q3.trans u3, hok4⟩
                · cases h
                  exact ⟨ρ3, _, a', _, st4, ⟨k, rfl, rfl⟩, u2, q3.trans u3, hok4⟩
                · cases h
            · cases h
          · cases q5
        · rename_i v ts3 v3 m3 heq
          cases h
          obtain ⟨ρ3, w3, s, a', q1, q2, q3, q4, q5⟩ := key _ heq (Nat.le_refl _)
          rcases q5 with ⟨q5, _⟩ | ⟨v2, v', q5, q6, q7⟩
          · cases q5
          · cases q5
            exact ⟨ρ3, w3, a', _, q7, ⟨_, v', rfl, q6⟩, q2, q3, q4⟩
        · cases h
      · cases h
    · cases h
  · cases hb
end
end
end Go.Ab
namespace Go.Ab
variable [Vals]
section
variable {P : Program} [FactsOk P] {ts ts2 : Tr Value} {self : Self} {m : AW}
theorem evs_congr : ∀ {xs : List Operand}, (∀ x ∈ xs, ev P ts x = ev P ts2 x) → evs P ts xs = evs P ts2 xs
 | [], _ => rfl
 | x :: xs, h => by
  simp only [evs, h x List.mem_cons_self, evs_congr (xs := xs) fun y hy => h y (List.mem_cons_of_mem _ hy)]
theorem evParts_congr : ∀ {xs : List (Nat × Operand)}, (∀ x ∈ xs, ev P ts x.2 = ev P ts2 x.2) → evParts P ts xs = evParts P ts2 xs
 | [], _ => rfl
 | (i, x) :: xs, h => by
  simp only [evParts, h (i, x) List.mem_cons_self, evParts_congr (xs := xs) fun y hy => h y (List.mem_cons_of_mem _ hy)]
theorem evo_congr (h : ∀ y ∈ x.toArray, ev P ts y = ev P ts2 y) : evo P ts x = evo P ts2 x := by
 cases x with
 | none => rfl
 | some x =>
  simp only [evo, h x (by simp)]
theorem call_args {c : Call} (h : ∀ x ∈ c.operands, ev P ts x = ev P ts2 x) : evs P ts c.args.toList = evs P ts2 c.args.toList :=
 evs_congr fun x hx => h x (by simp only [Call.operands, Array.mem_append]; right; simpa using hx)
theorem opP_congr (h : ∀ x ∈ o.operands, ev P ts x = ev P ts2 x) : opP P ts o = opP P ts2 o := by
 cases o <;> simp only [Op.operands] at h <;> simp only [opP]
 case move x => rw [h x (by simp)]
 case assign x => rw [h x (by simp)]
 case pick a b c => simp only [pickA, h a (by simp), h b (by simp), h c (by simp)]
 case build t ps => rw [evParts_congr fun x hx => h x.2 (by simp; exact ⟨x.1, by simpa using hx⟩)]
 case nilCheck x => rw [h x (by simp)]
 case binOp op t x y ty => simp only [bin1, h x (by simp), h y (by simp)]
 case unOp op t x => rw [h x (by simp)]
 case convert s d x => rw [h x (by simp)]
 case makeInterface t x => rw [h x (by simp)]
 case makeFunc fn a b =>
  have h1 : evs P ts a.toList = evs P ts2 a.toList := evs_congr fun x hx => h x (by simp; left; simpa using hx)
  have h2 : evs P ts b.toList = evs P ts2 b.toList := evs_congr fun x hx => h x (by simp; right; simpa using hx)
  simp only [funcA, h1, h2]
 case slice t x l hi mx =>
  have h1 := evo_congr (ts := ts) (ts2 := ts2) (P := P) (x := l) fun y hy => h y (by simp only [Array.mem_append]; exact .inl (.inl (.inr hy)))
  have h2 := evo_congr (ts := ts) (ts2 := ts2) (P := P) (x := hi) fun y hy => h y (by simp only [Array.mem_append]; exact .inl (.inr hy))
  have h3 := evo_congr (ts := ts) (ts2 := ts2) (P := P) (x := mx) fun y hy => h y (by simp only [Array.mem_append]; exact .inr hy)
  simp only [slice1, h x (by simp), h1, h2, h3]
 case fieldAddr s x f => rw [h x (by simp)]
 case field s x f => rw [h x (by simp)]
 case indexAddr t x i => simp only [bind2, h x (by simp), h i (by simp)]
 case index t x i => simp only [bind2, h x (by simp), h i (by simp)]
 case extract t i => rw [h t (by simp)]
 case typeAssert x a b c => rw [h x (by simp)]
 case call c => simp only [callP, call_args h]
theorem opL_congr (h : ∀ x ∈ o.operands, ev P ts x = ev P ts2 x) : opL P ts o = opL P ts2 o := by
 cases o <;> simp only [Op.operands] at h <;> simp only [opL]
 case load t x => rw [h x (by simp)]
 case lookup t x k ok => simp only [lookup1, h x (by simp), h k (by simp)]
 case convert s d x => rw [h x (by simp)]
 case call c => simp only [callL, call_args h]
theorem opA_congr (h : ∀ x ∈ o.operands, ev P ts x = ev P ts2 x) : opA P ts o = opA P ts2 o := by
 cases o <;> simp only [Op.operands] at h <;> simp only [opA]
 case box t x => rw [h x (by simp)]
 case buildSlice t n ps => rw [evParts_congr fun x hx => h x.2 (by simp; exact ⟨x.1, by simpa using hx⟩)]
 case makeSlice t x y => rw [h x (by simp), h y (by simp)]
 case makeMap t r =>
  cases r with
  | none => rfl
  | some r => simp only [Option.map_some, h r (by simp)]
 case convert s d x => rw [h x (by simp)]
theorem opH_congr (h : ∀ x ∈ o.operands, ev P ts x = ev P ts2 x) : opH P self ts o m = opH P self ts2 o m := by
 cases o <;> simp only [Op.operands] at h <;> simp only [opH]
 case store t x y => rw [h x (by simp), h y (by simp)]
 case mapUpdate t x y z => rw [evs_congr (xs := [x, y, z]) fun u hu => h u (by simpa using hu)]
 case insert t x y z => rw [evs_congr (xs := [x, y, z]) fun u hu => h u (by simpa using hu)]
 case range t x => rw [h x (by simp)]
 case next x b => rw [h x (by simp)]
 case entry x => rw [h x (by simp)]
 case panic x => rw [h x (by simp)]
 case call c =>
  simp only [callH, call_args h]
  cases hc : c.callee with
  | value f => simp only [h f (by simp [Call.operands, hc])]
  | invoke a b => simp only [h a (by simp [Call.operands, hc])]
  | builtin b => rfl
theorem doOp_congr (h : ∀ x ∈ o.operands, ev P ts x = ev P ts2 x) : doOp P self ts o m = doOp P self ts2 o m := by
 unfold doOp
 rw [opP_congr h, opL_congr h, opA_congr h, opH_congr h]
end
end Go.Ab
namespace Go.Ab
variable [Vals]
section
variable {P : Program} [FactsOk P] {self : Self}
inductive DStep (P : Program) (self : Self) (n : Nat) (ops : Array Oper) (base lo : Nat) (o : Oper) (inf : Info) (ts : Tr Value) (m : AW) (as : List (Nat × Nat)) : Tr Value → AW → List Nat → Option Nat → List (Nat × Nat) → Prop where
 | skip (hw : wantedA ops ts o = false) : DStep P self n ops base lo o inf ts m as (put n ts o.dst undef) m [] none as
 | pure {v : Value} (hw : wantedA ops ts o = true) (hc : cls P o.op = .p) (h : opP P ts o.op = some v) : DStep P self n ops base lo o inf ts m as (put n ts o.dst v) m [] none as
 | imm {v : Value} (hw : wantedA ops ts o = true) (hc : cls P o.op = .l) (h : opL P ts o.op = some (.imm v)) : DStep P self n ops base lo o inf ts m as (put n ts o.dst v) m [] none as
 | full {v : Value} {b : Nat} {f : AObj → Option Value} (hw : wantedA ops ts o = true) (hc : cls P o.op = .l) (h : opL P ts o.op = some (.rd b f)) (hv : (m.heap.get b).bind f = some v) (hf : inf.full = true) (hsn : seenB inf.pre b as = true) : DStep P self n ops base lo o inf ts m as (put n ts o.dst v) m [] none as
 | read {v : Value} {b : Nat} {f : AObj → Option Value} (hw : wantedA ops ts o = true) (hc : cls P o.op = .l) (h : opL P ts o.op = some (.rd b f)) (hv : (m.heap.get b).bind f = some v) (hb : b < base) : DStep P self n ops base lo o inf ts m as (put n ts o.dst v) m [] (some b) as
 | make {x : AObj} {f : Nat → Value} (hw : wantedA ops ts o = true) (hc : cls P o.op = .a) (h : opA P ts o.op = some (x, f)) : DStep P self n ops base lo o inf ts m as (put n ts o.dst (f m.next)) (m.new x) [] none ((inf.i, m.next) :: as)
 | call {v : Value} {m1 : AW} (hw : wantedA ops ts o = true) (hc : cls P o.op = .h) (hk : inf.hok = true) (hp : plainB inf.pre m.heap as = true) (h : doOp P self ts o.op ⟨hideB inf.pre as m.heap, m.next, base, []⟩ = some (.val v m1)) :
   DStep P self n ops base lo o inf ts m as (put n ts o.dst v) ⟨showB inf.pre m.heap as m1.heap, m1.next, lo, below lo m1.log ++ m.log⟩ m1.log none as
theorem notIn_spec {b : Nat} : ∀ {l : List Nat}, notIn b l = true → b ∉ l
 | [], _, h => by cases h
 | x :: xs, hn, h => by
  unfold notIn at hn
  by_cases e : x = b
  ·subst e
   simp at hn
  simp only [nbeq, e, decide_false, cond_false] at hn
  cases h with
  | head => exact e rfl
  | tail _ h => exact notIn_spec hn h
theorem readOk_spec {pre b : Nat} : ∀ {ws : List (Nat × List Nat)}, readOk pre b ws = true → ∀ h w, (h, w) ∈ ws → pre.testBit h = false → b ∉ w
 | (h, w) :: ws, hr, h', w', hm, hp => by
  unfold readOk at hr
  obtain ⟨hc, hr⟩ : (pre.testBit h || notIn b w) = true ∧ readOk pre b ws = true := by
   cases hcc : (pre.testBit h || notIn b w) with
   | true => rw [hcc] at hr; exact ⟨rfl, hr⟩
   | false => rw [hcc] at hr; cases hr
  cases hm with
  | head =>
   rw [hp] at hc
   exact notIn_spec (by simpa using hc)
  | tail _ hm => exact readOk_spec hr h' w' hm hp
theorem writeOk_spec {pre : Nat} {w : List Nat} : ∀ {rs : List (Nat × Nat)}, writeOk pre w rs = true → ∀ j b, (j, b) ∈ rs → pre.testBit j = false → b ∉ w
 | (j, b) :: rs, hr, j', b', hm, hp => by
  unfold writeOk at hr
  obtain ⟨hc, hr⟩ : (pre.testBit j || notIn b w) = true ∧ writeOk pre w rs = true := by
   cases hcc : (pre.testBit j || notIn b w) with
   | true => rw [hcc] at hr; exact ⟨rfl, hr⟩
   | false => rw [hcc] at hr; cases hr
  cases hm with
  | head =>
   rw [hp] at hc
   exact notIn_spec (by simpa using hc)
  | tail _ hm => exact writeOk_spec hr j' b' hm hp
structure DTrace (P : Program) (slf : Self) (n : Nat) (ops : Array Oper) (base lo : Nat) (i0 : Nat) (l : List (Oper × Info)) (T : Nat → Tr Value) (M : Nat → AW) (L : Nat → List Nat) (R : Nat → Option Nat) (A : Nat → List (Nat × Nat)) : Prop where
 step : ∀ i o inf, i0 ≤ i → l[i - i0]? = some (o, inf) → DStep P slf n ops base lo o inf (T i) (M i) (A i) (T (i + 1)) (M (i + 1)) (L i) (R i) (A (i + 1))
 apart : ∀ i j o inf, i0 ≤ j → j < i → l[i - i0]? = some (o, inf) → inf.pre.testBit j = false → (∀ b, R i = some b → b ∉ L j) ∧ (∀ b, R j = some b → b ∉ L i)
theorem dops_trace {n : Nat} {ops : Array Oper} {base lo : Nat} : ∀ (l : List (Oper × Info)) (i0 : Nat) (rs : List (Nat × Nat)) (ws : List (Nat × List Nat)) (as : List (Nat × Nat)) (ts : Tr Value) (m : AW) (out : Out),
  (∀ k o inf, l[k]? = some (o, inf) → inf.i = i0 + k ∧ inf.cls = cls P o.op) → dops P self n ops base lo l rs ws as ts m = some out →
  ∃ T M L R A, T i0 = ts ∧ M i0 = m ∧ A i0 = as ∧ T (i0 + l.length) = out.ts ∧ M (i0 + l.length) = out.m ∧ out.ex = .normal ∧ DTrace P self n ops base lo i0 l T M L R A ∧
   (∀ i o inf, i0 ≤ i → l[i - i0]? = some (o, inf) → (∀ h w, (h, w) ∈ ws → inf.pre.testBit h = false → ∀ b, R i = some b → b ∉ w) ∧ (∀ j b, (j, b) ∈ rs → inf.pre.testBit j = false → b ∉ L i))
 | [], i0, rs, ws, as, ts, m, out, _, h => by
  simp only [dops, Option.some.injEq] at h
  subst h
  exact ⟨fun _ => ts, fun _ => m, fun _ => [], fun _ => none, fun _ => as, rfl, rfl, rfl, rfl, rfl, rfl, ⟨fun i o inf _ hl => by simp at hl, fun i j o inf _ _ hl => by simp at hl⟩, fun i o inf _ hl => by simp at hl⟩
 | (o, inf) :: l, i0, rs, ws, as, ts, m, out, hinf, h => by
  obtain ⟨hi, hcl⟩ := hinf 0 o inf rfl
  have hinf' : ∀ k o inf, l[k]? = some (o, inf) → inf.i = i0 + 1 + k ∧ inf.cls = cls P o.op := by
   intro k o2 inf2 hk
   obtain ⟨h1, h2⟩ := hinf (k + 1) o2 inf2 (by simpa using hk)
   exact ⟨by omega, h2⟩
  -- what is common to all cases
  have glue : ∀ (ts1 : Tr Value) (m1 : AW) (log : List Nat) (rd : Option Nat) (rs1 : List (Nat × Nat)) (ws1 : List (Nat × List Nat)) (as1 : List (Nat × Nat)), dops P self n ops base lo l rs1 ws1 as1 ts1 m1 = some out →
    DStep P self n ops base lo o inf ts m as ts1 m1 log rd as1 → (∀ x ∈ ws, x ∈ ws1) → (∀ x ∈ rs, x ∈ rs1) → (log ≠ [] → (i0, log) ∈ ws1) → (∀ b, rd = some b → (i0, b) ∈ rs1) →
    (∀ h w, (h, w) ∈ ws → inf.pre.testBit h = false → ∀ b, rd = some b → b ∉ w) → (∀ j b, (j, b) ∈ rs → inf.pre.testBit j = false → b ∉ log) →
    ∃ T M L R A, T i0 = ts ∧ M i0 = m ∧ A i0 = as ∧ T (i0 + ((o, inf) :: l).length) = out.ts ∧ M (i0 + ((o, inf) :: l).length) = out.m ∧ out.ex = .normal ∧ DTrace P self n ops base lo i0 ((o, inf) :: l) T M L R A ∧
     (∀ i o2 inf2, i0 ≤ i → ((o, inf) :: l)[i - i0]? = some (o2, inf2) → (∀ h w, (h, w) ∈ ws → inf2.pre.testBit h = false → ∀ b, R i = some b → b ∉ w) ∧ (∀ j b, (j, b) ∈ rs → inf2.pre.testBit j = false → b ∉ L i)) := by
   intro ts1 m1 log rd rs1 ws1 as1 hd hst hws hrs hlog hrd hw1 hw2
   obtain ⟨T, M, L, R, A, t1, t2, ta, t3, t4, t5, t6, t7⟩ := dops_trace l (i0 + 1) rs1 ws1 as1 ts1 m1 out hinf' hd
   have hidx : ∀ i, i0 < i → ((o, inf) :: l)[i - i0]? = l[i - (i0 + 1)]? := by
    intro i hi
    rw [show i - i0 = (i - (i0 + 1)) + 1 by omega, List.getElem?_cons_succ]
   refine ⟨fun i => if i = i0 then ts else T i, fun i => if i = i0 then m else M i, fun i => if i = i0 then log else L i, fun i => if i = i0 then rd else R i, fun i => if i = i0 then as else A i, by simp, by simp, by simp, ?_, ?_, t5, ⟨?_, ?_⟩, ?_⟩
   ·simp only [List.length_cons]
    rw [if_neg (by omega), show i0 + (l.length + 1) = i0 + 1 + l.length by omega]
    exact t3
   ·simp only [List.length_cons]
    rw [if_neg (by omega), show i0 + (l.length + 1) = i0 + 1 + l.length by omega]
    exact t4
   ·intro i o2 inf2 hle hl2
    by_cases e : i = i0
    ·subst e
     simp only [Nat.sub_self, List.getElem?_cons_zero, Option.some.injEq, Prod.mk.injEq] at hl2
     obtain ⟨rfl, rfl⟩ := hl2
     simp only [if_true]
     rw [if_neg (by omega), if_neg (by omega), if_neg (by omega), t1, t2, ta]
     exact hst
    rw [hidx i (by omega)] at hl2
    simp only [if_neg e]
    rw [if_neg (by omega), if_neg (by omega), if_neg (by omega)]
    exact t6.1 i o2 inf2 (by omega) hl2
   ·intro i j o2 inf2 hle hji hl2 hp
    rw [hidx i (by omega)] at hl2
    have e : i ≠ i0 := by omega
    simp only [if_neg e]
    by_cases ej : j = i0
    ·subst ej
     simp only [if_true]
     obtain ⟨u1, u2⟩ := t7 i o2 inf2 (by omega) hl2
     refine ⟨fun b hb hin => ?_, fun b hb => u2 j b (hrd b hb) hp⟩
     have hne : log ≠ [] := fun e0 => by rw [e0] at hin; cases hin
     exact u1 j log (hlog hne) hp b hb hin
    simp only [if_neg ej]
    exact t6.2 i j o2 inf2 (by omega) hji hl2 hp
   intro i o2 inf2 hle hl2
   by_cases e : i = i0
   ·subst e
    simp only [Nat.sub_self, List.getElem?_cons_zero, Option.some.injEq, Prod.mk.injEq] at hl2
    obtain ⟨rfl, rfl⟩ := hl2
    simp only [if_true]
    exact ⟨hw1, hw2⟩
   rw [hidx i (by omega)] at hl2
   simp only [if_neg e]
   obtain ⟨u1, u2⟩ := t7 i o2 inf2 (by omega) hl2
   exact ⟨fun h w hm => u1 h w (hws _ hm), fun j b hm => u2 j b (hrs _ hm)⟩
  have nil1 : ∀ (h : Nat) (w : List Nat), (h, w) ∈ ws → inf.pre.testBit h = false → ∀ b, (none : Option Nat) = some b → b ∉ w := fun _ _ _ _ _ hb => by cases hb
  have nil2 : ∀ (j b : Nat), (j, b) ∈ rs → inf.pre.testBit j = false → b ∉ ([] : List Nat) := fun _ _ _ _ hb => by cases hb
  unfold dops at h
  cases hw : wantedA ops ts o with
  | false =>
   rw [hw] at h
   exact glue _ _ [] none _ _ _ h (.skip hw) (fun _ h => h) (fun _ h => h) (fun h => absurd rfl h) (fun _ h => by cases h) nil1 nil2
  | true =>
   rw [hw] at h
   simp only [cond_true] at h
   cases hc : cls P o.op with
   | l =>
    rw [hcl, hc] at h
    simp only at h
    split at h
    ·rename_i v hv
     exact glue _ _ [] none _ _ _ h (.imm hw hc hv) (fun _ h => h) (fun _ h => h) (fun h => absurd rfl h) (fun _ h => by cases h) nil1 nil2
    ·rename_i b f hv
     split at h
     ·rename_i v hb
      cases hfull : (inf.full && seenB inf.pre b as) with
      | true =>
       rw [hfull] at h
       simp only [Bool.and_eq_true] at hfull
       exact glue _ _ [] none _ _ _ h (.full hw hc hv hb hfull.1 hfull.2) (fun _ h => h) (fun _ h => h) (fun h => absurd rfl h) (fun _ h => by cases h) nil1 nil2
      | false =>
       rw [hfull] at h
       simp only [cond_false] at h
       obtain ⟨hcond, h⟩ := bif_some h
       simp only [Bool.and_eq_true, nblt, decide_eq_true_eq] at hcond
       refine glue _ _ [] (some b) _ _ _ h (.read hw hc hv hb hcond.1) (fun _ h => h) (fun _ h => List.mem_cons_of_mem _ h) (fun h => absurd rfl h) (fun b' h => ?_) (fun h w hm hp b' hb' => ?_) nil2
       ·cases h
        rw [hi]
        exact List.mem_cons_self
       cases hb'
       exact readOk_spec hcond.2 h w hm hp
     cases h
    cases h
   | h =>
    rw [hcl, hc] at h
    simp only at h
    obtain ⟨hk, h⟩ := bif_some h
    simp only [Bool.and_eq_true] at hk
    split at h
    ·rename_i v m1 hd
     obtain ⟨hwo, h⟩ := bif_some h
     refine glue _ _ m1.log none _ _ _ h (.call hw hc hk.1 hk.2 hd) (fun _ h => List.mem_cons_of_mem _ h) (fun _ h => h) (fun _ => ?_) (fun _ h => by cases h) nil1 (fun j b hm hp => writeOk_spec hwo j b hm hp)
     rw [hi]
     exact List.mem_cons_self
    cases h
   | p =>
    rw [hcl, hc] at h
    simp only at h
    split at h
    ·rename_i v m1 hd
     unfold doOp at hd
     rw [hc] at hd
     simp only [doP] at hd
     split at hd
     ·rename_i v2 hv
      cases hd
      exact glue _ _ [] none _ _ _ h (.pure hw hc hv) (fun _ h => h) (fun _ h => h) (fun h => absurd rfl h) (fun _ h => by cases h) nil1 nil2
     cases hd
    cases h
   | a =>
    rw [hcl, hc] at h
    simp only at h
    split at h
    ·rename_i v m1 hd
     unfold doOp at hd
     rw [hc] at hd
     simp only [doA] at hd
     split at hd
     ·rename_i x f hv
      cases hd
      exact glue _ _ [] none _ _ _ h (.make hw hc hv) (fun _ h => h) (fun _ h => h) (fun h => absurd rfl h) (fun _ h => by cases h) nil1 nil2
     cases hd
    cases h
end
end Go.Ab
namespace Go.Ab
variable [Vals]
section
variable {P : Program} [FactsOk P] {self : Self}
theorem Rel.beside (hr : Rel P ρ m w) (hsub : ∀ c y, mA.heap.get c = some y → m.heap.get c = some y) (h1 : Rel P ρ' m1 w') (g : Grow ρ ρ' mA m1 w w') (X : Nat → Prop) (hX : ∀ c, X c → mA.heap.get c = none)
  (hpl : ∀ c y, X c → m.heap.get c = some y → mateOf y = none ∧ isRo y = false) (h' : ∀ c y, m'.heap.get c = some y → (X c ∧ m.heap.get c = some y) ∨ (¬ X c ∧ m1.heap.get c = some y)) :
  Rel P ρ' m' w' ∧ (∀ B, Own ρ' m' B → Own ρ' m1 B ∨ Own ρ m B) ∧ (∀ B, Occ ρ' m' B → Occ ρ' m1 B ∨ Occ ρ m B) := by
 have hapart : ∀ c d x y s t, X c → m.heap.get c = some x → m1.heap.get d = some y → ρ c = some s → ρ' d = some t → s.blk = t.blk → False := by
  intro c d x y s t hc hx hy hs ht hst
  rcases g.occ t.blk ⟨d, y, t, hy, ht, rfl⟩ with ⟨e, z, u, u1, u2, u3⟩ | h5
  ·have hne : c ≠ e := by
    rintro rfl
    rw [hX c hc] at u1
    cases u1
   rcases hr.sep c e x z s u hne hx (hsub _ _ u1) hs u2 (by rw [u3]; exact hst) with h6 | h6
   ·rw [(hpl c x hc hx).1] at h6
    cases h6.1
   rw [(hpl c x hc hx).2] at h6
   cases h6.1
  have := hr.inb _ _ hs
  omega
 have hkeep : ∀ c x s, X c → m.heap.get c = some x → ρ c = some s → w'.heap[s.blk]? = w.heap[s.blk]? := by
  intro c x s hc hx hs
  refine g.keep s.blk (hr.inb _ _ hs) ?_
  rintro ⟨e, z, u, u1, u2, u3, u4⟩
  have hne : c ≠ e := by
   rintro rfl
   rw [hX c hc] at u1
   cases u1
  rcases hr.sep c e x z s u hne hx (hsub _ _ u1) hs u3 u4.symm with h6 | h6
  ·rw [(hpl c x hc hx).1] at h6
   cases h6.1
  rw [u2] at h6
  cases h6.2
 have hback : ∀ c x t, X c → m.heap.get c = some x → ρ' c = some t → ρ c = some t := by
  intro c x t hc hx ht
  obtain ⟨s, _, r1, _⟩ := hr.obj _ _ hx
  rw [g.le _ _ r1] at ht
  cases ht
  exact r1
 refine ⟨⟨fun c y hy => ?_, fun c1 c2 y1 y2 s1 s2 hne g1 g2 r1 r2 hs => ?_, h1.glob, h1.inb⟩, ?_, ?_⟩
 ·rcases h' c y hy with ⟨e1, e2⟩ | ⟨_, e1⟩
  ·obtain ⟨s, z, r1, r2, r3⟩ := hr.obj _ _ e2
   exact ⟨s, z, g.le _ _ r1, by rw [hkeep c y s e1 e2 r1]; exact r2, r3.mono g.le⟩
  exact h1.obj c y e1
 ·rcases h' c1 y1 g1 with ⟨e1, e2⟩ | ⟨_, e1⟩
  ·rcases h' c2 y2 g2 with ⟨f1, f2⟩ | ⟨_, f1⟩
   ·exact hr.sep _ _ _ _ _ _ hne e2 f2 (hback _ _ _ e1 e2 r1) (hback _ _ _ f1 f2 r2) hs
   exact (hapart c1 c2 y1 y2 s1 s2 e1 e2 f1 (hback _ _ _ e1 e2 r1) r2 hs).elim
  rcases h' c2 y2 g2 with ⟨f1, f2⟩ | ⟨_, f1⟩
  ·exact (hapart c2 c1 y2 y1 s2 s1 f1 f2 e1 (hback _ _ _ f1 f2 r2) r1 hs.symm).elim
  exact h1.sep c1 c2 y1 y2 s1 s2 hne e1 f1 r1 r2 hs
 ·rintro B ⟨c, y, t, e1, e2, e3, e4⟩
  rcases h' c y e1 with ⟨f1, f2⟩ | ⟨_, f1⟩
  ·exact .inr ⟨c, y, t, f2, e2, hback _ _ _ f1 f2 e3, e4⟩
  exact .inl ⟨c, y, t, f1, e2, e3, e4⟩
 rintro B ⟨c, y, t, e1, e3, e4⟩
 rcases h' c y e1 with ⟨f1, f2⟩ | ⟨_, f1⟩
 ·exact .inr ⟨c, y, t, f2, hback _ _ _ f1 f2 e3, e4⟩
 exact .inl ⟨c, y, t, f1, e3, e4⟩
theorem plainO_spec (h : plainO (some x) = true) : mateOf x = none ∧ isRo x = false := by
 cases x with
 | cells cs e g md mt => cases md <;> cases mt <;> simp_all [plainO, mateOf, isRo]
 | deferred => simp [plainO] at h
 | _ => exact ⟨rfl, rfl⟩
theorem DStep.does (h : DStep P self n ops base lo o inf ts m as ts' m' lg rd as') :
    (wantedA ops ts o = false ∧ ts' = put n ts o.dst undef ∧ m' = m) ∨
    (wantedA ops ts o = true ∧ ∃ v mm m1, (∀ c y, mm.heap.get c = some y → m.heap.get c = some y) ∧ mm.next = m.next ∧ doOp P self ts o.op mm = some (.val v m1) ∧ ts' = put n ts o.dst v ∧ m'.next = m1.next ∧
      ∃ X : Nat → Prop, (∀ c, X c → mm.heap.get c = none) ∧ (∀ c y, X c → m.heap.get c = some y → mateOf y = none ∧ isRo y = false) ∧ ∀ c, (X c → m'.heap.get c = m.heap.get c) ∧ (¬ X c → m'.heap.get c = m1.heap.get c)) := by
  have plain : ∀ v (m1 : AW), wantedA ops ts o = true → doOp P self ts o.op m = some (.val v m1) → ts' = put n ts o.dst v → m' = m1 →
      (wantedA ops ts o = true ∧ ∃ v mm m1, (∀ c y, mm.heap.get c = some y → m.heap.get c = some y) ∧ mm.next = m.next ∧ doOp P self ts o.op mm = some (.val v m1) ∧ ts' = put n ts o.dst v ∧ m'.next = m1.next ∧
        ∃ X : Nat → Prop, (∀ c, X c → mm.heap.get c = none) ∧ (∀ c y, X c → m.heap.get c = some y → mateOf y = none ∧ isRo y = false) ∧ ∀ c, (X c → m'.heap.get c = m.heap.get c) ∧ (¬ X c → m'.heap.get c = m1.heap.get c)) := by
    rintro v m1 hw hd ht rfl
    exact ⟨hw, v, m, m', fun _ _ h => h, rfl, hd, ht, rfl, fun _ => False, fun _ h => h.elim, fun _ _ h => h.elim, fun _ => ⟨fun h => h.elim, fun _ => rfl⟩⟩
  cases h with
  | skip hw => exact .inl ⟨hw, rfl, rfl⟩
  | pure hw hc h => exact .inr (plain _ _ hw (by unfold doOp; rw [hc]; simp only [doP, h]) rfl rfl)
  | imm hw hc h => exact .inr (plain _ _ hw (by unfold doOp; rw [hc]; simp only [doL, h]) rfl rfl)
  | full hw hc h hv hf hsn => exact .inr (plain _ _ hw (by unfold doOp; rw [hc]; simp only [doL, h, hv]) rfl rfl)
  | read hw hc h hv hb => exact .inr (plain _ _ hw (by unfold doOp; rw [hc]; simp only [doL, h, hv]) rfl rfl)
  | make hw hc h => exact .inr (plain _ _ hw (by unfold doOp; rw [hc]; simp only [doA, h]) rfl rfl)
  | call hw hc hk hp h =>
    refine .inr ⟨hw, _, ⟨hideB inf.pre as m.heap, m.next, base, []⟩, _, fun c y hy => ?_, rfl, h, rfl, rfl, fun c => ∃ j, (j, c) ∈ as ∧ inf.pre.testBit j = false, fun c ⟨j, h1, h2⟩ => hide_in h1 h2, fun c y ⟨j, h1, h2⟩ hy => ?_, fun c => ⟨fun ⟨j, h1, h2⟩ => show_in h1 h2, fun hno => ?_⟩⟩
    · by_cases hx : ∃ j, (j, c) ∈ as ∧ inf.pre.testBit j = false
      · obtain ⟨j, h1, h2⟩ := hx
        rw [show (hideB inf.pre as m.heap).get c = none from hide_in h1 h2] at hy
        cases hy
      · rwa [show (hideB inf.pre as m.heap).get c = m.heap.get c from hide_out fun j hj => by
          cases hp2 : inf.pre.testBit j with
          | true => rfl
          | false => exact absurd ⟨j, hj, hp2⟩ hx] at hy
    · have := plain_in hp h1 h2
      rw [hy] at this
      exact plainO_spec this
    · refine show_out fun j hj => ?_
      cases hp2 : inf.pre.testBit j with
      | true => rfl
      | false => exact absurd ⟨j, hj, hp2⟩ hno
section
variable (hM : ∀ fr t m out, self fr t m = some out → Mono m out.m) (hS : ∀ fr t m out, self fr t m = some out → Sound P fr t m out)
include hM
theorem DStep.next (h : DStep P self n ops base lo o inf ts m as ts' m' lg rd as') : m.next ≤ m'.next := by
 rcases h.does with ⟨_, _, rfl⟩ | ⟨_, v, mm, m1, _, h2, h3, _, h4, _⟩
 ·exact Nat.le_refl _
 rw [h4, ← h2]
 exact (doOp_mono hM h3).next
theorem trace_next {n : Nat} {ops : Array Oper} {base lo : Nat} {l : List (Oper × Info)} {T : Nat → Tr Value} {M : Nat → AW} {L : Nat → List Nat} {R : Nat → Option Nat} {A : Nat → List (Nat × Nat)} (h : DTrace P self n ops base lo 0 l T M L R A) : ∀ (d i : Nat), i + d ≤ l.length → (M i).next ≤ (M (i + d)).next
 | 0, i, _ => Nat.le_refl _
 | d + 1, i, hd => by
  have h1 := trace_next h d i (by omega)
  have hlt : i + d < l.length := by omega
  have h2 := h.1 (i + d) (l[i + d]).1 (l[i + d]).2 (by omega) (by rw [Nat.sub_zero, List.getElem?_eq_getElem hlt])
  exact Nat.le_trans h1 (h2.next hM)
include hS
theorem ghost_run {n : Nat} {ops : Array Oper} {base lo : Nat} {l : List (Oper × Info)} {T : Nat → Tr Value} {M : Nat → AW} {L : Nat → List Nat} {R : Nat → Option Nat} {A : Nat → List (Nat × Nat)} (h : DTrace P self n ops base lo 0 l T M L R A) (hl : ∀ (k : Nat) o inf, l[k]? = some (o, inf) → ops[k]? = some o) {ρ0 : Ren} {w0 : World} {a0 : Act}
  (hr : Rel P ρ0 (M 0) w0) (hf : Fresh ρ0 (M 0) (M l.length)) (ht : TsRel ρ0 n (T 0) a0.tmps) : ∀ (k : Nat), k ≤ l.length → ∃ (ρ : Ren) (w : World) (a : Act), Rel P ρ (M k) w ∧ Fresh ρ (M k) (M l.length) ∧ TsRel ρ n (T k) a.tmps
 | 0, _ => ⟨ρ0, w0, a0, hr, hf, ht⟩
 | k + 1, hk => by
  obtain ⟨ρ, w, a, q1, q2, q3⟩ := ghost_run h hl hr hf ht k (by omega)
  have hlt : k < l.length := by omega
  have hget : l[k]? = some (l[k].1, l[k].2) := by rw [List.getElem?_eq_getElem hlt]
  have hst := h.1 k _ _ (by omega) (by rw [Nat.sub_zero]; exact hget)
  have ho := hl k _ _ hget
  have hnx := trace_next hM h (l.length - (k + 1)) (k + 1) (by omega)
  rw [show k + 1 + (l.length - (k + 1)) = l.length by omega] at hnx
  have hw := wanted_rel q3 ops l[k].1
  rcases hst.does with ⟨_, h2, h3⟩ | ⟨hwt, v, mm, m1, h1, h2, h3, h4, h6, X, x1, x2, x3⟩
  ·rw [h2, h3]
   exact ⟨ρ, w, a.put l[k].1.dst undef, q1, q2, q3.put (undef_rel _) _⟩
  have hrm : Rel P ρ mm w := q1.sub h1
  have hE : ERel P ρ (T k) a.eval := erel_of q3 q1.glob
  rw [hwt] at hw
  have hfm : Fresh ρ mm m1 := fun i x y => q2 i (by rw [← h2]; exact x) (by rw [← h6] at y; omega)
  obtain ⟨ρ', w', v', _, r2, r3, r4⟩ := op_follows (b := baseFr 0) (k := []) (cs := []) (rest := []) hS ho hw.symm rfl hE hrm h3 hfm
  have hb := Rel.beside (m' := M (k + 1)) q1 h1 r2 r3 X x1 x2 fun c y hy => by
   by_cases hx : X c
   ·exact .inl ⟨hx, by rw [← (x3 c).1 hx]; exact hy⟩
   exact .inr ⟨hx, by rw [← (x3 c).2 hx]; exact hy⟩
  refine ⟨ρ', w', a.put l[k].1.dst v', hb.1, fun i x y => ?_, ?_⟩
  ·rw [r3.only i (.inr (by rw [← h6]; exact x))]
   have := r3.next
   exact q2 i (by rw [← h2]; omega) y
  rw [h4]
  exact (q3.mono r3.le).put r4 _
theorem no_junk (h : DTrace P self n ops base lo 0 l T M L R A) (hl : ∀ (k : Nat) o inf, l[k]? = some (o, inf) → ops[k]? = some o) {a0 : Act}
  (hr : Rel P ρ0 (M 0) w0) (hf : Fresh ρ0 (M 0) (M l.length)) (ht : TsRel ρ0 n (T 0) a0.tmps) (hk : k ≤ l.length) (h1 : (M k).next ≤ b) (h2 : b < (M l.length).next) : (M k).heap.get b = none := by
 obtain ⟨ρ, w, a, q1, q2, q3⟩ := ghost_run hM hS h hl hr hf ht k hk
 cases hg : (M k).heap.get b with
 | none => rfl
 | some o =>
  obtain ⟨s, x, r1, _⟩ := q1.obj b o hg
  rw [q2 b h1 h2] at r1
  cases r1
end
end
end Go.Ab
namespace Go.Ab
variable [Vals]
def preOf (acc : List Nat) (o : Oper) : Nat := o.after.toList.foldl (fun s e => bif Region.binds .any e then s ||| (2 ^ e.on) ||| (acc.getD e.on 0) else s) 0
theorem predsGo_eq : ∀ (os : List Oper) (acc : List Nat), predsGo os acc = match os with | [] => acc | o :: os => predsGo os (acc ++ [preOf acc o])
 | [], _ => rfl
 | _ :: _, _ => rfl
theorem predsGo_spec : ∀ (os : List Oper) (acc : List Nat), (predsGo os acc).length = acc.length + os.length ∧ (∀ i, i < acc.length → (predsGo os acc)[i]? = acc[i]?) ∧
  ∀ k o, os[k]? = some o → (predsGo os acc)[acc.length + k]? = some (preOf ((predsGo os acc).take (acc.length + k)) o)
 | [], acc => ⟨by simp [predsGo], fun _ _ => rfl, fun k o h => by simp at h⟩
 | o :: os, acc => by
  rw [predsGo_eq]
  obtain ⟨h1, h2, h3⟩ := predsGo_spec os (acc ++ [preOf acc o])
  have hlen : (acc ++ [preOf acc o]).length = acc.length + 1 := by simp
  have htake : (predsGo os (acc ++ [preOf acc o])).take acc.length = acc := by
   apply List.ext_getElem?
   intro i
   rw [List.getElem?_take]
   by_cases hi : i < acc.length
   ·rw [if_pos hi, h2 i (by omega), List.getElem?_append_left hi]
   rw [if_neg hi, List.getElem?_eq_none (by omega)]
  refine ⟨by rw [h1, hlen]; simp; omega, fun i hi => by rw [h2 i (by omega), List.getElem?_append_left hi], fun k o' hk => ?_⟩
  cases k with
  | zero =>
   simp only [List.getElem?_cons_zero, Option.some.injEq] at hk
   subst hk
   rw [Nat.add_zero, htake, h2 acc.length (by omega)]
   simp
  | succ k =>
   have := h3 k o' (by simpa using hk)
   rw [hlen] at this
   rw [show acc.length + (k + 1) = acc.length + 1 + k by omega]
   exact this
theorem bits_fold (acc : List Nat) (j : Nat) : ∀ (es : List Edge) (s : Nat), (es.foldl (fun s e => bif Region.binds .any e then s ||| (2 ^ e.on) ||| (acc.getD e.on 0) else s) s).testBit j = true →
  s.testBit j = true ∨ ∃ e ∈ es, Region.binds .any e = true ∧ (j = e.on ∨ (acc.getD e.on 0).testBit j = true)
 | [], s, h => .inl h
 | e :: es, s, h => by
  rw [List.foldl_cons] at h
  rcases bits_fold acc j es _ h with h1 | ⟨e', h1, h2⟩
  ·cases hb : Region.binds .any e with
   | true =>
    rw [hb] at h1
    simp only [cond_true, Nat.testBit_or, Bool.or_eq_true, Nat.testBit_two_pow, decide_eq_true_eq] at h1
    rcases h1 with (h1 | h1) | h1
    ·exact .inl h1
    ·exact .inr ⟨e, List.mem_cons_self, hb, .inl h1.symm⟩
    exact .inr ⟨e, List.mem_cons_self, hb, .inr h1⟩
   | false =>
    rw [hb] at h1
    exact .inl h1
  exact .inr ⟨e', List.mem_cons_of_mem _ h1, h2⟩
theorem pre_spec (ho : os[i]? = some o) (h : ((preds os).getD i 0).testBit j = true) : ∃ e ∈ o.after, Region.binds .any e = true ∧ (j = e.on ∨ ((preds os).getD e.on 0).testBit j = true) := by
 obtain ⟨h1, _, h3⟩ := predsGo_spec os []
 have hi := h3 i o ho
 simp only [List.length_nil, Nat.zero_add] at hi
 have e1 : (preds os).getD i 0 = preOf ((preds os).take i) o := by
  unfold preds
  rw [List.getD_eq_getElem?_getD, hi]
  rfl
 rw [e1] at h
 rcases bits_fold _ j _ 0 h with h2 | ⟨e, q1, q2, q3⟩
 ·simp at h2
 refine ⟨e, by simpa using q1, q2, q3.imp id fun q4 => ?_⟩
 rw [List.getD_eq_getElem?_getD, List.getElem?_take] at q4
 split at q4
 ·rw [List.getD_eq_getElem?_getD]
  exact q4
 simp at q4
structure InfoOk (P : Program) (ops : Array Oper) (i : Nat) (o : Oper) (inf : Info) : Prop where
 at_ : ops[i]? = some o
 num : inf.i = i
 kind : inf.cls = Ab.cls P o.op
 prec : inf.pre = (preds ops.toList).getD i 0
 fullOk : inf.full = true → ∀ (j : Nat) (oj : Oper), ops[j]? = some oj → Ab.cls P oj.op = .h → j = i ∨ ((preds ops.toList).getD i 0).testBit j = true ∨ ((preds ops.toList).getD j 0).testBit i = true
 hokOk : inf.hok = true → ∀ (j : Nat) (oj : Oper), j < i → ops[j]? = some oj → Ab.cls P oj.op = .h → ((preds ops.toList).getD i 0).testBit j = true
theorem infos_ok [FactsOk P] (h : (ops.toList.zip (infos P ops.toList))[i]? = some (o, inf)) : InfoOk P ops i o inf := by
 rw [List.getElem?_zip_eq_some] at h
 obtain ⟨h1, h2⟩ := h
 have ho : ops[i]? = some o := by simpa using h1
 have hlt : i < ops.size := (Array.getElem?_eq_some_iff.1 ho).1
 simp only [infos, Array.length_toList] at h2
 rw [List.getElem?_map, List.getElem?_range hlt] at h2
 simp only [Option.map_some, Option.some.injEq] at h2
 have hc : ∀ (j : Nat) (oj : Oper), ops[j]? = some oj → (ops.toList.map fun o => Ab.cls P o.op).getD j .h = Ab.cls P oj.op := by
  intro j oj hj
  rw [List.getD_eq_getElem?_getD, List.getElem?_map]
  have : ops.toList[j]? = some oj := by simpa using hj
  rw [this]
  rfl
 subst h2
 refine ⟨ho, rfl, hc i o ho, rfl, fun hf j oj hj hcl => ?_, fun hk j oj hji hj hcl => ?_⟩
 ·have hjl : j < ops.size := (Array.getElem?_eq_some_iff.1 hj).1
  have := List.all_eq_true.1 hf j (List.mem_range.2 hjl)
  rw [hc j oj hj] at this
  rw [hcl] at this
  simp only [nbeq, Bool.or_eq_true, decide_eq_true_eq] at this
  rcases this with (h | h) | h
  ·exact .inl h
  ·exact .inr (.inl h)
  exact .inr (.inr h)
 have := List.all_eq_true.1 hk j (List.mem_range.2 hji)
 rw [hc j oj hj] at this
 rw [hcl] at this
 exact this
end Go.Ab