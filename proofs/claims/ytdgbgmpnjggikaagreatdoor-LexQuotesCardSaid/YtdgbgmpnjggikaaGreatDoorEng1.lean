/-
  The engine, part 1: an interpreter over abstract memories, and the proof that the model's machine does what it reckons. Conditions: none.
-/
import Derived.Test.YtdgbgmpnjggikaaGreatDoorEng0
import Derived.Laws.BytesString
import Derived.Laws.Cover4

set_option autoImplicit true
set_option relaxedAutoImplicit true
set_option linter.unusedSectionVars false
set_option linter.unusedVariables false
set_option linter.unusedSimpArgs false
namespace Go.Ab
variable [Vals]
section
variable {P : Program} {ρ : Ren} {w : World}
theorem putCells_length : ∀ (a : List Value) (i : Nat) (b : List Value), i + b.length ≤ a.length → (putCells a i b).length = a.length
 | _, 0, b, h => by simp [putCells] at h ⊢; omega
 | [], i + 1, b, h => by simp [putCells]
 | x :: a, i + 1, b, h => by simp [putCells]; exact putCells_length a i b (by simp at h; omega)
theorem putCells_nil : ∀ (a : List Value) (i : Nat), putCells a i [] = a
 | _, 0 => by simp [putCells]
 | [], i + 1 => by simp [putCells]
 | x :: a, i + 1 => by simp [putCells, putCells_nil a i]
theorem putCells_cons : ∀ (a : List Value) (i : Nat) (v : Value) (b : List Value), i + (b.length + 1) ≤ a.length → putCells a i (v :: b) = putCells (a.set i v) (i + 1) b
 | [], 0, v, b, h => by simp at h
 | x :: a, 0, v, b, h => by simp [putCells]
 | [], i + 1, v, b, h => by simp at h
 | x :: a, i + 1, v, b, h => by
  simp only [putCells, List.set_cons_succ]
  rw [putCells_cons a i v b (by simp at h; omega)]
theorem foldl_set : ∀ (vs : List Value) (j off : Nat) (cs : List Value), off + j + vs.length ≤ cs.length →
  (vs.zipIdx j).foldl (fun (cs : Array Value) (x : Value × Nat) => cs.setIfInBounds (off + x.2) x.1) ⟨cs⟩ = ⟨putCells cs (off + j) vs⟩
 | [], j, off, cs, _ => by simp [putCells_nil]
 | v :: vs, j, off, cs, h => by
  simp only [List.zipIdx_cons, List.foldl_cons]
  have e : (⟨cs⟩ : Array Value).setIfInBounds (off + j) v = ⟨cs.set (off + j) v⟩ := by
   apply Array.ext'; simp
  rw [e, foldl_set vs (j + 1) off _ (by simp at h ⊢; omega), putCells_cons cs (off + j) v vs (by simp at h; omega)]
  rfl
theorem cells_eq (v : Value) : v.cells = ⟨cellsOfV v⟩ := by cases v <;> rfl
theorem fill_eq (place : Nat → Option (Nat × Nat)) : ∀ (parts : List (Nat × Value)) (cs out : List Value), buildFill place cs parts = some out → Instr.fill place ⟨cs⟩ parts = some ⟨out⟩
 | [], cs, out, h => by simp only [buildFill, Option.some.injEq] at h; subst h; rfl
 | (i, v) :: rest, cs, out, h => by
  unfold buildFill at h
  unfold Instr.fill
  cases hp : place i with
  | none => simp [hp] at h
  | some os =>
   obtain ⟨off, size⟩ := os
   simp only [hp] at h ⊢
   obtain ⟨hc, h⟩ := bif_some h
   simp only [nbeq, nble, Bool.and_eq_true, decide_eq_true_eq] at hc
   have hs : v.cells.size = (cellsOfV v).length := by rw [cells_eq]; rfl
   rw [if_neg (by rw [hs]; simp only [ne_eq, Bool.or_eq_true, decide_eq_true_eq, not_or]; constructor <;> (try omega) <;> (simp; omega))]
   have e : (v.cells.zipIdx.foldl (fun (cs : Array Value) (x : Value × Nat) => cs.setIfInBounds (off + x.2) x.1) ⟨cs⟩) = ⟨putCells cs off (cellsOfV v)⟩ := by
    rw [cells_eq, ← Array.foldl_toList]
    have := foldl_set (cellsOfV v) 0 off cs (by omega)
    simpa using this
   have e2 : (v.cells.zipIdx.foldl (fun cs (x, j) => cs.setIfInBounds (off + j) x) (⟨cs⟩ : Array Value)) = ⟨putCells cs off (cellsOfV v)⟩ := e
   rw [e2]
   exact fill_eq place rest _ _ h
inductive PsRel (ρ : Ren) : List (Nat × Value) → List (Nat × Value) → Prop where
 | nil : PsRel ρ [] []
 | cons {i : Nat} {v v' : Value} {l l' : List (Nat × Value)} (h : VRel ρ v v') (hs : PsRel ρ l l') : PsRel ρ ((i, v) :: l) ((i, v') :: l')
theorem buildFill_rel (hp : PsRel ρ parts parts') : ∀ {cs cs' out : List Value}, buildFill place cs parts = some out → VsRel ρ cs cs' →
  ∃ out', buildFill place cs' parts' = some out' ∧ VsRel ρ out out' := by
 induction hp with
 | nil =>
  intro cs cs' out h hc
  simp only [buildFill, Option.some.injEq] at h
  subst h
  exact ⟨cs', rfl, hc⟩
 | cons hv hs ih =>
  rename_i i v v' l l'
  intro cs cs' out h hc
  unfold buildFill at h ⊢
  cases hp : place i with
  | none => simp [hp] at h
  | some os =>
   obtain ⟨off, size⟩ := os
   simp only [hp] at h ⊢
   obtain ⟨hb, h⟩ := bif_some h
   have hl := hv.cells.length_eq
   rw [← hl, ← hc.length_eq, hb]
   exact ih h (hc.putCells off hv.cells)
theorem mapM_fields : ∀ (fs : List Field) (w : World), (fs.all fun f => (sizeT P f.type).isSome) = true →
  (fs.mapM (fun f => (do pure (f.offset, ← sizeOf f.type) : Sem (Nat × Nat)))).run P w = .ok (fs.map fun f => (f.offset, (sizeT P f.type).getD 0)) w
 | [], w, _ => by simp
 | f :: fs, w, h => by
  simp only [List.all_cons, Bool.and_eq_true] at h
  obtain ⟨n, hn⟩ := Option.isSome_iff_exists.1 h.1
  rw [List.mapM_cons]
  simp only [Sem.run_bind, run_size hn, Result.andThen_ok, Sem.run_pure, mapM_fields fs w h.2, List.map_cons, hn, Option.getD_some]
theorem buildA_rel (h : buildA P t parts = some v) (hp : PsRel ρ parts parts') : Yields P ρ (Instr.build t ⟨parts'⟩) v := by
 intro w
 unfold buildA at h
 obtain ⟨z, hz, h⟩ := Option.bind_eq_some_iff.1 h
 unfold Instr.build
 simp only [Sem.run_bind, run_zero hz, Result.andThen_ok, cells_eq]
 split at h
 ·rename_i fs ht
  obtain ⟨hall, h⟩ := bif_some h
  obtain ⟨out, ho, rfl⟩ := Option.map_eq_some_iff.1 h
  obtain ⟨out', ho', hr⟩ := buildFill_rel hp ho (zero_rel hz).cells
  refine ⟨.agg ⟨out'⟩, ?_, .agg hr⟩
  simp only [run_und ht, Result.andThen_ok]
  have hm : (fs.mapM (fun f => (do pure (f.offset, ← sizeOf f.type) : Sem (Nat × Nat)))).run P w = .ok ⟨fs.toList.map fun (f : Field) => (f.offset, (sizeT P f.type).getD 0)⟩ w := by
   rw [Array.mapM_eq_mapM_toList, Sem.run_map, mapM_fields fs.toList w hall]
   rfl
  simp only [Sem.run_bind] at hm ⊢
  rw [hm]
  simp only [Result.andThen_ok]
  have hpl : (fun (i : Nat) => (⟨fs.toList.map fun (f : Field) => (f.offset, (sizeT P f.type).getD 0)⟩ : Array (Nat × Nat))[i]?) = fun (i : Nat) => (fs[i]?).bind fun (f : Field) => (sizeT P f.type).map fun n => (f.offset, n) := by
   funext i
   have e : (⟨fs.toList.map fun (f : Field) => (f.offset, (sizeT P f.type).getD 0)⟩ : Array (Nat × Nat))[i]? = (fs.toList.map fun (f : Field) => (f.offset, (sizeT P f.type).getD 0))[i]? := by simp
   rw [e, List.getElem?_map]
   have e2 : fs.toList[i]? = fs[i]? := by simp
   rw [e2]
   cases hf : fs[i]? with
   | none => rfl
   | some f =>
    have hmem : f ∈ fs.toList := by
     have := Array.mem_of_getElem? hf
     simpa using this
    obtain ⟨n, hn⟩ := Option.isSome_iff_exists.1 (List.all_eq_true.1 hall f hmem)
    simp [hn]
  rw [hpl, fill_eq _ _ _ _ ho']
  rfl
 ·rename_i len e ht
  obtain ⟨n, hn, h⟩ := Option.bind_eq_some_iff.1 h
  obtain ⟨out, ho, rfl⟩ := Option.map_eq_some_iff.1 h
  obtain ⟨out', ho', hr⟩ := buildFill_rel hp ho (zero_rel hz).cells
  refine ⟨.agg ⟨out'⟩, ?_, .agg hr⟩
  simp only [run_und ht, Result.andThen_ok, Sem.run_bind, run_size hn]
  rw [fill_eq _ _ _ _ ho']
  rfl
 simp at h
end
end Go.Ab
namespace Go.Ab
variable [Vals]
section
variable {P : Program} {ρ : Ren} {ts : Tr Value} {e : Operand → Value}
def ERel (P : Program) (ρ : Ren) (ts : Tr Value) (e : Operand → Value) : Prop := ∀ x v, ev P ts x = some v → VRel ρ v (e x)
theorem ERel.list (hE : ERel P ρ ts e) : ∀ {xs : List Operand} {vs : List Value}, evs P ts xs = some vs → VsRel ρ vs (xs.map e)
 | [], vs, h => by simp only [evs, Option.some.injEq] at h; subst h; exact .nil
 | x :: xs, vs, h => by
  unfold evs at h
  obtain ⟨v, hv, h⟩ := Option.bind_eq_some_iff.1 h
  obtain ⟨us, hu, h⟩ := Option.bind_eq_some_iff.1 h
  simp only [Option.some.injEq] at h
  subst h
  exact .cons (hE _ _ hv) (ERel.list hE hu)
theorem ERel.parts (hE : ERel P ρ ts e) : ∀ {xs : List (Nat × Operand)} {vs : List (Nat × Value)}, evParts P ts xs = some vs → PsRel ρ vs (xs.map fun x => (x.1, e x.2))
 | [], vs, h => by simp only [evParts, Option.some.injEq] at h; subst h; exact .nil
 | (i, x) :: xs, vs, h => by
  unfold evParts at h
  obtain ⟨v, hv, h⟩ := Option.bind_eq_some_iff.1 h
  obtain ⟨us, hu, h⟩ := Option.bind_eq_some_iff.1 h
  simp only [Option.some.injEq] at h
  subst h
  exact .cons (hE _ _ hv) (ERel.parts hE hu)
theorem ERel.opt (hE : ERel P ρ ts e) (h : evo P ts x = some v) : ORel ρ v (x.map e) := by
 cases x with
 | none => simp only [evo, Option.some.injEq] at h; subst h; exact .none
 | some x =>
  simp only [evo] at h
  split at h
  ·rename_i u hu
   simp only [Option.some.injEq] at h
   subst h
   exact .some (hE _ _ hu)
  simp at h
theorem map_arr (a : Array Operand) (e : Operand → Value) : a.map e = ⟨a.toList.map e⟩ := by apply Array.ext'; simp
def YieldsOp (P : Program) (ρ : Ren) (e : Operand → Value) (o : Oper) (v : Value) : Prop := ∀ w, ∃ v', (execOp e o).run P w = .ok (.value v') w ∧ VRel ρ v v'
theorem lift_yields (h : Yields P ρ s v) : ∀ w, ∃ v', ((do pure (Next.value (← s)) : Sem Next)).run P w = .ok (.value v') w ∧ VRel ρ v v' := by
 intro w
 obtain ⟨v', h1, h2⟩ := h w
 exact ⟨v', by simp only [Sem.run_bind, h1, Result.andThen_ok, Sem.run_pure], h2⟩
theorem methA_nilAhead (h : methA P t n = some f) (k : Nat) (v : Value) (w : World) : (nilAhead (k + 1) t v n).run P w = .ok (some false) w := by
 unfold methA at h
 split at h
 ·rename_i i hi
  split at h
  ·rename_i m hm
   split at h
   ·rename_i hp
    split at h
    ·rename_i f2 pr hf
     split at h
     ·rename_i el hu
      obtain ⟨hpr, h⟩ := bif_some h
      unfold nilAhead
      simp only [typeInfo, hi, Sem.run_bind, run_program, Result.andThen_ok, Sem.run_pure, hm, hp, followBlind, hf, hpr]
     ·rename_i d hnp hu
      cases pr with
      | true => cases h
      | false =>
       unfold nilAhead
       simp only [typeInfo, hi, Sem.run_bind, run_program, Result.andThen_ok, Sem.run_pure, hm, hp, followBlind, hf, run_und hu]
       cases d <;> first | rfl | exact absurd rfl (hnp _)
     cases h
    cases h
   cases h
  cases h
 cases h
theorem methA_method (h : methA P t n = some f) (k : Nat) (v : Value) (w : World) : (method (k + 1) t v n).run P w = .ok (f, v) w := by
 unfold methA at h
 split at h
 ·rename_i i hi
  split at h
  ·rename_i m hm
   split at h
   ·rename_i hp
    split at h
    ·rename_i f2 pr hf
     split at h
     ·rename_i el hu
      obtain ⟨hpr, h⟩ := bif_some h
      cases h
      subst hpr
      unfold method
      simp only [typeInfo, hi, Sem.run_bind, run_program, Result.andThen_ok, Sem.run_pure, hm, hp, follow, hf, receiverAt, run_und hu, Place.get]
     ·rename_i d hnp hu
      cases pr with
      | true => cases h
      | false =>
       cases h
       unfold method
       simp only [typeInfo, hi, Sem.run_bind, run_program, Result.andThen_ok, Sem.run_pure, hm, hp, follow, hf, receiverAt, run_und hu]
       cases d <;> first | rfl | exact absurd rfl (hnp _)
     cases h
    cases h
   cases h
  cases h
 cases h
theorem nilCheckA_rel (h : nilCheckA P (some x) = some v) (hx : VRel ρ x x') : v = x ∧ ∀ (o : Oper) (y : Operand) (e : Operand → Value), o.op = .nilCheck y → e y = x' → ∀ w, (execOp e o).run P w = .ok (.value x') w := by
  by_cases hme : ∃ n t w r c, x = .func (.method n) ⟨.iface t w :: r⟩ ⟨c⟩
  · obtain ⟨n, t, u, r, c, rfl⟩ := hme
    simp only [nilCheckA] at h
    obtain ⟨f, hf, rfl⟩ := Option.map_eq_some_iff.1 h
    refine ⟨rfl, ?_⟩
    intro o y e ho hy w
    cases hx with
    | meth ha hc =>
      cases ha with
      | cons h1 h2 =>
        cases h1 with
        | iface h3 =>
          unfold execOp
          rw [ho]
          rename_i u'
          have hna : (nilAhead (P.types.size + Made.depth) t u' n).run P w = .ok (some false) w := methA_nilAhead hf (P.types.size + 99) u' w
          simp [hy, run_program, hna]
  · unfold nilCheckA at h
    split at h <;> try simp only [Option.some.injEq, reduceCtorEq] at h
    all_goals
      rename_i he
      simp only [Option.some.injEq] at he
      first
        | (refine absurd ?_ hme; exact ⟨_, _, _, _, _, he⟩)
        | (subst he h
           refine ⟨rfl, ?_⟩
           intro o y e ho hy w
           cases hx <;> (unfold execOp; rw [ho]; simp only [hy]; rfl))
theorem callP_rel (hE : ERel P ρ ts e) (ho : o.op = .call c) (h : callP P ts c = some v) : YieldsOp P ρ e o v := by
 intro w
 obtain ⟨callee, args, argTypes⟩ := c
 unfold callP at h
 have key : ∀ (b : Builtin) (s : Sem Value), callee = .builtin b → (∀ cs, builtin b argTypes o.type cs ⟨args.toList.map e⟩ = (do pure (Next.value (← s)))) → Yields P ρ s v → ∃ v', (execOp e o).run P w = .ok (.value v') w ∧ VRel ρ v v' := by
  intro b s hb hs hy
  subst hb
  obtain ⟨v', h1, h2⟩ := lift_yields hy w
  refine ⟨v', ?_, h2⟩
  unfold execOp
  rw [ho]
  simp only [resolve, Sem.run_bind, Sem.run_pure, Result.andThen_ok, invoke, map_arr, hs]
  simpa only [Sem.run_bind, Sem.run_pure] using h1
 split at h
 ·rename_i hc
  simp only at hc h
  cases hv : evs P ts args.toList with
  | none => simp [minMax1, hv] at h
  | some vs =>
   rw [hv] at h
   refine key .min (Builtin.min_ argTypes o.type ⟨args.toList.map e⟩) hc (fun _ => rfl) ?_
   have hr := hE.list hv
   intro w
   generalize args.toList.map e = vs' at hr ⊢
   cases hr with
   | nil => simp [minMax1] at h
   | cons h1 hs =>
    simp only [minMax1] at h
    exact minMax_rel (lt := true) _ h h1 hs w
 ·rename_i hc
  simp only at hc h
  cases hv : evs P ts args.toList with
  | none => simp [minMax1, hv] at h
  | some vs =>
   rw [hv] at h
   refine key .max (Builtin.max_ argTypes o.type ⟨args.toList.map e⟩) hc (fun _ => rfl) ?_
   have hr := hE.list hv
   intro w
   generalize args.toList.map e = vs' at hr ⊢
   cases hr with
   | nil => simp [minMax1] at h
   | cons h1 hs =>
    simp only [minMax1] at h
    exact minMax_rel (lt := false) _ h h1 hs w
 ·rename_i hc
  simp only at hc h
  cases hv : evs P ts args.toList with
  | none => simp [capA, hv] at h
  | some vs =>
   rw [hv] at h
   exact key .cap (Builtin.cap_ argTypes o.type ⟨args.toList.map e⟩) hc (fun _ => rfl) (capA_rel h (hE.list hv))
 ·rename_i hc
  simp only at hc h
  cases hv : evs P ts args.toList with
  | none => simp [sliceDataA, hv] at h
  | some vs =>
   rw [hv] at h
   exact key .unsafeSliceData (Builtin.unsafeSliceData_ argTypes o.type ⟨args.toList.map e⟩) hc (fun _ => rfl) (sliceDataA_rel h (hE.list hv))
 simp at h
theorem opP_rel [FactsOk P] (hE : ERel P ρ ts e) (h : opP P ts o.op = some v) : YieldsOp P ρ e o v := by
 intro w
 cases ho : o.op with
 | move x =>
  rw [ho] at h
  exact ⟨_, by unfold execOp; rw [ho]; rfl, hE _ _ h⟩
 | assign x =>
  rw [ho] at h
  exact ⟨_, by unfold execOp; rw [ho]; rfl, hE _ _ h⟩
 | pick c a b =>
  rw [ho] at h
  simp only [opP, pickA] at h
  split at h
  ·rename_i hc
   have hb := hE _ _ hc
   refine ⟨_, ?_, hE _ _ h⟩
   unfold execOp; rw [ho]
   cases hc2 : e c <;> rw [hc2] at hb <;> cases hb
   simp [hc2, asBool]
  ·rename_i hc
   have hb := hE _ _ hc
   refine ⟨_, ?_, hE _ _ h⟩
   unfold execOp; rw [ho]
   cases hc2 : e c <;> rw [hc2] at hb <;> cases hb
   simp [hc2, asBool]
  simp at h
 | build t parts =>
  rw [ho] at h
  simp only [opP] at h
  obtain ⟨ps, hp, h⟩ := Option.bind_eq_some_iff.1 h
  unfold execOp; rw [ho]
  have e1 : (parts.map fun (x : Nat × Operand) => (x.1, e x.2)) = ⟨parts.toList.map fun x => (x.1, e x.2)⟩ := by apply Array.ext'; simp
  have := lift_yields (buildA_rel h (hE.parts hp)) w
  rw [← e1] at this
  exact this
 | nilCheck x =>
  rw [ho] at h
  simp only [opP] at h
  cases hx : ev P ts x with
  | none => simp [hx, nilCheckA] at h
  | some u =>
   rw [hx] at h
   obtain ⟨rfl, hr⟩ := nilCheckA_rel (P := P) h (hE _ _ hx)
   exact ⟨_, hr o x e ho rfl w, hE _ _ hx⟩
 | binOp op t x y yt =>
  rw [ho] at h
  simp only [opP, bin1] at h
  split at h
  ·rename_i a ha
   split at h
   ·rename_i b hb
    unfold execOp; rw [ho]
    exact lift_yields (binS_rel h (hE _ _ ha) (hE _ _ hb)) w
   simp at h
  simp at h
 | unOp op t x =>
  rw [ho] at h
  simp only [opP] at h
  obtain ⟨u, hu, h⟩ := Option.bind_eq_some_iff.1 h
  unfold execOp; rw [ho]
  exact lift_yields (unS_rel h (hE _ _ hu)) w
 | convert s d x =>
  rw [ho] at h
  simp only [opP] at h
  obtain ⟨u, hu, h⟩ := Option.bind_eq_some_iff.1 h
  unfold execOp; rw [ho]
  exact lift_yields (convS_rel h (hE _ _ hu)) w
 | makeInterface t x =>
  rw [ho] at h
  simp only [opP, ifaceA] at h
  split at h
  ·rename_i u hu
   split at h
   ·simp at h
   ·rename_i d hni ht
    simp only [Option.some.injEq] at h
    subst h
    unfold execOp; rw [ho]
    refine lift_yields (fun w => ⟨_, ?_, .iface (hE _ _ hu)⟩) w
    simp only [Instr.makeInterface, Sem.run_bind, run_und ht, Result.andThen_ok]
    cases d <;> first | exact absurd rfl (hni _) | rfl
   simp at h
  simp at h
 | makeFunc fn first captured =>
  rw [ho] at h
  simp only [opP, funcA] at h
  split at h
  ·split at h
   ·rename_i a ha
    split at h
    ·rename_i b hb
     simp only [Option.some.injEq] at h
     subst h
     unfold execOp; rw [ho]
     exact ⟨_, by simp only [Instr.makeFunc, map_arr]; rfl, .func (hE.list ha) (hE.list hb)⟩
    simp at h
   simp at h
  ·split at h
   ·rename_i a ha
    split at h
    ·rename_i b hb
     simp only [Option.some.injEq] at h
     subst h
     unfold execOp; rw [ho]
     exact ⟨_, by simp only [Instr.makeFunc, map_arr]; rfl, .meth (hE.list ha) (hE.list hb)⟩
    simp at h
   simp at h
  simp at h
 | slice t x l hh m =>
  rw [ho] at h
  simp only [opP, slice1] at h
  split at h
  ·rename_i a ha
   split at h
   ·rename_i b hb
    split at h
    ·rename_i c hc
     split at h
     ·rename_i d hd
      unfold execOp; rw [ho]
      exact lift_yields (sliceA_rel h (hE _ _ ha) (hE.opt hb) (hE.opt hc) (hE.opt hd)) w
     simp at h
    simp at h
   simp at h
  simp at h
 | fieldAddr s x f =>
  rw [ho] at h
  simp only [opP] at h
  obtain ⟨u, hu, h⟩ := Option.bind_eq_some_iff.1 h
  unfold execOp; rw [ho]
  exact lift_yields (fieldAddrA_rel h (hE _ _ hu)) w
 | field t x f =>
  rw [ho] at h
  simp only [opP] at h
  obtain ⟨u, hu, h⟩ := Option.bind_eq_some_iff.1 h
  unfold execOp; rw [ho]
  exact lift_yields (fieldA_rel h (hE _ _ hu)) w
 | indexAddr t x i =>
  rw [ho] at h
  simp only [opP, bind2] at h
  split at h
  ·rename_i a ha
   split at h
   ·rename_i b hb
    unfold execOp; rw [ho]
    exact lift_yields (indexAddrA_rel h (hE _ _ ha) (hE _ _ hb)) w
   simp at h
  simp at h
 | index t x i =>
  rw [ho] at h
  simp only [opP, bind2] at h
  split at h
  ·rename_i a ha
   split at h
   ·rename_i b hb
    unfold execOp; rw [ho]
    exact lift_yields (indexA_rel h (hE _ _ ha) (hE _ _ hb)) w
   simp at h
  simp at h
 | extract t i =>
  rw [ho] at h
  simp only [opP] at h
  obtain ⟨u, hu, h⟩ := Option.bind_eq_some_iff.1 h
  unfold execOp; rw [ho]
  exact lift_yields (extractA_rel h (hE _ _ hu)) w
 | typeAssert x xt t ok =>
  rw [ho] at h
  simp only [opP] at h
  obtain ⟨u, hu, h⟩ := Option.bind_eq_some_iff.1 h
  unfold execOp; rw [ho]
  exact lift_yields (assertA_rel h (hE _ _ hu)) w
 | call c =>
  rw [ho] at h
  simp only [opP] at h
  exact callP_rel hE ho h w
 | _ => rw [ho] at h; simp [opP] at h
end
end Go.Ab
namespace Go.Ab
variable [Vals]
inductive EsRel (ρ : Ren) : List MapEntry → List MapEntry → Prop where
 | nil : EsRel ρ [] []
 | cons {x y : MapEntry} {xs ys : List MapEntry} (hk : VRel ρ x.key y.key) (hv : VRel ρ x.val y.val) (hb : x.born = y.born) (hs : EsRel ρ xs ys) : EsRel ρ (x :: xs) (y :: ys)
theorem EsRel.mono (h : ρ.le ρ') (hr : EsRel ρ xs ys) : EsRel ρ' xs ys := by
 induction hr with
 | nil => exact .nil
 | cons hk hv hb _ ih => exact .cons (hk.mono h) (hv.mono h) hb ih
theorem EsRel.filter (p : Nat → Bool) (hr : EsRel ρ xs ys) : EsRel ρ (xs.filter fun e => p e.born) (ys.filter fun e => p e.born) := by
 induction hr with
 | nil => exact .nil
 | cons hk hv hb _ ih =>
  simp only [List.filter_cons, hb]
  split
  ·exact .cons hk hv hb ih
  exact ih
theorem EsRel.all (p : Nat → Bool) (hr : EsRel ρ xs ys) : (xs.all fun e => p e.born) = ys.all fun e => p e.born := by
 induction hr with
 | nil => rfl
 | cons hk hv hb _ ih => simp only [List.all_cons, hb, ih]
theorem EsRel.find (p : Nat → Bool) (hr : EsRel ρ xs ys) (h : xs.find? (fun e => p e.born) = some e) : ∃ e', ys.find? (fun e => p e.born) = some e' ∧ VRel ρ e.key e'.key ∧ VRel ρ e.val e'.val := by
 induction hr with
 | nil => cases h
 | cons hk hv hb _ ih =>
  rw [List.find?_cons] at h ⊢
  rw [← hb]
  split at h
  ·cases h
   exact ⟨_, by simp_all, hk, hv⟩
  rename_i hp
  obtain ⟨e', h1, h2⟩ := ih h
  exact ⟨e', by simp_all, h2⟩
theorem EsRel.isEmpty (hr : EsRel ρ xs ys) : xs.isEmpty = ys.isEmpty := by
 cases hr <;> rfl
def TsRel (ρ : Ren) (n : Nat) (ts : Tr Value) (tmps : Array Value) : Prop := (tmps.size = n ∧ n ≤ dIx) ∧ ∀ t, t < dIx → VRel ρ ((ts.get t).getD undef) (tmps.getD t undef)
theorem TsRel.mono (h : ρ.le ρ') (hr : TsRel ρ n ts tmps) : TsRel ρ' n ts tmps := ⟨hr.1, fun t ht => (hr.2 t ht).mono h⟩
def FrOk (md : CMode) (upto size : Nat) (fr : Nat × Nat) : Prop :=
 match md with
 | .plain => fr.1 = fr.2
 | .frozen => fr.1 = fr.2 ∨ fr.2 ≤ upto
 | .strish => ∀ j, j < size → ¬ (fr.1 ≤ j ∧ j < fr.2)
 | .ro => True
def XRel (P : Program) (ρ : Ren) (s : Spot) (o : AObj) (x : Obj) : Prop :=
 match o with
 | .cells cs e g md _ => ∃ c fr, x = .cells c e fr ∧ s.off + cs.length ≤ c.size ∧ (∀ i v, cs[i]? = some v → ∃ v', c[s.off + i]? = some v' ∧ VRel ρ v v') ∧
   (g = false → s.off = 0 ∧ c.size = cs.length) ∧ (g = true → s.cap < big ∧ s.off + s.cap * P.cellsOf e ≤ c.size) ∧ FrOk md (s.off + cs.length) c.size fr
 | .map es clock => s.off = 0 ∧ ∃ es', x = .map es' clock ∧ EsRel ρ es es'.toList
 | .siter t pos => s.off = 0 ∧ x = .stringIter t pos
 | .miter mp since seen stepped => s.off = 0 ∧ ∃ mp', x = .mapIter mp' since ⟨seen⟩ stepped ∧ ((mp = none ∧ mp' = none) ∨ ∃ r sm, mp = some r ∧ ρ r = some sm ∧ sm.off = 0 ∧ mp' = some sm.blk)
 | .loop st pe fn n ts ps as bo d => ∃ l : Loop, x = .loop l ∧ l.state = st ∧ l.pending = pe ∧ l.fn = fn ∧ TsRel ρ n ts l.tmps ∧ l.params.toList = ps ∧ l.assign = as ∧ l.body = bo ∧ ∃ sd, ρ d = some sd ∧ sd.blk = l.defers
 | .deferred => ∃ q, x = .deferred q
theorem XRel.mono (h : ρ.le ρ') (hr : XRel P ρ s o x) : XRel P ρ' s o x := by
 cases o with
 | cells cs e g md mt =>
  obtain ⟨c, fr, h1, h2, h3, h4⟩ := hr
  exact ⟨c, fr, h1, h2, fun i v hi => let ⟨v', a, b⟩ := h3 i v hi; ⟨v', a, b.mono h⟩, h4⟩
 | map es clock =>
  obtain ⟨h0, es', h1, h2⟩ := hr
  exact ⟨h0, es', h1, h2.mono h⟩
 | siter t pos => exact hr
 | miter _ _ _ _ =>
  obtain ⟨h0, mp', h1, h2⟩ := hr
  refine ⟨h0, mp', h1, h2.imp id ?_⟩
  rintro ⟨r, sm, a, b, c⟩
  exact ⟨r, sm, a, h _ _ b, c⟩
 | loop st pe fn n ts ps as bo d =>
  obtain ⟨l, h1, h2, h3, h4, h5, h6, h7, h8, sd, h9, h10⟩ := hr
  exact ⟨l, h1, h2, h3, h4, h5.mono h, h6, h7, h8, sd, h _ _ h9, h10⟩
 | deferred => exact hr
def mateOf : AObj → Option Nat
 | .cells _ _ _ _ mt => mt
 | _ => none
def isRo : AObj → Bool
 | .cells _ _ _ .ro _ => true
 | .deferred => true
 | _ => false
structure Rel (P : Program) (ρ : Ren) (m : AW) (w : World) : Prop where
 obj : ∀ b o, m.heap.get b = some o → ∃ s x, ρ b = some s ∧ w.heap[s.blk]? = some x ∧ XRel P ρ s o x
 sep : ∀ b1 b2 o1 o2 s1 s2, b1 ≠ b2 → m.heap.get b1 = some o1 → m.heap.get b2 = some o2 → ρ b1 = some s1 → ρ b2 = some s2 → s1.blk = s2.blk →
  (mateOf o1 = some b2 ∧ mateOf o2 = some b1) ∨ (isRo o1 = true ∧ isRo o2 = true)
 glob : ∀ g, g < P.globals.size → ∃ c, ρ g = some ⟨g, 0, c⟩
 inb : ∀ b s, ρ b = some s → s.blk < w.heap.size
theorem Rel.of_heap (h : Rel P ρ m w) (hw : w'.heap = w.heap) (hm : m'.heap = m.heap) : Rel P ρ m' w' :=
 ⟨fun b o hb => by rw [hw]; exact h.obj b o (by rw [← hm]; exact hb), fun b1 b2 o1 o2 s1 s2 hn g1 g2 => h.sep b1 b2 o1 o2 s1 s2 hn (by rw [← hm]; exact g1) (by rw [← hm]; exact g2), h.glob, fun b s hb => by rw [hw]; exact h.inb b s hb⟩
theorem Rel.sub (h : Rel P ρ m w) (hm : ∀ b o, m'.heap.get b = some o → m.heap.get b = some o) : Rel P ρ m' w :=
 ⟨fun b o hb => h.obj b o (hm b o hb), fun b1 b2 o1 o2 s1 s2 hn g1 g2 => h.sep b1 b2 o1 o2 s1 s2 hn (hm _ _ g1) (hm _ _ g2), h.glob, h.inb⟩
theorem Rel.kill (h : Rel P ρ m w) (y : Option Nat) : Rel P ρ (kill m y) w := by
 cases y with
 | none => exact h
 | some y =>
  refine h.sub fun b o hb => ?_
  simp only [Ab.kill, AW.set, Tr.get_set] at hb
  split at hb
  ·simp at hb
  exact hb
theorem kill_get : (kill m y).heap.get b = if y = some b then none else m.heap.get b := by
 cases y with
 | none => simp [kill]
 | some y =>
  simp only [kill, AW.set, Tr.get_set, Option.some.injEq]
  by_cases h : b = y
  ·subst h; simp
  have : ¬ y = b := fun e => h e.symm
  simp [h, this]
theorem kill_next : (kill m y).next = m.next := by cases y <;> rfl
theorem cell_of_block {w : World} (h : w.heap[b]? = some (.cells c e fr)) (i : Nat) : w.cell? ⟨b, i, none⟩ = c[i]? := by
 simp [World.cell?, h]
theorem frozen_of_block {w : World} (h : w.heap[b]? = some (.cells c e fr)) (i : Nat) : w.frozen? ⟨b, i, none⟩ = (decide (fr.1 ≤ i) && decide (i < fr.2)) := by
 simp [World.frozen?, h]
def setBlk (w : World) (b : Nat) (o : Obj) : World := { w with heap := w.heap.setIfInBounds b o }
theorem setCell_block (h : w.heap[b]? = some (.cells c e fr)) (i : Nat) (v : Value) : w.setCell ⟨b, i, none⟩ v = setBlk w b (.cells (c.setIfInBounds i v) e fr) := by
 unfold World.setCell setBlk
 congr 1
 apply Array.ext_getElem?
 intro j
 rw [Array.getElem?_modify, Array.getElem?_setIfInBounds]
 by_cases hj : b = j
 ·subst hj
  simp only [if_true, h, Option.map_some]
  have : b < w.heap.size := by
   rw [Array.getElem?_eq_some_iff] at h
   exact h.1
  simp [this]
 simp [hj]
theorem setBlk_get (hb : b < w.heap.size) (j : Nat) : (setBlk w b o).heap[j]? = if j = b then some o else w.heap[j]? := by
 simp only [setBlk, Array.getElem?_setIfInBounds]
 by_cases h : b = j
 ·subst h; simp [hb]
 have : ¬ j = b := fun e => h e.symm
 simp [h, this]
theorem setBlk_size : (setBlk w b o).heap.size = w.heap.size := by simp [setBlk]
theorem setBlk_setBlk : setBlk (setBlk w b o) b o' = setBlk w b o' := by
 simp [setBlk, Array.setIfInBounds_setIfInBounds]
theorem run_loadCells {P : Program} {w : World} {b : Nat} {c : Array Value} {e : TypeId} {fr : Nat × Nat} (h : w.heap[b]? = some (.cells c e fr)) (off : Nat) :
  ∀ (n i : Nat) (acc : Array Value), off + i + n ≤ c.size → (loadCellsFrom ⟨b, off, none⟩ i n acc).run P w = .ok (acc ++ (⟨(c.toList.drop (off + i)).take n⟩ : Array Value)) w
 | 0, i, acc, _ => by
  simp [loadCellsFrom]
 | n + 1, i, acc, hn => by
  have hlt : off + i < c.size := by omega
  have hc : w.cell? ⟨b, off + i, none⟩ = some c[off + i] := by rw [cell_of_block h]; simp [hlt]
  unfold loadCellsFrom
  simp only [Sem.run_bind, run_load, Addr.add_eq, hc, Result.andThen_ok]
  rw [run_loadCells h off n (i + 1) _ (by omega)]
  congr 1
  apply Array.ext'
  simp only [Array.toList_append, Array.toList_push, List.append_assoc]
  congr 1
  have e1 : c.toList.drop (off + i) = c[off + i] :: c.toList.drop (off + i + 1) := by
   rw [List.drop_eq_getElem_cons (by simpa using hlt)]
   simp
  rw [e1]
  simp [Nat.add_assoc]
theorem putCells_get : ∀ (a : List Value) (i : Nat) (b : List Value) (j : Nat), i + b.length ≤ a.length → (putCells a i b)[j]? = if i ≤ j ∧ j < i + b.length then b[j - i]? else a[j]?
 | a, 0, b, j, h => by
  simp only [putCells, Nat.zero_le, true_and, Nat.zero_add, Nat.sub_zero]
  by_cases hj : j < b.length
  ·rw [if_pos hj, List.getElem?_append_left hj]
  rw [if_neg hj, List.getElem?_append_right (by omega), List.getElem?_drop]
  congr 1; omega
 | [], i + 1, b, j, h => by simp at h
 | x :: a, i + 1, b, j, h => by
  cases j with
  | zero => simp [putCells]
  | succ j =>
   simp only [putCells, List.getElem?_cons_succ]
   rw [putCells_get a i b j (by simp at h; omega)]
   have e1 : (i + 1 ≤ j + 1 ∧ j + 1 < i + 1 + b.length) ↔ (i ≤ j ∧ j < i + b.length) := by omega
   have e2 : j + 1 - (i + 1) = j - i := by omega
   simp only [e1, e2]
theorem run_storeCells {P : Program} {b off : Nat} : ∀ (vs : List Value) (i : Nat) (w : World) (c : Array Value) (e : TypeId) (fr : Nat × Nat), w.heap[b]? = some (.cells c e fr) → off + i + vs.length ≤ c.size → flats vs = true →
  (∀ j, off + i ≤ j → j < off + i + vs.length → ¬ (fr.1 ≤ j ∧ j < fr.2)) →
  (storeCells ⟨b, off, none⟩ vs i).run P w = .ok () (setBlk w b (.cells ⟨putCells c.toList (off + i) vs⟩ e fr))
 | [], i, w, c, e, fr, h, _, _, _ => by
  unfold storeCells
  rw [putCells_nil]
  simp only [Sem.run_pure]
  congr 1
  unfold setBlk
  have : w.heap.setIfInBounds b (.cells c e fr) = w.heap := by
   apply Array.ext_getElem?
   intro j
   rw [Array.getElem?_setIfInBounds]
   by_cases hj : b = j
   ·subst hj
    obtain ⟨hb, h2⟩ := Array.getElem?_eq_some_iff.1 h
    simp [hb, h2]
   simp [hj]
  rw [this]
 | v :: vs, i, w, c, e, fr, h, hn, hf, hfr => by
  simp only [List.length_cons] at hn hfr
  have hlt : off + i < c.size := by omega
  have hc : w.cell? ⟨b, off + i, none⟩ = some c[off + i] := by rw [cell_of_block h]; simp [hlt]
  have hz : w.frozen? ⟨b, off + i, none⟩ = false := by
   rw [frozen_of_block h]
   have := hfr (off + i) (by omega) (by omega)
   simp only [Bool.and_eq_false_iff, decide_eq_false_iff_not]
   omega
  simp only [flats, List.all_cons, Bool.and_eq_true] at hf
  have hv : v.oneCell' = true := by cases v <;> simp [flat] at hf <;> rfl
  unfold storeCells
  simp only [Sem.run_bind, Addr.add_eq, run_store P w _ v _ hv, hc, hz, Bool.false_eq_true, if_false, Result.andThen_ok]
  have hb : b < w.heap.size := by rw [Array.getElem?_eq_some_iff] at h; exact h.1
  rw [setCell_block h, run_storeCells vs (i + 1) _ (c.setIfInBounds (off + i) v) e fr (by rw [setBlk_get hb]; simp) (by simp; omega) hf.2 (fun j h1 h2 => hfr j (by omega) (by omega)), setBlk_setBlk]
  congr 4
  rw [putCells_cons _ _ _ _ (by simp; omega)]
  simp [Nat.add_assoc]
end Go.Ab
namespace Go.Ab
variable [Vals]
section
variable {P : Program} {ρ : Ren} {ts : Tr Value} {e : Operand → Value} {w : World}
mutual
theorem ground_eq {ρ : Ren} : ∀ {v v' : Value}, VRel ρ v v' → ground v = true → v' = v
 | _, _, .bool _, _ => rfl
 | _, _, .int _ _, _ => rfl
 | _, _, .float _ _, _ => rfl
 | _, _, .complex _ _ _, _ => rfl
 | _, _, .string _, _ => rfl
 | _, _, .ptrNil, _ => rfl
 | _, _, .ptr _, h => by simp [ground] at h
 | _, _, .sliceNil _, _ => rfl
 | _, _, .slice _ _, h => by simp [ground] at h
 | _, _, .empty, h => by simp [ground] at h
 | _, _, .open_ _ _ _ _, h => by simp [ground] at h
 | _, _, .mapNil, _ => rfl
 | _, _, .map _ _, h => by simp [ground] at h
 | _, _, .chanNil, _ => rfl
 | _, _, .func .nil .nil, _ => rfl
 | _, _, .func .nil (.cons _ _), h => by simp [ground] at h
 | _, _, .func (.cons _ _) _, h => by simp [ground] at h
 | _, _, .yield _, h => by simp [ground] at h
 | _, _, .nilFunc, _ => rfl
 | _, _, .nilIface, _ => rfl
 | _, _, .iface h, g => by rw [ground_eq h (by simpa [ground] using g)]
 | _, _, .agg h, g => by rw [grounds_eq h (by simpa [ground] using g)]
 | _, _, .tuple h, g => by rw [grounds_eq h (by simpa [ground] using g)]
theorem grounds_eq {ρ : Ren} : ∀ {v v' : List Value}, VsRel ρ v v' → ground.go v = true → v' = v
 | _, _, .nil, _ => rfl
 | _, _, .cons h hs, g => by
  simp only [ground.go, Bool.and_eq_true] at g
  rw [ground_eq h g.1, grounds_eq hs g.2]
end
theorem rdCells_rel2 (h : rdCells o off n = some cs) (hx : XRel P ρ s o x) :
  ∃ cs', (∀ w : World, w.heap[s.blk]? = some x → (loadCells ⟨s.blk, s.off + off, none⟩ n).run P w = .ok ⟨cs'⟩ w) ∧ VsRel ρ cs cs' ∧ cs.length = n := by
 cases o with
 | cells l el g md mt =>
  simp only [rdCells] at h
  obtain ⟨hb, h⟩ := bif_some h
  simp only [nble, decide_eq_true_eq, Option.some.injEq] at hb h
  subst h
  obtain ⟨c, fr, rfl, h2, h3, _⟩ := hx
  refine ⟨(c.toList.drop (s.off + off)).take n, ?_, ?_, by simp; omega⟩
  ·intro w hw
   unfold loadCells
   rw [run_loadCells hw (s.off + off) n 0 #[] (by omega)]
   simp
  refine VsRel.of_get (by simp; omega) ?_
  intro i v hi
  have hin : i < n := by
   have := (List.getElem?_eq_some_iff.1 hi).1
   simp at this; omega
  rw [List.getElem?_take, if_pos hin, List.getElem?_drop] at hi
  obtain ⟨v', h4, h5⟩ := h3 _ _ hi
  refine ⟨v', ?_, h5⟩
  rw [List.getElem?_take, if_pos hin, List.getElem?_drop]
  rw [← h4, Nat.add_assoc]
  simp
 | _ => simp [rdCells] at h
theorem rdCells_rel (h : rdCells o off n = some cs) (hx : XRel P ρ s o x) (hw : w.heap[s.blk]? = some x) :
  ∃ cs', (loadCells ⟨s.blk, s.off + off, none⟩ n).run P w = .ok ⟨cs'⟩ w ∧ VsRel ρ cs cs' ∧ cs.length = n := by
 obtain ⟨cs', h1, h2⟩ := rdCells_rel2 h hx
 exact ⟨cs', h1 w hw, h2⟩
theorem loadA_rel (h : loadA P t a = some (.rd b f)) (ha : VRel ρ a a') (hv : f o = some v)
  (hs : ρ b = some s) (hw : w.heap[s.blk]? = some x) (hx : XRel P ρ s o x) : ∃ v', (Instr.loadAt t a').run P w = .ok v' w ∧ VRel ρ v v' := by
 unfold loadA at h
 split at h
 ·rename_i b1 off
  cases ha with
  | ptr hb =>
   rename_i s1
   split at h
   ·rename_i n hag hn
    simp only [Option.some.injEq, LR.rd.injEq] at h
    obtain ⟨rfl, rfl⟩ := h
    rw [hs] at hb
    cases hb
    obtain ⟨cs, hc, rfl⟩ := Option.map_eq_some_iff.1 hv
    obtain ⟨cs', h1, h2, _⟩ := rdCells_rel hc hx hw
    refine ⟨.agg ⟨cs'⟩, ?_, .agg h2⟩
    simp only [Instr.loadAt, Instr.sureAddr, Sem.run_bind, Sem.run_pure, Result.andThen_ok, loadVar, run_aggT hag, if_true, run_size hn, h1]
   ·rename_i hag
    simp only [Option.some.injEq, LR.rd.injEq] at h
    obtain ⟨rfl, rfl⟩ := h
    rw [hs] at hb
    cases hb
    cases o with
    | cells l el g md mt =>
     obtain ⟨c, fr, rfl, h2, h3, _⟩ := hx
     obtain ⟨v', h4, h5⟩ := h3 _ _ hv
     refine ⟨v', ?_, h5⟩
     have hc : w.cell? ⟨s.blk, s.off + off, none⟩ = some v' := by rw [cell_of_block hw]; exact h4
     simp only [Instr.loadAt, Instr.sureAddr, Sem.run_bind, Sem.run_pure, Result.andThen_ok, loadVar, run_aggT hag, Bool.false_eq_true, if_false, run_load, hc]
    | _ => simp at hv
   simp at h
 simp at h
theorem loadA_rd (h : loadA P t a = some (.imm v)) : False := by
 unfold loadA at h
 split at h
 ·split at h <;> simp at h
 simp at h
theorem checkKey_run : ∀ (d n : Nat) (em : Bool) (t : TypeId) (v : Value) (w : World), d ≤ n → keyV P d t v = true → (Instr.checkKey em n t v).run P w = .ok () w
  | 0, _, _, _, _, _, _, h => by simp [keyV] at h
  | d + 1, 0, _, _, _, _, hn, _ => by omega
  | d + 1, n + 1, em, t, v, w, hn, h => by
    unfold keyV at h
    split at h
    · rename_i ht; simp [Instr.checkKey, run_und ht]
    · rename_i ht; simp [Instr.checkKey, run_und ht]
    · rename_i ht; simp [Instr.checkKey, run_und ht]
    · rename_i fs cs ht
      simp only [Instr.checkKey, Sem.run_bind, run_und ht, Result.andThen_ok]
      rw [← Array.forIn_toList]
      generalize fs.toList = l at h
      have key : ∀ (l : List Field) (w : World), (l.all fun f => match partA P f.type cs f.offset with | some x => keyV P d f.type x | none => false) = true →
          (forIn l PUnit.unit fun f (_ : PUnit) => (if f.name ≠ "_" then (do
            let x ← part f.type ⟨cs⟩ f.offset
            Instr.checkKey em n f.type x
            pure (ForInStep.yield PUnit.unit)) else pure (ForInStep.yield PUnit.unit) : Sem (ForInStep PUnit))).run P w = .ok PUnit.unit w := by
        intro l
        induction l with
        | nil => intro w _; simp
        | cons f l ih =>
          intro w h
          simp only [List.all_cons, Bool.and_eq_true] at h
          obtain ⟨h1, h2⟩ := h
          rw [List.forIn_cons]
          simp only [Sem.run_bind]
          by_cases hf : f.name = "_"
          · simp only [hf, ne_eq, not_true_eq_false, if_false, Sem.run_pure, Result.andThen_ok]
            exact ih w h2
          · simp only [ne_eq, hf, not_false_eq_true, if_true, Sem.run_bind]
            split at h1
            · rename_i x hx
              have hg : VsRel (fun _ => none) cs cs → True := fun _ => trivial
              have hp : (part f.type ⟨cs⟩ f.offset).run P w = .ok x w := part_same hx
              rw [hp]
              simp only [Result.andThen_ok, checkKey_run d n em f.type x w (by omega) h1, Sem.run_pure]
              exact ih w h2
            · simp at h1
      rw [key l w h]; rfl
    · rename_i len el cs ht
      split at h
      · rename_i sz hsz
        simp only [Instr.checkKey, Sem.run_bind, run_und ht, Result.andThen_ok, Std.Legacy.Range.forIn_eq_forIn_range', Std.Legacy.Range.size, Nat.sub_zero, Nat.add_sub_cancel, Nat.div_one]
        rw [← List.range_eq_range']
        have key : ∀ (l : List Nat) (w : World), (l.all fun i => match partA P el cs (i * sz) with | some x => keyV P d el x | none => false) = true →
            (forIn l PUnit.unit fun i (_ : PUnit) => (do
              Instr.checkKey em n el (← part el ⟨cs⟩ (i * (← sizeOf el)))
              pure (ForInStep.yield PUnit.unit) : Sem (ForInStep PUnit))).run P w = .ok PUnit.unit w := by
          intro l
          induction l with
          | nil => intro w _; simp
          | cons i l ih =>
            intro w h
            simp only [List.all_cons, Bool.and_eq_true] at h
            obtain ⟨h1, h2⟩ := h
            rw [List.forIn_cons]
            simp only [Sem.run_bind]
            split at h1
            · rename_i x hx
              have hp : (part el ⟨cs⟩ (i * sz)).run P w = .ok x w := part_same hx
              simp only [run_size hsz, Result.andThen_ok, hp, checkKey_run d n em el x w (by omega) h1, Sem.run_pure]
              exact ih w h2
            · simp at h1
        rw [key _ w h]; rfl
      · simp at h
    · simp at h
where
 part_same {P : Program} {t : TypeId} {cs : List Value} {off : Nat} {v : Value} {w : World} (h : partA P t cs off = some v) : (part t ⟨cs⟩ off).run P w = .ok v w := by
  unfold partA at h
  cases ha : aggT P t with
  | none => simp [ha] at h
  | some a =>
   cases hn : sizeT P t with
   | none => simp [ha, hn] at h
   | some n =>
    simp only [ha, hn, Option.bind_some] at h
    unfold part
    simp only [Sem.run_bind, run_aggT ha, Result.andThen_ok]
    cases a with
    | true =>
     obtain ⟨_, h⟩ := bif_some (by simpa only [cond_true] using h)
     simp at h
     subst h
     simp only [if_true, Sem.run_bind, run_size hn, Result.andThen_ok, Sem.run_pure]
     congr 2
     apply Array.ext'
     simp [List.extract_eq_take_drop]
    | false =>
     simp only [cond_false] at h
     have : (⟨cs⟩ : Array Value)[off]? = some v := by simpa using h
     simp [this]
inductive FRel (ρ : Ren) : Option (Nat × Value) → Option (Nat × Value) → Prop where
 | none : FRel ρ none none
 | some {i : Nat} {v v' : Value} (h : VRel ρ v v') : FRel ρ (some (i, v)) (some (i, v'))
theorem sameNow_eq (ht : P.underlying kt = some td) (hy : VRel ρ y y') (h1 : Instr.sameNow td k y' = some c) (h2 : eqA P 10000 kt k y = some b) (hk : VRel ρ k k) : c = b := by
 have hr := eqA_rel (P := P) (ρ := ρ) 10000 default kt k y k y' b h2 hk hy
 unfold Instr.sameNow at h1
 split at h1
 ·rename_i q k1 a k2 b2
  split at h1
  ·rename_i he
   simp only [Option.some.injEq] at h1
   subst he h1
   rw [run_equalIn_int _ _ _ _ _ _ _ ht] at hr
   simpa using hr
  simp at h1
 ·rename_i a b2
  simp only [Option.some.injEq] at h1
  subst h1
  rw [run_equalIn_string _ _ _ _ _ ht] at hr
  rw [beq_toListBytes]
  simpa using hr
 ·rename_i a b2
  simp only [Option.some.injEq] at h1
  subst h1
  rw [run_equalIn_bool' _ _ _ _ _ ht] at hr
  simpa using hr
 simp at h1
theorem findA_rel (ht : P.underlying kt = some td) (hk : VRel ρ k k) (he : EsRel ρ es es') : ∀ (i : Nat) (r : Option (Nat × Value)) (w : World), findA P kt k es i = some r →
  (∀ r0, Instr.findNow td k es' i = some r0 → FRel ρ r r0) ∧ ∃ r0, (Instr.findAsking kt k es' i).run P w = .ok r0 w ∧ FRel ρ r r0 := by
 induction he with
 | nil =>
  intro i r w h
  simp only [findA, Option.some.injEq] at h
  subst h
  refine ⟨fun r0 h0 => ?_, none, by simp [Instr.findAsking], .none⟩
  simp only [Instr.findNow, Option.some.injEq] at h0
  subst h0
  exact .none
 | cons hkk hv hb hs ih =>
  rename_i x y xs ys
  intro i r w h
  unfold findA at h
  split at h
  ·rename_i heq
   simp only [Option.some.injEq] at h
   subst h
   refine ⟨fun r0 h0 => ?_, some (i, y.val), ?_, .some hv⟩
   ·unfold Instr.findNow at h0
    split at h0
    ·simp only [Option.some.injEq] at h0
     subst h0
     exact .some hv
    ·rename_i h1
     have := sameNow_eq ht hkk h1 heq hk
     cases this
    simp at h0
   unfold Instr.findAsking
   simp only [Sem.run_bind, Op.equal, Op.maxDepth, eqA_rel 10000 w _ _ _ _ _ _ heq hk hkk, Result.andThen_ok, if_true, Sem.run_pure]
  ·rename_i heq
   obtain ⟨h1, r0, h2, h3⟩ := ih (i + 1) r w h
   refine ⟨fun r1 h0 => ?_, r0, ?_, h3⟩
   ·unfold Instr.findNow at h0
    split at h0
    ·rename_i h1
     have := sameNow_eq ht hkk h1 heq hk
     cases this
    ·exact h1 r1 h0
    simp at h0
   unfold Instr.findAsking
   simp only [Sem.run_bind, Op.equal, Op.maxDepth, eqA_rel 10000 w _ _ _ _ _ _ heq hk hkk, Result.andThen_ok, Bool.false_eq_true, if_false]
   exact h2
  simp at h
theorem findKey_rel (ht : P.underlying kt = some td) (hk : VRel ρ k k) (he : EsRel ρ es es') (h : findA P kt k es 0 = some r) (w : World) :
  ∃ r0, (Instr.findKey kt k es').run P w = .ok r0 w ∧ FRel ρ r r0 := by
 obtain ⟨h1, r0, h2, h3⟩ := findA_rel ht hk he 0 r w h
 unfold Instr.findKey
 simp only [Sem.run_bind, run_und ht, Result.andThen_ok]
 cases hf : Instr.findNow td k es' 0 with
 | none => exact ⟨r0, h2, h3⟩
 | some r1 => exact ⟨r1, rfl, h1 r1 hf⟩
end
end Go.Ab
namespace Go.Ab
variable [Vals]
section
variable {P : Program} {ρ : Ren} {ts : Tr Value} {e : Operand → Value} {w : World}
structure BRel (P : Program) (ρ : Ren) (w : World) (b : Nat) (o : AObj) (s : Spot) (x : Obj) : Prop where
 at_ : ρ b = some s
 obj : w.heap[s.blk]? = some x
 rel : XRel P ρ s o x
theorem lookupA_imm (h : lookupA P t x k ok = some (.imm v)) (hx : VRel ρ x x') (hk : VRel ρ k k') : Yields P ρ (Instr.lookup t x' k' ok) v := by
 intro w
 unfold lookupA at h
 split at h
 ·rename_i kt et ht
  obtain ⟨hkv, h⟩ := bif_some h
  simp only [Bool.and_eq_true] at hkv
  have hk2 : k' = k := ground_eq hk hkv.2
  subst hk2
  split at h
  ·cases hx
   obtain ⟨z, hz, h⟩ := Option.map_eq_some_iff.1 h
   simp only [LR.imm.injEq] at h
   subst h
   refine ⟨if ok = true then .tuple #[z, .bool false] else z, ?_, ?_⟩
   ·simp only [Instr.lookup, Sem.run_bind, run_und ht, Result.andThen_ok, Sem.run_pure]
    rw [show (#[] : Array MapEntry).isEmpty = true from rfl, checkKey_run 20 10000 _ _ _ _ (by omega) hkv.1]
    have hkt : ∃ td, P.underlying kt = some td := by
     cases hh : P.underlying kt with
     | none => have := hkv.1; unfold keyV at this; rw [hh] at this; simp at this
     | some td => exact ⟨td, rfl⟩
    obtain ⟨td, htd⟩ := hkt
    simp only [Result.andThen_ok, Instr.findKey, Sem.run_bind, run_und htd]
    simp [Instr.findNow, run_zero hz]
   cases ok
   ·simpa using zero_rel hz
   simpa using VRel.tuple (.cons (zero_rel hz) (.cons (.bool _) .nil))
  ·simp at h
  simp at h
 simp at h
theorem lookupA_rd (h : lookupA P t x k ok = some (.rd b f)) (hx : VRel ρ x x') (hk : VRel ρ k k') (hv : f o = some v)
  (hb : BRel P ρ w b o s y) : ∃ v', (Instr.lookup t x' k' ok).run P w = .ok v' w ∧ VRel ρ v v' := by
 unfold lookupA at h
 split at h
 ·rename_i kt et ht
  obtain ⟨hkv, h⟩ := bif_some h
  simp only [Bool.and_eq_true] at hkv
  have hk2 : k' = k := ground_eq hk hkv.2
  subst hk2
  have hkt : ∃ td, P.underlying kt = some td := by
   cases hh : P.underlying kt with
   | none => have := hkv.1; unfold keyV at this; rw [hh] at this; simp at this
   | some td => exact ⟨td, rfl⟩
  obtain ⟨td, htd⟩ := hkt
  split at h
  ·simp at h
  ·rename_i r
   simp only [Option.some.injEq, LR.rd.injEq] at h
   obtain ⟨rfl, rfl⟩ := h
   cases hx with
   | map hm h0 =>
    rename_i s2
    rw [hb.at_] at hm
    cases hm
    cases o with
    | map es clock =>
     obtain ⟨_, es', rfl, hes⟩ := hb.rel
     have hg : (getObj s.blk).run P w = .ok (.map es' clock) w := by simp [getObj, Sem.run, hb.obj]
     have hrun : ∀ r0, (Instr.findKey kt k' es'.toList).run P w = .ok r0 w → (Instr.lookup t (.map (some s.blk)) k' ok).run P w =
       ((match r0 with | some (_, v) => pure (v, true) | none => (do pure (← zeroValue et, false)) : Sem (Value × Bool)).run P w).andThen fun x w' => .ok (if ok = true then .tuple #[x.1, .bool x.2] else x.1) w' := by
      intro r0 hr0
      simp only [Instr.lookup, Sem.run_bind, run_und ht, Result.andThen_ok, hg, Sem.run_pure]
      rw [checkKey_run 20 10000 _ _ _ _ (by omega) hkv.1]
      simp only [Result.andThen_ok, hr0]
      cases r0 with
      | none =>
       simp only [Sem.run_bind]
       cases (zeroValue et).run P w <;> rfl
      | some iv => obtain ⟨i, u⟩ := iv; rfl
     simp only at hv
     split at hv
     ·rename_i i u hf
      obtain ⟨r0, h1, h2⟩ := findKey_rel htd hk hes hf w
      cases h2 with
      | some hu =>
       rename_i u'
       simp only [Option.some.injEq] at hv
       subst hv
       refine ⟨if ok = true then .tuple #[u', .bool true] else u', ?_, ?_⟩
       ·rw [hrun _ h1]; rfl
       cases ok
       ·simpa using hu
       simpa using VRel.tuple (.cons hu (.cons (.bool _) .nil))
     ·rename_i hf
      obtain ⟨r0, h1, h2⟩ := findKey_rel htd hk hes hf w
      cases h2
      obtain ⟨z, hz, rfl⟩ := Option.map_eq_some_iff.1 hv
      refine ⟨if ok = true then .tuple #[z, .bool false] else z, ?_, ?_⟩
      ·rw [hrun _ h1]; simp [run_zero hz]
      cases ok
      ·simpa using zero_rel hz
      simpa using VRel.tuple (.cons (zero_rel hz) (.cons (.bool _) .nil))
     simp at hv
    | _ => simp at hv
  simp at h
 simp at h
theorem lenA_imm (h : lenA P t x = some (.imm v)) (hx : VRel ρ x x') (ht0 : at_[0]? = some t) : Yields P ρ (Builtin.len_ at_ ty ⟨x' :: xs⟩) v := by
 intro w
 have h0 : (⟨x' :: xs⟩ : Array Value)[0]? = some x' := by simp
 unfold lenA at h
 split at h
 ·rename_i s ht
  cases hx
  simp only [Option.some.injEq, LR.imm.injEq] at h
  subst h
  exact ⟨goInt _, by unfold Builtin.len_; simp [ht0, run_und ht], .int ..⟩
 ·rename_i n el ht
  simp only [Option.some.injEq, LR.imm.injEq] at h
  subst h
  exact ⟨goInt _, by unfold Builtin.len_; simp [ht0, run_und ht], .int ..⟩
 ·rename_i a ht
  split at h
  ·rename_i n el ha
   simp only [Option.some.injEq, LR.imm.injEq] at h
   subst h
   exact ⟨goInt _, by unfold Builtin.len_; simp [ht0, run_und ht, run_und ha], .int ..⟩
  simp at h
 ·rename_i el a n c ht
  simp only [Option.some.injEq, LR.imm.injEq] at h
  subst h
  cases hx <;> exact ⟨goInt _, by unfold Builtin.len_; simp [ht0, run_und ht], .int ..⟩
 ·rename_i ht
  cases hx
  simp only [Option.some.injEq, LR.imm.injEq] at h
  subst h
  exact ⟨goInt _, by unfold Builtin.len_; simp [ht0, run_und ht], .int ..⟩
 ·simp at h
 simp at h
theorem EsRel.length_eq (h : EsRel ρ xs ys) : xs.length = ys.length := by
 induction h with
 | nil => rfl
 | cons _ _ _ _ ih => simp [ih]
theorem lenA_rd (h : lenA P t x = some (.rd b f)) (hx : VRel ρ x x') (ht0 : at_[0]? = some t) (hv : f o = some v)
  (hb : BRel P ρ w b o s y) : ∃ v', (Builtin.len_ at_ ty ⟨x' :: xs⟩).run P w = .ok v' w ∧ VRel ρ v v' := by
 have h0 : (⟨x' :: xs⟩ : Array Value)[0]? = some x' := by simp
 unfold lenA at h
 split at h <;> try (simp at h; done)
 ·split at h <;> simp at h
 rename_i k el r ht
 simp only [Option.some.injEq, LR.rd.injEq] at h
 obtain ⟨rfl, rfl⟩ := h
 cases hx with
 | map hm _ =>
  rename_i s2
  rw [hb.at_] at hm
  cases hm
  cases o with
  | map es clock =>
   obtain ⟨_, es', rfl, hes⟩ := hb.rel
   simp only [Option.some.injEq] at hv
   subst hv
   have hg : (getObj s.blk).run P w = .ok (.map es' clock) w := by simp [getObj, Sem.run, hb.obj]
   refine ⟨goInt es'.size, by unfold Builtin.len_; simp [ht0, run_und ht, hg], ?_⟩
   have : es.length = es'.size := by rw [hes.length_eq]; simp
   rw [this]
   exact .int ..
  | _ => simp at hv
theorem bytesOf_get : ∀ {cs : List Value} {l : List UInt8} {j : Nat}, bytesOf cs = some l → cs[j]? = some u → ∃ n, u = .int .u8 n := by
 intro cs
 induction cs with
 | nil =>
  intro l j _ hu
  simp at hu
 | cons c cs ih =>
  intro l j h hu
  unfold bytesOf at h
  split at h
  ·simp at *
  ·rename_i n vs e
   simp only [List.cons.injEq] at e
   obtain ⟨e1, e2⟩ := e
   subst e1 e2
   obtain ⟨l', hl, rfl⟩ := Option.map_eq_some_iff.1 h
   cases j with
   | zero => simp at hu; exact ⟨_, hu.symm⟩
   | succ j => exact ih hl (by simpa using hu)
  simp at h
theorem bytesOf_ints : ∀ {cs cs' : List Value} {l : List UInt8}, bytesOf cs = some l → VsRel ρ cs cs' → ∃ ns : List Int, cs' = ns.map (Value.int .u8) ∧ l = ns.map fun n => UInt8.ofNat n.toNat := by
 intro cs
 induction cs with
 | nil =>
  intro cs' l h hs
  cases hs
  simp only [bytesOf, Option.some.injEq] at h
  subst h
  exact ⟨[], rfl, rfl⟩
 | cons c cs ih =>
  intro cs' l h hs
  unfold bytesOf at h
  split at h
  ·simp at *
  ·rename_i n vs e
   simp only [List.cons.injEq] at e
   obtain ⟨e1, e2⟩ := e
   subst e1 e2
   obtain ⟨l', hl, rfl⟩ := Option.map_eq_some_iff.1 h
   cases hs with
   | cons h1 hs =>
    cases h1
    obtain ⟨ns, rfl, rfl⟩ := ih hl hs
    exact ⟨n :: ns, rfl, rfl⟩
  simp at h
theorem runesOf_ints : ∀ {cs cs' : List Value} {l : List UInt8}, runesOf cs = some l → VsRel ρ cs cs' → ∃ ns : List Int, cs' = ns.map (Value.int .i32) ∧ l = ns.flatMap fun n => (Utf8.encode n).data.toList := by
 intro cs
 induction cs with
 | nil =>
  intro cs' l h hs
  cases hs
  simp only [runesOf, Option.some.injEq] at h
  subst h
  exact ⟨[], rfl, rfl⟩
 | cons c cs ih =>
  intro cs' l h hs
  unfold runesOf at h
  split at h
  ·simp at *
  ·rename_i n vs e
   simp only [List.cons.injEq] at e
   obtain ⟨e1, e2⟩ := e
   subst e1 e2
   obtain ⟨l', hl, rfl⟩ := Option.map_eq_some_iff.1 h
   cases hs with
   | cons h1 hs =>
    cases h1
    obtain ⟨ns, rfl, rfl⟩ := ih hl hs
    exact ⟨n :: ns, rfl, by simp⟩
  simp at h
theorem foldl_push : ∀ (ns : List Int) (r : ByteArray), ns.foldl (fun r n => r.push (UInt8.ofNat n.toNat)) r = ⟨⟨r.data.toList ++ ns.map fun n => UInt8.ofNat n.toNat⟩⟩
 | [], r => by simp
 | n :: ns, r => by
  rw [List.foldl_cons, foldl_push ns]
  simp [ByteArray.push]
theorem foldl_runes : ∀ (ns : List Int) (r : ByteArray), ns.foldl (fun r n => r ++ Utf8.encode n) r = ⟨⟨r.data.toList ++ ns.flatMap fun n => (Utf8.encode n).data.toList⟩⟩
 | [], r => by simp
 | n :: ns, r => by
  rw [List.foldl_cons, foldl_runes ns]
  simp
end
end Go.Ab
namespace Go.Ab
variable [Vals]
section
variable {P : Program} {ρ : Ren} {ts : Tr Value} {e : Operand → Value} {w : World}
theorem rdCells_len (h : rdCells o off n = some cs) : cs.length = n := by
 cases o with
 | cells l el g md mt =>
  simp only [rdCells] at h
  obtain ⟨hb, h⟩ := bif_some h
  simp only [nble, decide_eq_true_eq, Option.some.injEq] at hb h
  subst h
  simp; omega
 | _ => simp [rdCells] at h
theorem slice_addr (h : VRel ρ (.slice (some ⟨b, off, none⟩) len cap) v') (hs : ρ b = some s) : ∃ a' cap', v' = .slice (some a') len cap' ∧ (0 < len → a' = ⟨s.blk, s.off + off, none⟩) := by
 cases h with
 | slice hb hc => rw [hs] at hb; cases hb; exact ⟨_, _, rfl, fun _ => rfl⟩
 | empty => exact ⟨_, _, rfl, fun h => absurd h (by omega)⟩
 | open_ hb hi hcap ha => rw [hs] at hb; cases hb; exact ⟨_, _, rfl, fun h => ha (by omega)⟩
theorem bytesStr_imm (hs : P.underlying s = some (.slice el)) (hd : P.underlying d = some .string) (h : bytesStr P el x = some (.imm v)) (hx : VRel ρ x x') : Yields P ρ (convert s d x') v := by
 intro w
 unfold bytesStr at h
 split at h
 ·cases hx
  split at h
  ·rename_i hel
   simp only [Option.some.injEq, LR.imm.injEq] at h
   subst h
   exact ⟨_, by simp [convert, run_und hs, run_und hd, run_und hel, Conv.bytesToString], .string _⟩
  ·rename_i hel
   simp only [Option.some.injEq, LR.imm.injEq] at h
   subst h
   exact ⟨_, by simp [convert, run_und hs, run_und hd, run_und hel, Conv.runesToString], .string _⟩
  simp at h
 ·split at h <;> simp at h
 simp at h
theorem bytesStr_rd (hst : P.underlying t = some (.slice el)) (hd : P.underlying d = some .string) (h : bytesStr P el x = some (.rd b f)) (hx : VRel ρ x x') (hv : f o = some v)
  (hb : BRel P ρ w b o s y) : ∃ v', (convert t d x').run P w = .ok v' w ∧ VRel ρ v v' := by
 unfold bytesStr at h
 split at h
 ·split at h <;> simp at h
 ·rename_i b1 off len cap
  have hbe : b1 = b := by split at h <;> simp at h <;> exact h.1
  subst hbe
  obtain ⟨a', cap', rfl, ha⟩ := slice_addr hx hb.at_
  split at h
  ·rename_i hel
   simp only [Option.some.injEq, LR.rd.injEq, true_and] at h
   subst h
   obtain ⟨cs, hc, hv⟩ := Option.bind_eq_some_iff.1 hv
   obtain ⟨l, hl, rfl⟩ := Option.map_eq_some_iff.1 hv
   obtain ⟨cs', h1, h2, h3⟩ := rdCells_rel (P := P) hc hb.rel hb.obj
   obtain ⟨ns, rfl, rfl⟩ := bytesOf_ints hl h2
   refine ⟨_, ?_, .string _⟩
   have hload : (loadCells a' len).run P w = .ok (ns.map (Value.int .u8)).toArray w := by
    by_cases h0 : 0 < len
    ·rw [ha h0]; exact h1
    have : len = 0 := by omega
    subst this
    have : ns = [] := by
     have := h2.length_eq
     rw [h3] at this
     cases ns with
     | nil => rfl
     | cons => simp at this
    subst this
    simp [loadCells, loadCellsFrom]
   have := run_bytesToString w a' len cap' ns hload
   rw [foldl_push] at this
   simp only [convert, Sem.run_bind, run_und hst, run_und hd, Result.andThen_ok, run_und hel]
   simpa using this
  ·rename_i hel
   simp only [Option.some.injEq, LR.rd.injEq, true_and] at h
   subst h
   obtain ⟨cs, hc, hv⟩ := Option.bind_eq_some_iff.1 hv
   obtain ⟨l, hl, rfl⟩ := Option.map_eq_some_iff.1 hv
   obtain ⟨cs', h1, h2, h3⟩ := rdCells_rel (P := P) hc hb.rel hb.obj
   obtain ⟨ns, rfl, rfl⟩ := runesOf_ints hl h2
   refine ⟨_, ?_, .string _⟩
   have hload : (loadCells a' len).run P w = .ok (ns.map (Value.int .i32)).toArray w := by
    by_cases h0 : 0 < len
    ·rw [ha h0]; exact h1
    have : len = 0 := by omega
    subst this
    have : ns = [] := by
     have := h2.length_eq
     rw [h3] at this
     cases ns with
     | nil => rfl
     | cons => simp at this
    subst this
    simp [loadCells, loadCellsFrom]
   have := run_runesToString w a' len cap' ns hload
   unfold runesBytes at this
   rw [foldl_runes] at this
   simp only [convert, Sem.run_bind, run_und hst, run_und hd, Result.andThen_ok, run_und hel]
   simpa using this
  simp at h
 simp at h
theorem shape_of_cells (h : w.heap[b]? = some (.cells c el fr)) : w.shape? b = some (el, c.size) := by simp [World.shape?, h]
theorem toUnsafe_rd (hst : P.underlying t = some (.pointer u)) (hd : P.underlying d = some .unsafePointer) (h : toUnsafe P u x = some (.rd b f)) (hx : VRel ρ x x') (hv : f o = some v)
  (hb : BRel P ρ w b o s y) : ∃ v', (convert t d x').run P w = .ok v' w ∧ VRel ρ v v' := by
 unfold toUnsafe at h
 split at h
 ·rename_i b1 off
  split at h
  ·rename_i n hn
   simp only [Option.some.injEq, LR.rd.injEq] at h
   obtain ⟨rfl, rfl⟩ := h
   cases hx with
   | ptr hb1 =>
    rename_i s1
    have e1 := hb.at_
    rw [e1] at hb1
    cases hb1
    dsimp only at hv
    split at hv
    ·rename_i cs el md mt
     obtain ⟨hlt, hv⟩ := bif_some hv
     simp only [nblt, decide_eq_true_eq, Option.some.injEq] at hlt hv
     subst hv
     obtain ⟨c, fr, rfl, h2, h3, h4, _⟩ := hb.rel
     obtain ⟨h5, h6⟩ := h4 rfl
     have hsh := shape_of_cells hb.obj
     refine ⟨_, ?_, .ptr e1⟩
     simp only [convert, Sem.run_bind, run_und hst, run_und hd, Result.andThen_ok, Conv.unsafePointer, Conv.seenAt, viewAt, run_shape, hsh, Option.isSome_some, if_true, Sem.run_pure, cellsIn, run_size hn]
     have : ¬ (s.off + off ≥ c.size) := by omega
     simp [this]
    simp at hv
  simp at h
 simp at h
theorem fromUnsafe_rd (hst : P.underlying t = some .unsafePointer) (hd : P.underlying d = some (.pointer u)) (h : fromUnsafe P u x = some (.rd b f)) (hx : VRel ρ x x') (hv : f o = some v)
  (hb : BRel P ρ w b o s y) : ∃ v', (convert t d x').run P w = .ok v' w ∧ VRel ρ v v' := by
 unfold fromUnsafe at h
 split at h
 ·rename_i b1 off
  split at h
  ·rename_i n hn
   simp only [Option.some.injEq, LR.rd.injEq] at h
   obtain ⟨rfl, rfl⟩ := h
   cases hx with
   | ptr hb1 =>
    rename_i s1
    have e1 := hb.at_
    rw [e1] at hb1
    cases hb1
    dsimp only at hv
    split at hv
    ·rename_i cs el md mt
     obtain ⟨hlt, hv⟩ := bif_some hv
     simp only [Option.some.injEq] at hv
     subst hv
     obtain ⟨c, fr, rfl, h2, h3, h4, _⟩ := hb.rel
     obtain ⟨h5, h6⟩ := h4 rfl
     have hsh := shape_of_cells hb.obj
     refine ⟨_, ?_, .ptr e1⟩
     simp only [convert, Sem.run_bind, run_und hst, run_und hd, Result.andThen_ok, Conv.unsafePointer, Conv.seenAt, viewAt, run_shape, hsh, Option.isSome_some, if_true, Sem.run_pure, run_size hn, variablesAt, run_program, h6, h5, Nat.zero_add, hlt]
     simp
    simp at hv
  simp at h
 simp at h
theorem opL_imm (hE : ERel P ρ ts e) (h : opL P ts o.op = some (.imm v)) : YieldsOp P ρ e o v := by
 intro w
 cases ho : o.op with
 | load t a =>
  rw [ho] at h
  simp only [opL] at h
  obtain ⟨u, _, h⟩ := Option.bind_eq_some_iff.1 h
  exact (loadA_rd h).elim
 | lookup t x k ok =>
  rw [ho] at h
  simp only [opL, lookup1] at h
  split at h
  ·rename_i a ha
   split at h
   ·rename_i b hb
    unfold execOp; rw [ho]
    exact lift_yields (lookupA_imm h (hE _ _ ha) (hE _ _ hb)) w
   simp at h
  simp at h
 | convert s d x =>
  rw [ho] at h
  simp only [opL] at h
  obtain ⟨u, hu, h⟩ := Option.bind_eq_some_iff.1 h
  unfold convL at h
  split at h
  ·rename_i el hs
   split at h
   ·rename_i hd
    unfold execOp; rw [ho]
    exact lift_yields (bytesStr_imm hs hd h (hE _ _ hu)) w
   simp at h
  ·rename_i t hs
   split at h
   ·unfold toUnsafe at h
    split at h
    ·split at h <;> simp at h
    simp at h
   simp at h
  ·rename_i hs
   split at h
   ·unfold fromUnsafe at h
    split at h
    ·split at h <;> simp at h
    simp at h
   simp at h
  simp at h
 | call c =>
  rw [ho] at h
  obtain ⟨callee, args, argTypes⟩ := c
  simp only [opL, callL] at h
  split at h
  ·split at h
   ·rename_i x xs hv
    split at h
    ·rename_i t ht
     have hr := hE.list hv
     unfold execOp; rw [ho]
     have := lift_yields (P := P) (ρ := ρ) (s := Builtin.len_ argTypes o.type ⟨args.toList.map e⟩) (v := v) (by
      generalize args.toList.map e = vs' at hr
      cases hr with
      | cons h1 hs => exact lenA_imm h h1 ht) w
     simp only [resolve, Sem.run_bind, Sem.run_pure, Result.andThen_ok, invoke, map_arr]
     exact this
    simp at h
   simp at h
  simp at h
 | _ => rw [ho] at h; simp [opL] at h
theorem opL_rd (hE : ERel P ρ ts e) (h : opL P ts o.op = some (.rd b f)) (hv : f x = some v) (hb : BRel P ρ w b x s y) :
  ∃ v', (execOp e o).run P w = .ok (.value v') w ∧ VRel ρ v v' := by
 have lift : ∀ {s : Sem Value}, (∃ v', s.run P w = .ok v' w ∧ VRel ρ v v') → ∃ v', ((do pure (Next.value (← s)) : Sem Next)).run P w = .ok (.value v') w ∧ VRel ρ v v' := by
  rintro s ⟨v', h1, h2⟩
  exact ⟨v', by simp only [Sem.run_bind, h1, Result.andThen_ok, Sem.run_pure], h2⟩
 cases ho : o.op with
 | load t a =>
  rw [ho] at h
  simp only [opL] at h
  obtain ⟨u, hu, h⟩ := Option.bind_eq_some_iff.1 h
  unfold execOp; rw [ho]
  exact lift (loadA_rel h (hE _ _ hu) hv hb.at_ hb.obj hb.rel)
 | lookup t x k ok =>
  rw [ho] at h
  simp only [opL, lookup1] at h
  split at h
  ·rename_i a ha
   split at h
   ·rename_i b2 hb2
    unfold execOp; rw [ho]
    exact lift (lookupA_rd h (hE _ _ ha) (hE _ _ hb2) hv hb)
   simp at h
  simp at h
 | convert s d x =>
  rw [ho] at h
  simp only [opL] at h
  obtain ⟨u, hu, h⟩ := Option.bind_eq_some_iff.1 h
  unfold execOp; rw [ho]
  unfold convL at h
  split at h
  ·rename_i el hs
   split at h
   ·rename_i hd
    exact lift (bytesStr_rd hs hd h (hE _ _ hu) hv hb)
   simp at h
  ·rename_i t hs
   split at h
   ·rename_i hd
    exact lift (toUnsafe_rd hs hd h (hE _ _ hu) hv hb)
   simp at h
  ·rename_i hs
   split at h
   ·rename_i t hd
    exact lift (fromUnsafe_rd hs hd h (hE _ _ hu) hv hb)
   simp at h
  simp at h
 | call c =>
  rw [ho] at h
  obtain ⟨callee, args, argTypes⟩ := c
  simp only [opL, callL] at h
  split at h
  ·split at h
   ·rename_i x1 xs hvs
    split at h
    ·rename_i t ht
     have hr := hE.list hvs
     unfold execOp; rw [ho]
     have := lift (s := Builtin.len_ argTypes o.type ⟨args.toList.map e⟩) (by
      generalize args.toList.map e = vs' at hr
      cases hr with
      | cons h1 hs => exact lenA_rd h h1 ht hv hb)
     simp only [resolve, Sem.run_bind, Sem.run_pure, Result.andThen_ok, invoke, map_arr]
     exact this
    simp at h
   simp at h
  simp at h
 | _ => rw [ho] at h; simp [opL] at h
end
end Go.Ab
namespace Go.Ab
variable [Vals]
section
variable {P : Program} {ρ : Ren} {ts : Tr Value} {e : Operand → Value} {w : World}
def Rest (w w' : World) : Prop := w'.os = w.os ∧ w'.tape = w.tape ∧ w'.output = w.output
theorem Rest.refl (w : World) : Rest w w := ⟨rfl, rfl, rfl⟩
theorem Rest.trans (h : Rest a b) (k : Rest b c) : Rest a c := ⟨k.1.trans h.1, k.2.1.trans h.2.1, k.2.2.trans h.2.2⟩
def Makes (P : Program) (ρ : Ren) (s : Sem Value) (x : AObj) (f : Nat → Value) : Prop :=
 mateOf x = none ∧ isRo x = false ∧ ∀ w, ∃ cap y w1 v', s.run P w = .ok v' w1 ∧ w1.heap = w.heap.push y ∧ Rest w w1 ∧
  ∀ (ρ' : Ren) b, ρ.le ρ' → ρ' b = some ⟨w.heap.size, 0, cap⟩ → XRel P ρ' ⟨w.heap.size, 0, cap⟩ x y ∧ VRel ρ' (f b) v'
theorem newCells_rel (h : ρ.le ρ') (hc : VsRel ρ cs cs') (t : TypeId) (n cap : Nat) : XRel P ρ' ⟨n, 0, cap⟩ (newCells cs t) (.cells ⟨cs'⟩ t (0, 0)) := by
 refine ⟨⟨cs'⟩, (0, 0), rfl, ?_, ?_, ?_, ?_, rfl⟩
 ·simp [hc.length_eq]
 ·intro i v hi
  obtain ⟨v', h1, h2⟩ := hc.get hi
  exact ⟨v', by simpa using h1, h2.mono h⟩
 ·intro _; exact ⟨rfl, by simp [hc.length_eq]⟩
 intro h; cases h
theorem alloc_makes (hz : zeroT P t = some z) : Makes P ρ (Instr.alloc t true (.tuple #[])) (newCells (cellsOfV z) t) ptrTo := by
 refine ⟨rfl, rfl, fun w => ⟨0, .cells z.cells t, w.alloc (.cells z.cells t), .pointer (some ⟨w.heap.size, 0, none⟩), ?_, rfl, ⟨rfl, rfl, rfl⟩, ?_⟩⟩
 ·simp only [Instr.alloc, Sem.run_bind, run_zero hz, Result.andThen_ok, newVar, newRow, run_newObj, Sem.run_pure]; rfl
 intro ρ' b h hb
 rw [cells_eq]
 exact ⟨newCells_rel h (zero_rel hz).cells _ _ _, .ptr hb⟩
theorem box_makes (hv : VRel ρ v v') : Makes P ρ (Instr.box t v') (newCells (cellsOfV v) t) ptrTo := by
 refine ⟨rfl, rfl, fun w => ⟨0, .cells v'.cells t, w.alloc (.cells v'.cells t), .pointer (some ⟨w.heap.size, 0, none⟩), ?_, rfl, ⟨rfl, rfl, rfl⟩, ?_⟩⟩
 ·simp only [Instr.box, Sem.run_bind, newVar, newRow, run_newObj, Result.andThen_ok, Sem.run_pure]; rfl
 intro ρ' b h hb
 rw [cells_eq]
 exact ⟨newCells_rel h hv.cells _ _ _, .ptr hb⟩
theorem replicateL_get (z : List Value) (hz : 0 < z.length) : ∀ (n i : Nat), i < n * z.length → (replicateL z n)[i]? = z[i % z.length]?
 | 0, i, h => by simp at h
 | n + 1, i, h => by
  unfold replicateL
  by_cases hi : i < z.length
  ·rw [List.getElem?_append_left hi, Nat.mod_eq_of_lt hi]
  rw [List.getElem?_append_right (by omega), replicateL_get z hz n (i - z.length) (by rw [Nat.add_mul, Nat.one_mul] at h; omega)]
  congr 1
  exact (Nat.mod_eq_sub_mod (by omega)).symm
theorem replicateL_length (z : List Value) : ∀ n, (replicateL z n).length = n * z.length
 | 0 => by simp [replicateL]
 | n + 1 => by simp [replicateL, replicateL_length z n, Nat.succ_mul]; omega
theorem range_map (z : List Value) (n sz : Nat) (hz : z.length = sz) (h0 : n * sz ≠ 0) : (Array.range (n * sz)).map (fun i => (⟨z⟩ : Array Value)[i % (⟨z⟩ : Array Value).size]!) = ⟨replicateL z n⟩ := by
 have hpos : 0 < z.length := by
  rw [hz]; exact Nat.pos_of_ne_zero fun e => h0 (by rw [e, Nat.mul_zero])
 apply Array.ext_getElem?
 intro i
 have e1 : (⟨replicateL z n⟩ : Array Value)[i]? = (replicateL z n)[i]? := by simp
 rw [e1, Array.getElem?_map]
 by_cases hi : i < n * sz
 ·rw [Array.getElem?_range, replicateL_get z hpos n i (by rw [hz]; exact hi)]
  simp only [hi, if_true, Option.map_some]
  have hm : i % z.length < z.length := Nat.mod_lt _ hpos
  rw [List.getElem?_eq_getElem hm]
  congr 1
  have : (⟨z⟩ : Array Value).size = z.length := rfl
  rw [getElem!_pos _ _ (by rw [this]; exact hm)]
  rfl
 rw [Array.getElem?_range]
 simp only [hi, if_false, Option.map_none]
 rw [List.getElem?_eq_none (by rw [replicateL_length, hz]; omega)]
theorem zerosT_run (h : zerosT P t sz n = some zs) (w : World) :
  ∃ z : List Value, (n * sz = 0 → z = []) ∧ (n * sz ≠ 0 → ∃ v, (zeroValue t).run P w = .ok v w ∧ v.cells = ⟨z⟩) ∧ (Array.range (n * sz)).map (fun i => (⟨z⟩ : Array Value)[i % (⟨z⟩ : Array Value).size]!) = ⟨zs⟩ ∧ VsRel ρ zs zs ∧ zs.length = n * sz := by
 unfold zerosT at h
 by_cases h0 : n * sz = 0
 ·simp only [nbeq, h0, decide_true, cond_true, Option.some.injEq] at h
  subst h
  exact ⟨[], fun _ => rfl, fun h => absurd h0 h, by simp [h0], .nil, by simp [h0]⟩
 simp only [nbeq, h0, decide_false, cond_false] at h
 split at h
 ·rename_i z hz
  obtain ⟨hl, h⟩ := bif_some h
  simp only [decide_eq_true_eq, Option.some.injEq] at hl h
  subst h
  exact ⟨cellsOfV z, fun h => absurd h h0, fun _ => ⟨z, run_zero hz, cells_eq z⟩, range_map _ _ _ hl h0, ((zero_rel hz).cells).replicateL n, by rw [replicateL_length, hl]⟩
 simp at h
theorem buildSlice_makes (h : buildSliceA P t len ps = some (x, f)) (hp : PsRel ρ ps ps') : Makes P ρ (Instr.buildSlice t len ⟨ps'⟩) x f := by
 unfold buildSliceA at h
 split at h
 ·rename_i el ht
  split at h
  ·rename_i sz hsz
   obtain ⟨hle, h⟩ := bif_some h
   simp only [nble, Bool.and_eq_true, decide_eq_true_eq] at hle
   split at h
   ·rename_i zs hzs
    obtain ⟨cs, hcs, h⟩ := Option.map_eq_some_iff.1 h
    simp only [Prod.mk.injEq] at h
    obtain ⟨rfl, rfl⟩ := h
    refine ⟨rfl, rfl, fun w => ?_⟩
    obtain ⟨z, hz0, hz1, hr, hrel, _⟩ := zerosT_run (P := P) (ρ := ρ) hzs w
    obtain ⟨cs', hcs', hcr⟩ := buildFill_rel hp hcs hrel
    refine ⟨0, .cells ⟨cs'⟩ el, w.alloc (.cells ⟨cs'⟩ el), .slice (some ⟨w.heap.size, 0, none⟩) len len, ?_, rfl, ⟨rfl, rfl, rfl⟩, ?_⟩
    ·unfold Instr.buildSlice
     simp only [Sem.run_bind, run_und ht, Result.andThen_ok, run_size hsz]
     rw [if_neg (by omega)]
     by_cases h0 : len * sz = 0
     ·rw [if_pos h0]
      have := hz0 h0
      subst this
      simp only [Sem.run_bind, Sem.run_pure, Result.andThen_ok]
      rw [show (#[] : Array Value) = ⟨[]⟩ from rfl, hr, fill_eq _ _ _ _ hcs']
      simp only [newRow, Sem.run_bind, run_newObj, Result.andThen_ok, Sem.run_pure]
      rfl
     obtain ⟨v, hv, hvc⟩ := hz1 h0
     rw [if_neg h0]
     simp only [Sem.run_bind, hv, Sem.run_pure, Result.andThen_ok, hvc, hr, fill_eq _ _ _ _ hcs', newRow, run_newObj]
     rfl
    intro ρ' b hρ hb
    refine ⟨newCells_rel hρ hcr _ _ _, ?_⟩
    exact .slice hb (by simp only [big]; omega)
   simp at h
  simp at h
 simp at h
theorem makeSlice_makes (h : makeSliceA P t (asInt? l) (asInt? c) = some (x, f)) (hl : VRel ρ l l') (hc : VRel ρ c c') : Makes P ρ (Instr.makeSlice t l' c') x f := by
 unfold makeSliceA at h
 split at h
 ·rename_i ln hln
  obtain ⟨k1, rfl⟩ := asInt_some hln hl
  split at h
  ·rename_i cn hcn
   obtain ⟨k2, rfl⟩ := asInt_some hcn hc
   split at h
   ·rename_i el ht
    split at h
    ·rename_i sz hsz
     split at h
     ·rename_i inf hi
      obtain ⟨hle, h⟩ := bif_some h
      simp only [nble, Bool.and_eq_true, decide_eq_true_eq] at hle
      obtain ⟨zs, hzs, h⟩ := Option.map_eq_some_iff.1 h
      simp only [Prod.mk.injEq] at h
      obtain ⟨rfl, rfl⟩ := h
      refine ⟨rfl, rfl, fun w => ?_⟩
      obtain ⟨z, hz0, hz1, hr, hrel, _⟩ := zerosT_run (P := P) (ρ := ρ) hzs w
      refine ⟨0, .cells ⟨zs⟩ el, w.alloc (.cells ⟨zs⟩ el), .slice (some ⟨w.heap.size, 0, none⟩) ln cn, ?_, rfl, ⟨rfl, rfl, rfl⟩, ?_⟩
      ·have w1 : IntKind.i64.wrap (Int.ofNat ln) = Int.ofNat ln := (wrap_in .i64 _ (by simp [loN]) (by simp only [hiN]; show (ln : Int) ≤ _; omega)).symm
       have w2 : IntKind.i64.wrap (Int.ofNat cn) = Int.ofNat cn := (wrap_in .i64 _ (by simp [loN]) (by simp only [hiN]; show (cn : Int) ≤ _; omega)).symm
       have hb : inf.bytes * cn ≤ 65536 * 16777216 := Nat.mul_le_mul hle.2 hle.1.2
       have hb2 : ((inf.bytes : Int) * Int.ofNat cn) ≤ 1099511627776 := by
        have : ((inf.bytes * cn : Nat) : Int) ≤ ((65536 * 16777216 : Nat) : Int) := Int.ofNat_le.2 hb
        simpa using this
       unfold Instr.makeSlice
       simp only [Sem.run_bind, run_und ht, Result.andThen_ok, asInt, asIntOf, Sem.run_pure, run_info hi, w1, w2]
       have hno : ((decide (Int.ofNat cn < 0) || decide ((inf.bytes : Int) * Int.ofNat cn > 2 ^ 48)) || decide (Int.ofNat ln < 0) || decide (Int.ofNat ln > Int.ofNat cn)) = false := by
        have a1 : ¬ (Int.ofNat cn < 0) := by simp
        have a2 : ¬ ((inf.bytes : Int) * Int.ofNat cn > 2 ^ 48) := by
         have : (2 : Int) ^ 48 = 281474976710656 := by decide
         rw [this]; omega
        have a3 : ¬ (Int.ofNat ln < 0) := by simp
        have a4 : ¬ (Int.ofNat ln > Int.ofNat cn) := by simp; omega
        simp only [a1, a2, a3, a4, decide_false, Bool.or_self]
       rw [hno]
       simp only [Bool.false_eq_true, if_false, Sem.run_bind, run_askRoom, Result.andThen_ok, run_size hsz]
       have e1 : (Int.ofNat cn).toNat = cn := rfl
       have e2 : (Int.ofNat ln).toNat = ln := rfl
       rw [e1, e2]
       by_cases h0 : cn * sz = 0
       ·rw [if_pos h0]
        have := hz0 h0
        subst this
        simp only [Sem.run_bind, Sem.run_pure, Result.andThen_ok]
        rw [show (#[] : Array Value) = ⟨[]⟩ from rfl, hr]
        simp only [newRow, Sem.run_bind, run_newObj, Result.andThen_ok, Sem.run_pure]
        rfl
       obtain ⟨v, hv, hvc⟩ := hz1 h0
       rw [if_neg h0]
       simp only [Sem.run_bind, hv, Sem.run_pure, Result.andThen_ok, hvc, hr, newRow, run_newObj]
       rfl
      intro ρ' b hρ hb
      refine ⟨newCells_rel hρ hrel _ _ _, ?_⟩
      exact .slice hb (by simp only [big]; omega)
     simp at h
    simp at h
   simp at h
  simp at h
 simp at h
end
end Go.Ab
namespace Go.Ab
variable [Vals]
section
variable {P : Program} {ρ : Ren} {ts : Tr Value} {e : Operand → Value} {w : World}
theorem makeMap_makes (h : makeMapA P t (r.map asInt?) = some (x, f)) (hr : ORel ρ r r') : Makes P ρ (Instr.makeMap t r') x f := by
 have key : ∀ (s : Sem Value), (∀ w, s.run P w = .ok (.map (some w.heap.size)) (w.alloc (.map #[] 0))) → Makes P ρ s (.map [] 0) mapTo := by
  intro s hs
  refine ⟨rfl, rfl, fun w => ⟨0, .map #[] 0, w.alloc (.map #[] 0), .map (some w.heap.size), hs w, rfl, ⟨rfl, rfl, rfl⟩, fun ρ' b hρ hb => ⟨⟨rfl, #[], rfl, .nil⟩, .map hb rfl⟩⟩⟩
 cases hr with
 | none =>
  simp only [makeMapA, Option.map_none, Option.some.injEq, Prod.mk.injEq] at h
  obtain ⟨rfl, rfl⟩ := h
  exact key _ fun w => by simp only [Instr.makeMap, Sem.run_bind, run_newObj, Sem.run_pure, Result.andThen_ok]; rfl
 | some hv =>
  rename_i v v'
  simp only [makeMapA, Option.map_some] at h
  split at h
  ·rename_i n hn
   simp at hn
  ·rename_i n hn
   simp only [Option.some.injEq] at hn
   obtain ⟨k, rfl⟩ := asInt_some hn hv
   split at h
   ·rename_i kt et ht
    simp only [Option.some.injEq, Prod.mk.injEq] at h
    obtain ⟨rfl, rfl⟩ := h
    exact key _ fun w => by
     simp only [Instr.makeMap, Sem.run_bind, run_und ht, Result.andThen_ok, asInt, asIntOf, Sem.run_pure, run_newObj]; rfl
   simp at h
  simp at h
theorem modify_push (a : Array Obj) (x : Obj) (f : Obj → Obj) : (a.push x).modify a.size f = a.push (f x) := by
 apply Array.ext_getElem?
 intro i
 rw [Array.getElem?_modify, Array.getElem?_push, Array.getElem?_push]
 by_cases h : a.size = i
 ·subst h; simp
 have : ¬ i = a.size := fun e => h e.symm
 simp [h, this]
theorem appendCap_le (n t : Nat) (h : n < 2 ^ 63) (el : TypeId) (k : Nat) : n ≤ (Question.appendCap n k el).cut t ∧ (Question.appendCap n k el).cut t < 2 ^ 63 := by
 simp only [Question.cut]
 have := Nat.mod_lt t (show 2 ^ 63 - n > 0 by omega)
 omega
theorem strBytes_makes (h : strBytes P s d v = some (x, f)) (hv : VRel ρ v v') : Makes P ρ (convert s d v') x f := by
 unfold strBytes at h
 split at h
 ·rename_i str
  cases hv
  split at h
  ·rename_i hs
   split at h
   ·rename_i el hd
    split at h
    ·rename_i hel
     split at h
     ·rename_i h1
      obtain ⟨hle, h⟩ := bif_some h
      simp only [nble, decide_eq_true_eq, Option.some.injEq, Prod.mk.injEq] at hle h
      obtain ⟨rfl, rfl⟩ := h
      refine ⟨rfl, rfl, fun w => ?_⟩
      obtain ⟨c1, c2⟩ := appendCap_le str.size (w.tape w.drawn (.appendCap str.size 0 el)) (by omega) el 0
      generalize hcap : (Question.appendCap str.size 0 el).cut (w.tape w.drawn (.appendCap str.size 0 el)) = cap at c1 c2
      let cells : Array Value := str.data.map (fun b => Value.int .u8 b.toNat) ++ Array.replicate (cap - str.size) (.int .u8 0)
      have hsz : cells.size = cap := by simp [cells]; omega
      refine ⟨cap, .cells cells el (cap, cap + 1), { w with heap := w.heap.push (.cells cells el (cap, cap + 1)), drawn := w.drawn + 1 }, .slice (some ⟨w.heap.size, 0, none⟩) str.size cap, ?_, rfl, ⟨rfl, rfl, rfl⟩, ?_⟩
      ·simp only [convert, Sem.run_bind, run_und hs, run_und hd, Result.andThen_ok, run_und hel, Conv.stringToBytes, run_choose, Question.forced, Bool.false_eq_true, if_false, hcap, newRow, run_newObj, Sem.run_pure, markStringish, run_shape]
       have hsh : (World.shape? { w with heap := w.heap.push (.cells cells el), drawn := w.drawn + 1 } w.heap.size) = some (el, cap) := by
        simp [World.shape?, hsz]
       show ((match World.shape? { w with heap := w.heap.push (.cells cells el), drawn := w.drawn + 1 } w.heap.size with | some (_, n) => freeze { block := w.heap.size, off := n } 1 | _ => pure () : Sem Unit).run P { w with heap := w.heap.push (.cells cells el), drawn := w.drawn + 1 }).andThen _ = _
       rw [hsh]
       simp only [run_freeze, Result.andThen_ok]
       congr 1
       unfold World.freeze
       simp only [Nat.one_ne_zero, if_false, modify_push]
       rfl
      intro ρ' b hρ hb
      constructor
      ·refine ⟨cells, (cap, cap + 1), rfl, ?_, ?_, ?_, ?_, ?_⟩
       ·simp only [Nat.zero_add, List.length_map, hsz]; simpa using c1
       ·intro i u hi
        simp only [List.getElem?_map, Option.map_eq_some_iff] at hi
        obtain ⟨bt, hb1, rfl⟩ := hi
        refine ⟨.int .u8 bt.toNat, ?_, .int ..⟩
        have hlt : i < str.data.size := by
         have := (List.getElem?_eq_some_iff.1 hb1).1
         simpa using this
        simp only [Nat.zero_add, cells]
        rw [Array.getElem?_append_left (by simpa using hlt), Array.getElem?_map]
        have : str.data[i]? = some bt := by simpa using hb1
        rw [this]; rfl
       ·intro hg; cases hg
       ·intro _
        refine ⟨by simp only [big]; omega, ?_⟩
        have : P.cellsOf el = 1 := by
         simp only [sizeT] at h1
         simp only [Program.cellsOf, h1, Option.getD_some]
        simp only [this, Nat.mul_one, hsz, Nat.zero_add, Nat.le_refl]
       intro j hj
       rw [hsz] at hj
       simp only
       omega
      have := VRel.open_ (ρ := ρ') (off := 0) (len := str.size) (i := 0) (a' := ⟨w.heap.size, 0, none⟩) hb (by simp only [Nat.zero_add]; exact c1) (by simp only [big]; omega) (fun _ => rfl)
      simpa [sliceTo] using this
     simp at h
    ·rename_i hel
     split at h
     ·rename_i h1
      unfold runesA at h
      obtain ⟨hle, h⟩ := bif_some h
      simp only [Bool.and_eq_true, nble, decide_eq_true_eq, Option.some.injEq, Prod.mk.injEq] at hle h
      obtain ⟨hle, hgr⟩ := hle
      obtain ⟨rfl, rfl⟩ := h
      refine ⟨rfl, rfl, fun w => ?_⟩
      generalize hel2 : Conv.runesFrom str str.size 0 #[] = elems at hle hgr
      have hlen : elems.toList.length = elems.size := rfl
      rw [hlen] at hle
      obtain ⟨c1, c2⟩ := appendCap_le elems.size (w.tape w.drawn (.appendCap elems.size 0 el)) (by omega) el 0
      generalize hcap : (Question.appendCap elems.size 0 el).cut (w.tape w.drawn (.appendCap elems.size 0 el)) = cap at c1 c2
      let cells : Array Value := elems ++ Array.replicate (cap - elems.size) (.int .i32 0)
      have hsz : cells.size = cap := by simp [cells]; omega
      refine ⟨cap, .cells cells el, { w with heap := w.heap.push (.cells cells el), drawn := w.drawn + 1 }, .slice (some ⟨w.heap.size, 0, none⟩) elems.size cap, ?_, rfl, ⟨rfl, rfl, rfl⟩, ?_⟩
      ·simp only [convert, Sem.run_bind, run_und hs, run_und hd, Result.andThen_ok, run_und hel, Conv.stringToRunes, hel2, run_choose, Question.forced, Bool.false_eq_true, if_false, hcap, newRow, run_newObj, Sem.run_pure]
       rfl
      intro ρ' b hρ hb
      constructor
      ·refine ⟨cells, (0, 0), rfl, ?_, ?_, ?_, ?_, ?_⟩
       ·simp only [Nat.zero_add, hlen, hsz]; simpa using c1
       ·intro i u hi
        refine ⟨u, ?_, (grounds_rel ρ' _ hgr).get hi |>.elim fun v' hv => ?_⟩
        ·have hlt : i < elems.size := by
          have := (List.getElem?_eq_some_iff.1 hi).1
          simpa using this
         simp only [Nat.zero_add, cells]
         rw [Array.getElem?_append_left (by simpa using hlt)]
         simpa using hi
        have := hv.1
        rw [hi] at this
        cases this
        exact hv.2
       ·intro hg; cases hg
       ·intro _
        refine ⟨by simp only [big]; omega, ?_⟩
        have : P.cellsOf el = 1 := by
         simp only [sizeT] at h1
         simp only [Program.cellsOf, h1, Option.getD_some]
        simp only [this, Nat.mul_one, hsz, Nat.zero_add, Nat.le_refl]
       rfl
      have := VRel.open_ (ρ := ρ') (off := 0) (len := elems.size) (i := 0) (a' := ⟨w.heap.size, 0, none⟩) hb (by simp only [Nat.zero_add]; exact c1) (by simp only [big]; omega) (fun _ => rfl)
      simpa [sliceTo] using this
     simp at h
    simp at h
   simp at h
  simp at h
 simp at h
theorem opA_rel (hE : ERel P ρ ts e) (h : opA P ts o.op = some (x, f)) :
  ∃ s : Sem Value, execOp e o = (do pure (Next.value (← s))) ∧ Makes P ρ s x f := by
 cases ho : o.op with
 | alloc t =>
  rw [ho] at h
  simp only [opA] at h
  obtain ⟨z, hz, h⟩ := Option.map_eq_some_iff.1 h
  simp only [Prod.mk.injEq] at h
  obtain ⟨rfl, rfl⟩ := h
  exact ⟨_, by unfold execOp; rw [ho], alloc_makes hz⟩
 | box t v =>
  rw [ho] at h
  simp only [opA] at h
  obtain ⟨z, hz, h⟩ := Option.map_eq_some_iff.1 h
  simp only [Prod.mk.injEq] at h
  obtain ⟨rfl, rfl⟩ := h
  exact ⟨_, by unfold execOp; rw [ho], box_makes (hE _ _ hz)⟩
 | buildSlice t len parts =>
  rw [ho] at h
  simp only [opA] at h
  obtain ⟨ps, hp, h⟩ := Option.bind_eq_some_iff.1 h
  have e1 : (parts.map fun (x : Nat × Operand) => (x.1, e x.2)) = ⟨parts.toList.map fun x => (x.1, e x.2)⟩ := by apply Array.ext'; simp
  exact ⟨Instr.buildSlice t len ⟨parts.toList.map fun x => (x.1, e x.2)⟩, by unfold execOp; rw [ho, ← e1], buildSlice_makes h (hE.parts hp)⟩
 | makeSlice t l c =>
  rw [ho] at h
  simp only [opA] at h
  cases hl : ev P ts l with
  | none => simp [hl, makeSliceA] at h
  | some lv =>
   cases hc : ev P ts c with
   | none => simp [hl, hc, makeSliceA] at h; split at h <;> simp at h
   | some cv =>
    simp only [hl, hc, Option.bind_some] at h
    exact ⟨_, by unfold execOp; rw [ho], makeSlice_makes h (hE _ _ hl) (hE _ _ hc)⟩
 | makeMap t r =>
  rw [ho] at h
  simp only [opA] at h
  cases r with
  | none => exact ⟨Instr.makeMap t none, by unfold execOp; rw [ho]; rfl, makeMap_makes (r := none) h .none⟩
  | some r =>
   cases hr : ev P ts r with
   | none => simp [hr, makeMapA] at h
   | some v =>
    simp only [Option.map_some, hr, Option.bind_some] at h
    exact ⟨Instr.makeMap t (some (e r)), by unfold execOp; rw [ho]; rfl, makeMap_makes (r := some v) h (.some (hE _ _ hr))⟩
 | convert s d v =>
  rw [ho] at h
  simp only [opA] at h
  obtain ⟨u, hu, h⟩ := Option.bind_eq_some_iff.1 h
  exact ⟨_, by unfold execOp; rw [ho], strBytes_makes h (hE _ _ hu)⟩
 | _ => rw [ho] at h; simp [opA] at h
end
end Go.Ab
namespace Go.Ab
variable [Vals]
section
variable {P : Program} {ρ ρ' : Ren} {m m' : AW} {w w' : World}
def Own (ρ : Ren) (m : AW) (B : Nat) : Prop := ∃ b o s, m.heap.get b = some o ∧ isRo o = false ∧ ρ b = some s ∧ s.blk = B
def Occ (ρ : Ren) (m : AW) (B : Nat) : Prop := ∃ b o s, m.heap.get b = some o ∧ ρ b = some s ∧ s.blk = B
structure Grow (ρ ρ' : Ren) (m m' : AW) (w w' : World) : Prop where
 le : ρ.le ρ'
 only : ∀ i, i < m.next ∨ m'.next ≤ i → ρ' i = ρ i
 rest : Rest w w'
 size : w.heap.size ≤ w'.heap.size
 keep : ∀ B, B < w.heap.size → ¬ Own ρ m B → w'.heap[B]? = w.heap[B]?
 own : ∀ B, Own ρ' m' B → Own ρ m B ∨ w.heap.size ≤ B
 next : m.next ≤ m'.next
 occ : ∀ B, Occ ρ' m' B → Occ ρ m B ∨ w.heap.size ≤ B
theorem Grow.refl (ρ : Ren) (m : AW) (w : World) : Grow ρ ρ m m w w := ⟨.refl _, fun _ _ => rfl, .refl _, Nat.le_refl _, fun _ _ _ => rfl, fun _ h => .inl h, Nat.le_refl _, fun _ h => .inl h⟩
theorem Grow.trans (h : Grow ρ1 ρ2 m1 m2 w1 w2) (k : Grow ρ2 ρ3 m2 m3 w2 w3) : Grow ρ1 ρ3 m1 m3 w1 w3 where
 le := h.le.trans k.le
 only := fun i hi => by
  have h1 := h.next
  have k1 := k.next
  rw [k.only i (by omega), h.only i (by omega)]
 rest := h.rest.trans k.rest
 size := Nat.le_trans h.size k.size
 keep := fun B hB hn => by
  rw [k.keep B (Nat.lt_of_lt_of_le hB h.size) ?_, h.keep B hB hn]
  intro ho
  rcases h.own B ho with h1 | h1
  ·exact hn h1
  omega
 own := fun B hB => by
  rcases k.own B hB with h1 | h1
  ·exact h.own B h1
  exact .inr (Nat.le_trans h.size h1)
 next := Nat.le_trans h.next k.next
 occ := fun B hB => by
  rcases k.occ B hB with h1 | h1
  ·exact h.occ B h1
  exact .inr (Nat.le_trans h.size h1)
theorem Grow.of_heap (h : Grow ρ ρ' m m' w w') (hh : m2.heap = m'.heap) (hn : m2.next = m'.next) : Grow ρ ρ' m m2 w w' :=
 ⟨h.le, fun i hi => h.only i (by rw [← hn]; exact hi), h.rest, h.size, h.keep, fun B ⟨b, o, s, h1, h2⟩ => h.own B ⟨b, o, s, by rw [← hh]; exact h1, h2⟩, by rw [hn]; exact h.next, fun B ⟨b, o, s, h1, h2⟩ => h.occ B ⟨b, o, s, by rw [← hh]; exact h1, h2⟩⟩
def Ren.set (ρ : Ren) (b : Nat) (s : Spot) : Ren := fun i => if i = b then some s else ρ i
theorem Ren.set_same (ρ : Ren) (b : Nat) (s : Spot) : ρ.set b s b = some s := by simp [Ren.set]
theorem Ren.le_set (h : ρ b = none) : ρ.le (ρ.set b s) := by
 intro i t hi
 unfold Ren.set
 by_cases e : i = b
 ·subst e; rw [h] at hi; cases hi
 simp [e, hi]
theorem heap_push_old {a : Array Obj} (h : i < a.size) : (a.push x)[i]? = a[i]? := by
 rw [Array.getElem?_push, if_neg (by omega)]
theorem AW.new_get (m : AW) (o : AObj) (b : Nat) : (m.new o).heap.get b = if b = m.next then some o else m.heap.get b := by simp only [AW.new, Tr.get_set]
theorem AW.set_get (m : AW) (c : Nat) (o : Option AObj) (b : Nat) : (m.set c o).heap.get b = if b = c then o else m.heap.get b := by simp only [AW.set, Tr.get_set]
theorem Rel.new (h : Rel P ρ m w) (hf : ρ m.next = none) (hw : w'.heap = w.heap.push y) (hrest : Rest w w')
  (hx : XRel P (ρ.set m.next ⟨w.heap.size, 0, cap⟩) ⟨w.heap.size, 0, cap⟩ x y) : Rel P (ρ.set m.next ⟨w.heap.size, 0, cap⟩) (m.new x) w' ∧ Grow ρ (ρ.set m.next ⟨w.heap.size, 0, cap⟩) m (m.new x) w w' := by
 have hle : ρ.le (ρ.set m.next ⟨w.heap.size, 0, cap⟩) := Ren.le_set hf
 have hold : ∀ {b s}, b ≠ m.next → (ρ.set m.next ⟨w.heap.size, 0, cap⟩) b = some s → ρ b = some s := by
  intro b s hb h1
  simpa [Ren.set, hb] using h1
 refine ⟨⟨?_, ?_, ?_, ?_⟩, ⟨hle, ?_, hrest, ?_, ?_, ?_, ?_, ?_⟩⟩
 ·intro b o hb
  rw [AW.new_get] at hb
  split at hb
  ·rename_i e
   subst e
   simp only [Option.some.injEq] at hb
   subst hb
   exact ⟨_, y, Ren.set_same _ _ _, by rw [hw]; simp, hx⟩
  rename_i e
  obtain ⟨s, y', h1, h2, h3⟩ := h.obj b o hb
  exact ⟨s, y', hle _ _ h1, by rw [hw, heap_push_old (h.inb _ _ h1)]; exact h2, h3.mono hle⟩
 ·intro b1 b2 o1 o2 s1 s2 hne g1 g2 r1 r2 hs
  rw [AW.new_get] at g1 g2
  split at g1
  ·rename_i e1
   have e2 : b2 ≠ m.next := fun e => hne (e1.trans e.symm)
   rw [e1, Ren.set_same] at r1
   cases r1
   have := h.inb _ _ (hold e2 r2)
   simp only at hs
   omega
  rename_i e1
  split at g2
  ·rename_i e2
   rw [e2, Ren.set_same] at r2
   cases r2
   have := h.inb _ _ (hold e1 r1)
   simp only at hs
   omega
  rename_i e2
  exact h.sep b1 b2 o1 o2 s1 s2 hne g1 g2 (hold e1 r1) (hold e2 r2) hs
 ·intro g hg
  obtain ⟨c, hc⟩ := h.glob g hg
  exact ⟨c, hle _ _ hc⟩
 ·intro b s hb
  rw [hw, Array.size_push]
  by_cases e : b = m.next
  ·subst e
   rw [Ren.set_same] at hb
   cases hb
   simp
  have := h.inb _ _ (hold e hb)
  omega
 ·intro i hi
  have : i ≠ m.next := by simp only [AW.new] at hi; omega
  simp [Ren.set, this]
 ·rw [hw, Array.size_push]; omega
 ·intro B hB _
  rw [hw, heap_push_old hB]
 ·rintro B ⟨b, o, s, h1, h2, h3, h4⟩
  rw [AW.new_get] at h1
  split at h1
  ·rename_i e
   subst e
   rw [Ren.set_same] at h3
   cases h3
   exact .inr (by simp at h4; omega)
  rename_i e
  exact .inl ⟨b, o, s, h1, h2, hold e h3, h4⟩
 ·simp [AW.new]
 rintro B ⟨b, o, s, h1, h3, h4⟩
 rw [AW.new_get] at h1
 split at h1
 ·rename_i e
  subst e
  rw [Ren.set_same] at h3
  cases h3
  exact .inr (by simp at h4; omega)
 rename_i e
 exact .inl ⟨b, o, s, h1, hold e h3, h4⟩
theorem Rel.put (h : Rel P ρ m w) (hb : m.heap.get b = some o) (hs : ρ b = some s) (hro : isRo o = false) (_hro' : isRo o' = false)
  (hal : ∀ b2 o2 s2, b2 ≠ b → m.heap.get b2 = some o2 → ρ b2 = some s2 → s2.blk ≠ s.blk) (hx : XRel P ρ s o' y) :
  Rel P ρ (m.set b (some o')) (setBlk w s.blk y) ∧ Grow ρ ρ m (m.set b (some o')) w (setBlk w s.blk y) := by
 have hin := h.inb _ _ hs
 refine ⟨⟨?_, ?_, h.glob, ?_⟩, ⟨.refl _, fun _ _ => rfl, ⟨rfl, rfl, rfl⟩, by rw [setBlk_size]; exact Nat.le_refl _, ?_, ?_, by simp [AW.set], ?_⟩⟩
 ·intro b2 o2 hb2
  rw [AW.set_get] at hb2
  split at hb2
  ·rename_i e
   subst e
   simp only [Option.some.injEq] at hb2
   subst hb2
   exact ⟨s, y, hs, by rw [setBlk_get hin, if_pos rfl], hx⟩
  rename_i e
  obtain ⟨s2, y2, h1, h2, h3⟩ := h.obj b2 o2 hb2
  exact ⟨s2, y2, h1, by rw [setBlk_get hin, if_neg (hal b2 o2 s2 e hb2 h1)]; exact h2, h3⟩
 ·intro b1 b2 o1 o2 s1 s2 hne g1 g2 r1 r2 he
  rw [AW.set_get] at g1 g2
  split at g1
  ·rename_i e1
   have e2 : b2 ≠ b := fun e => hne (e1.trans e.symm)
   rw [if_neg e2] at g2
   rw [e1, hs] at r1
   cases r1
   exact absurd he.symm (hal b2 o2 s2 e2 g2 r2)
  rename_i e1
  split at g2
  ·rename_i e2
   rw [e2, hs] at r2
   cases r2
   exact absurd he (hal b1 o1 s1 e1 g1 r1)
  exact h.sep b1 b2 o1 o2 s1 s2 hne g1 g2 r1 r2 he
 ·intro b2 s2 hb2
  rw [setBlk_size]
  exact h.inb _ _ hb2
 ·intro B hB hno
  have : B ≠ s.blk := fun e => hno ⟨b, o, s, hb, hro, hs, e.symm⟩
  rw [setBlk_get hin, if_neg this]
 ·rintro B ⟨b2, o2, s2, h1, h2, h3, h4⟩
  rw [AW.set_get] at h1
  split at h1
  ·rename_i e
   subst e
   exact .inl ⟨b2, o, s2, hb, hro, h3, h4⟩
  exact .inl ⟨b2, o2, s2, h1, h2, h3, h4⟩
 rintro B ⟨b2, o2, s2, h1, h3, h4⟩
 rw [AW.set_get] at h1
 split at h1
 ·rename_i e
  subst e
  exact .inl ⟨b2, o, s2, hb, h3, h4⟩
 exact .inl ⟨b2, o2, s2, h1, h3, h4⟩
theorem Grow.kill (mt : Option Nat) (ρ : Ren) (m : AW) (w : World) : Grow ρ ρ m (Ab.kill m mt) w w :=
 ⟨.refl _, fun _ _ => rfl, .refl _, Nat.le_refl _, fun _ _ _ => rfl, fun B ⟨b, o, s, h1, h2⟩ => .inl ⟨b, o, s, by
  rw [kill_get] at h1
  split at h1
  ·cases h1
  ·exact h1, h2⟩, by rw [kill_next]; exact Nat.le_refl _, fun B ⟨b, o, s, h1, h2⟩ => .inl ⟨b, o, s, by
  rw [kill_get] at h1
  split at h1
  ·cases h1
  exact h1, h2⟩⟩
theorem alone (h : Rel P ρ m w) (hb : m.heap.get b = some o) (hs : ρ b = some s) (hro : isRo o = false) :
  ∀ b2 o2 s2, b2 ≠ b → (kill m (mateOf o)).heap.get b2 = some o2 → ρ b2 = some s2 → s2.blk ≠ s.blk := by
 intro b2 o2 s2 hne g r e
 rw [kill_get] at g
 split at g
 ·cases g
 rename_i hm
 rcases h.sep b2 b o2 o s2 s hne g hb r hs e with ⟨_, h2⟩ | ⟨_, h2⟩
 ·exact hm h2
 rw [hro] at h2; cases h2
end
end Go.Ab
namespace Go.Ab
variable [Vals]
section
variable {P : Program} {ρ ρ' : Ren} {m m' : AW} {w w' : World}
theorem sub_kill {mt : Option Nat} : ∀ b o, (kill m mt).heap.get b = some o → m.heap.get b = some o := by
 intro b o h
 rw [kill_get] at h
 split at h
 ·cases h
 exact h
theorem Rel.put2 (h : Rel P ρ m w) {m0 : AW} (hsub : ∀ b o, m0.heap.get b = some o → m.heap.get b = some o) (hn : m0.next = m.next) (hb : m.heap.get b = some o) (hs : ρ b = some s) (hro : isRo o = false) (hro' : isRo o' = false)
  (hal : ∀ b2 o2 s2, b2 ≠ b → m0.heap.get b2 = some o2 → ρ b2 = some s2 → s2.blk ≠ s.blk) (hx : XRel P ρ s o' y) :
  Rel P ρ (m0.set b (some o')) (setBlk w s.blk y) ∧ Grow ρ ρ m (m0.set b (some o')) w (setBlk w s.blk y) := by
 have hin := h.inb _ _ hs
 have h1 : Rel P ρ (m0.set b (some o)) w := h.sub fun b2 o2 hb2 => by
  rw [AW.set_get] at hb2
  split at hb2
  ·rename_i e
   subst e
   cases hb2
   exact hb
  exact hsub _ _ hb2
 have hput := h1.put (b := b) (o := o) (o' := o') (s := s) (y := y) (by rw [AW.set_get, if_pos rfl]) hs hro hro' (fun b2 o2 s2 hne g r => hal b2 o2 s2 hne (by rw [AW.set_get, if_neg hne] at g; exact g) r) hx
 have hh : ∀ c, ((m0.set b (some o)).set b (some o')).heap.get c = (m0.set b (some o')).heap.get c := by
  intro c
  simp only [AW.set_get]
  split <;> rfl
 refine ⟨⟨fun b2 o2 g => hput.1.obj b2 o2 (by rw [hh]; exact g), fun b1 b2 o1 o2 s1 s2 hne g1 g2 => hput.1.sep b1 b2 o1 o2 s1 s2 hne (by rw [hh]; exact g1) (by rw [hh]; exact g2), hput.1.glob, hput.1.inb⟩,
  ⟨.refl _, fun _ _ => rfl, ⟨rfl, rfl, rfl⟩, by rw [setBlk_size]; exact Nat.le_refl _, ?_, ?_, by simp [AW.set, hn], ?_⟩⟩
 ·intro B hB hno
  have : B ≠ s.blk := fun e => hno ⟨b, o, s, hb, hro, hs, e.symm⟩
  rw [setBlk_get hin, if_neg this]
 ·rintro B ⟨b2, o2, s2, h1, h2, h3, h4⟩
  rw [AW.set_get] at h1
  split at h1
  ·rename_i e
   subst e
   exact .inl ⟨b2, o, s2, hb, hro, h3, h4⟩
  exact .inl ⟨b2, o2, s2, hsub _ _ h1, h2, h3, h4⟩
 rintro B ⟨b2, o2, s2, h1, h3, h4⟩
 rw [AW.set_get] at h1
 split at h1
 ·rename_i e
  subst e
  exact .inl ⟨b2, o, s2, hb, h3, h4⟩
 exact .inl ⟨b2, o2, s2, hsub _ _ h1, h3, h4⟩
theorem writes_ro {mt : Option Nat} (h : md.writes = true) : isRo (.cells cs e g md mt) = false := by
 cases md <;> simp_all [CMode.writes, isRo]
theorem flats_rel : ∀ {vs vs' : List Value}, VsRel ρ vs vs' → flats vs = true → flats vs' = true
 | _, _, .nil, _ => rfl
 | v :: _, _, .cons h hs, hf => by
  simp only [flats, List.all_cons, Bool.and_eq_true] at hf ⊢
  refine ⟨?_, flats_rel hs hf.2⟩
  by_cases hsy : ∃ i, v = .chan (some i)
  ·obtain ⟨i, rfl⟩ := hsy
   cases h
   have := Vals.sc i
   cases hv : Vals.val i <;> simp_all [flat, scalar]
  cases h <;> simp_all [flat]
theorem putCells_rel {c : Array Value} (hc : ∀ i v, cs[i]? = some v → ∃ v', c[o + i]? = some v' ∧ VRel ρ v v') (hle : off + vs.length ≤ cs.length) (hsz : o + cs.length ≤ c.size) (hv : VsRel ρ vs vs') :
  ∀ i v, (putCells cs off vs)[i]? = some v → ∃ v', (⟨putCells c.toList (o + off) vs'⟩ : Array Value)[o + i]? = some v' ∧ VRel ρ v v' := by
 intro i v hi
 rw [putCells_get _ _ _ _ hle] at hi
 have e1 : (⟨putCells c.toList (o + off) vs'⟩ : Array Value)[o + i]? = (putCells c.toList (o + off) vs')[o + i]? := by simp
 rw [e1, putCells_get _ _ _ _ (by rw [← hv.length_eq]; simp; omega), ← hv.length_eq]
 by_cases hin : off ≤ i ∧ i < off + vs.length
 ·rw [if_pos hin] at hi
  rw [if_pos (by omega)]
  obtain ⟨v', h1, h2⟩ := hv.get hi
  exact ⟨v', by rw [show o + i - (o + off) = i - off by omega]; exact h1, h2⟩
 rw [if_neg hin] at hi
 rw [if_neg (by omega)]
 obtain ⟨v', h1, h2⟩ := hc i v hi
 exact ⟨v', by simpa using h1, h2⟩
theorem storeA_rel (h : Rel P ρ m w) (hs : storeA m b off vs = some m') (hv : VsRel ρ vs vs') (ha : vs ≠ [] → ∃ s, ρ b = some s ∧ a' = ⟨s.blk, s.off + off, none⟩) :
  ∃ w', (storeCells a' vs' 0).run P w = .ok () w' ∧ Rel P ρ m' w' ∧ Grow ρ ρ m m' w w' := by
 unfold storeA at hs
 split at hs
 ·cases hv
  cases hs
  exact ⟨w, by simp [storeCells], h, .refl _ _ _⟩
 rename_i v0 vs0
 obtain ⟨s, hsp, rfl⟩ := ha (by simp)
 split at hs
 ·rename_i cs e g md mt hb
  obtain ⟨hc, hs⟩ := bif_some hs
  simp only [Bool.and_eq_true, nble, decide_eq_true_eq, Option.some.injEq] at hc hs
  obtain ⟨⟨hw, hle⟩, hf⟩ := hc
  subst hs
  obtain ⟨s2, x, h1, h2, h3⟩ := h.obj _ _ hb
  rw [hsp] at h1
  cases h1
  obtain ⟨c, fr, rfl, hsz, hcell, hg1, hg2, hfr⟩ := h3
  have hl := hv.length_eq
  have hrun := run_storeCells (P := P) (b := s.blk) (off := s.off + off) vs' 0 w c e fr h2 (by rw [← hl]; omega) (flats_rel hv hf) (by
   intro j j1 j2 j3
   rw [← hl] at j2
   cases md with
   | plain => simp only [FrOk] at hfr; omega
   | strish => exact hfr j (by omega) j3
   | frozen => simp [CMode.writes] at hw
   | ro => simp [CMode.writes] at hw)
  rw [Nat.add_zero] at hrun
  have hro : isRo (.cells cs e g md mt) = false := writes_ro hw
  have hlen : (putCells cs off (v0 :: vs0)).length = cs.length := putCells_length _ _ _ hle
  have hcl : c.toList.length = c.size := by simp
  have hlen' : (putCells c.toList (s.off + off) vs').length = c.size := by
   rw [putCells_length _ _ _ (by omega)]
   exact hcl
  have := h.put2 (m0 := kill m mt) sub_kill kill_next (o' := .cells (putCells cs off (v0 :: vs0)) e g md none) (y := .cells ⟨putCells c.toList (s.off + off) vs'⟩ e fr) hb hsp hro (writes_ro hw) (alone h hb hsp hro) (by
   refine ⟨_, fr, rfl, ?_, putCells_rel hcell hle hsz hv, ?_, ?_, ?_⟩
   ·rw [hlen]; show _ ≤ (putCells _ _ _).length; rw [hlen']; exact hsz
   ·intro hg
    rw [hlen]
    exact ⟨(hg1 hg).1, by show (putCells _ _ _).length = _; rw [hlen']; exact (hg1 hg).2⟩
   ·intro hg
    exact ⟨(hg2 hg).1, by show _ ≤ (putCells _ _ _).length; rw [hlen']; exact (hg2 hg).2⟩
   rw [hlen]
   show FrOk md _ (putCells _ _ _).length fr
   rw [hlen']
   exact hfr)
  exact ⟨_, hrun, this.1, this.2⟩
 simp at hs
def Does (P : Program) (ρ : Ren) (m : AW) (w : World) (s : Sem Next) (v : Value) (m' : AW) : Prop :=
 ∃ ρ' w' r, s.run P w = .ok r w' ∧ Rel P ρ' m' w' ∧ Grow ρ ρ' m m' w w' ∧ ((∃ v', r = .value v' ∧ VRel ρ' v v') ∨ (r = .skip ∧ v = undef))
def DoesV (P : Program) (ρ : Ren) (m : AW) (w : World) (s : Sem Value) (v : Value) (m' : AW) : Prop :=
 ∃ ρ' w' v', s.run P w = .ok v' w' ∧ Rel P ρ' m' w' ∧ Grow ρ ρ' m m' w w' ∧ VRel ρ' v v'
theorem DoesV.does (h : DoesV P ρ m w s v m') : Does P ρ m w (do pure (Next.value (← s))) v m' := by
 obtain ⟨ρ', w', v', h1, h2, h3, h4⟩ := h
 exact ⟨ρ', w', .value v', by simp only [Sem.run_bind, h1, Result.andThen_ok, Sem.run_pure], h2, h3, .inl ⟨v', rfl, h4⟩⟩
theorem Does.unit (h : ∃ w', s.run P w = .ok () w' ∧ Rel P ρ m' w' ∧ Grow ρ ρ m m' w w') : Does P ρ m w (do s; pure Next.skip) undef m' := by
 obtain ⟨w', h1, h2, h3⟩ := h
 exact ⟨ρ, w', .skip, by simp only [Sem.run_bind, h1, Result.andThen_ok, Sem.run_pure], h2, h3, .inr ⟨rfl, rfl⟩⟩
theorem valM_some (h : valM v x = some (.val v2 m')) : v2 = v ∧ x = some m' := by
 unfold valM at h
 split at h
 ·simp only [Option.some.injEq, Rs.val.injEq] at h
  obtain ⟨rfl, rfl⟩ := h
  exact ⟨rfl, rfl⟩
 simp at h
theorem storeV_rel (h : Rel P ρ m w) (hs : storeV P t a x m = some (.val v m')) (ha : VRel ρ a a') (hx : VRel ρ x x') : v = undef ∧ ∃ w', (Instr.storeAt t a' x').run P w = .ok () w' ∧ Rel P ρ m' w' ∧ Grow ρ ρ m m' w w' := by
 unfold storeV at hs
 split at hs
 ·rename_i b off
  split at hs
  ·rename_i n hn
   obtain ⟨hl, hs⟩ := bif_some hs
   simp only [nbeq, decide_eq_true_eq] at hl
   obtain ⟨rfl, hs2⟩ := valM_some hs
   refine ⟨rfl, ?_⟩
   cases ha with
   | ptr hb =>
    rename_i s
    obtain ⟨w', h1, h2⟩ := storeA_rel h hs2 hx.cells (a' := ⟨s.blk, s.off + off, none⟩) (fun _ => ⟨s, hb, rfl⟩)
    refine ⟨w', ?_, h2⟩
    have hsz : x'.cells.size = n := by rw [cells_eq, ← hl, hx.cells.length_eq]; rfl
    simp only [Instr.storeAt, storeVar, Instr.sureAddr, Sem.run_bind, Sem.run_pure, Result.andThen_ok, run_size hn, hsz, ne_eq, not_true_eq_false, if_false]
    rw [cells_eq]
    exact h1
  simp at hs
 simp at hs
end
end Go.Ab
namespace Go.Ab
variable [Vals]
section
variable {P : Program} {ρ ρ' : Ren} {m m' : AW} {w w' : World}
theorem sameKeys_eq {d n : Nat} (ih : ∀ a b, sameKey d a b = true → a = b ∧ Instr.sameBits n a b = true) : ∀ (a b : List Value), sameKeys (sameKey d) a b = true → a = b ∧ ((a.zip b).all fun (x, y) => Instr.sameBits n x y) = true
 | [], [], _ => by simp
 | x :: xs, y :: ys, h => by
  simp only [sameKeys, Bool.and_eq_true] at h
  obtain ⟨h1, h2⟩ := ih x y h.1
  obtain ⟨h3, h4⟩ := sameKeys_eq ih xs ys h.2
  subst h1 h3
  refine ⟨rfl, ?_⟩
  simp only [List.zip_cons_cons, List.all_cons, Bool.and_eq_true]
  exact ⟨h2, h4⟩
 | [], _ :: _, h => by simp [sameKeys] at h
 | _ :: _, [], h => by simp [sameKeys] at h
theorem sameKey_eq : ∀ (d n : Nat) (a b : Value), d ≤ n → sameKey d a b = true → a = b ∧ Instr.sameBits n a b = true
 | 0, _, _, _, _, h => by simp [sameKey] at h
 | d + 1, 0, _, _, hn, _ => by omega
 | d + 1, n + 1, a, b, hn, h => by
  unfold sameKey at h
  split at h
  ·split at h
   ·simp only [beq_iff_eq] at h
    subst h
    exact ⟨rfl, by simp [Instr.sameBits]⟩
   cases h
  ·split at h
   ·simp only [Bool.and_eq_true, decide_eq_true_eq, eqI_eq] at h
    obtain ⟨rfl, rfl⟩ := h
    exact ⟨rfl, by simp [Instr.sameBits]⟩
   cases h
  ·split at h
   ·rename_i s1 _ s2
    simp only [eqBytes_eq, decide_eq_true_eq] at h
    have : s1 = s2 := ByteArray.ext (Array.toList_inj.1 h)
    subst this
    refine ⟨rfl, by simp [Instr.sameBits, beq_toListBytes]⟩
   cases h
  ·split at h
   ·rename_i xs _ ys
    obtain ⟨h1, h2⟩ := sameKeys_eq (n := n) (fun a b hab => sameKey_eq d n a b (by omega) hab) xs ys h
    subst h1
    refine ⟨rfl, ?_⟩
    unfold Instr.sameBits
    simp only [beq_self_eq_true, Bool.true_and]
    exact h2
   cases h
  cases h
theorem EsRel.get (h : EsRel ρ es es') : ∀ {i : Nat} {e : MapEntry}, es[i]? = some e → ∃ e', es'[i]? = some e' ∧ VRel ρ e.key e'.key ∧ VRel ρ e.val e'.val := by
 induction h with
 | nil => intro i e hi; simp at hi
 | cons hk hv hb hs ih =>
  intro i e hi
  cases i with
  | zero => simp only [List.getElem?_cons_zero, Option.some.injEq] at hi; subst hi; exact ⟨_, by simp, hk, hv⟩
  | succ i => simpa using ih (by simpa using hi)
theorem EsRel.modify (h : EsRel ρ es es') (hk : VRel ρ k k) (hx : VRel ρ x x') : ∀ (i : Nat), EsRel ρ (es.modify i fun e => { e with key := k, val := x }) (es'.modify i fun e => { e with key := k, val := x' }) := by
 induction h with
 | nil => intro i; cases i <;> exact .nil
 | cons hk1 hv hb hs ih =>
  intro i
  cases i with
  | zero => exact .cons hk hx hb hs
  | succ i => exact .cons hk1 hv hb (ih i)
theorem EsRel.push (h : EsRel ρ es es') (hk : VRel ρ e.key e'.key) (hx : VRel ρ e.val e'.val) (hb : e.born = e'.born) : EsRel ρ (es ++ [e]) (es' ++ [e']) := by
 induction h with
 | nil => exact .cons hk hx hb .nil
 | cons hk1 hv hb1 hs ih => exact .cons hk1 hv hb1 ih
theorem EsRel.erase (h : EsRel ρ es es') : ∀ (i : Nat), EsRel ρ (es.eraseIdx i) (es'.eraseIdx i) := by
 induction h with
 | nil => intro i; exact .nil
 | cons hk1 hv hb1 hs ih =>
  intro i
  cases i with
  | zero => exact hs
  | succ i => exact .cons hk1 hv hb1 (ih i)
theorem toList_eraseIf (a : Array MapEntry) (i : Nat) : (a.eraseIdxIfInBounds i).toList = a.toList.eraseIdx i := by
 unfold Array.eraseIdxIfInBounds
 split
 ·simp
 rw [List.eraseIdx_of_length_le (by simp; omega)]
theorem run_setObj_any (h : w.heap[r]? = some o) (hc : ∀ c e f, o ≠ .cells c e f) : (setObj r o').run P w = .ok () (setBlk w r o') := by
 simp only [setObj, Sem.run, h]
 cases o <;> first | rfl | exact absurd rfl (hc _ _ _)
theorem map_put (h : Rel P ρ m w) (hb : m.heap.get r = some (.map es clock)) (hs : ρ r = some s) (hw : w.heap[s.blk]? = some (.map es' clock)) (he : EsRel ρ es1 es1'.toList) (h0 : s.off = 0) :
  (setObj s.blk (.map es1' clock1)).run P w = .ok () (setBlk w s.blk (.map es1' clock1)) ∧ Rel P ρ (m.set r (some (.map es1 clock1))) (setBlk w s.blk (.map es1' clock1)) ∧ Grow ρ ρ m (m.set r (some (.map es1 clock1))) w (setBlk w s.blk (.map es1' clock1)) := by
 have := h.put (o' := .map es1 clock1) (y := .map es1' clock1) hb hs rfl rfl (alone h hb hs rfl) ⟨h0, es1', rfl, he⟩
 exact ⟨run_setObj_any hw (by intros; simp), this⟩
theorem mapSet_rel (h : Rel P ρ m w) (hs : mapSet P t mp k x m = some (.val v m')) (hm : VRel ρ mp mp') (hk : VRel ρ k k') (hx : VRel ρ x x') :
  v = undef ∧ ∃ w', (Instr.mapUpdate t mp' k' x').run P w = .ok () w' ∧ Rel P ρ m' w' ∧ Grow ρ ρ m m' w w' := by
 unfold mapSet at hs
 split at hs
 ·rename_i r
  split at hs
  ·rename_i kt et ht
   obtain ⟨hkv, hs⟩ := bif_some hs
   simp only [Bool.and_eq_true] at hkv
   have hk2 : k' = k := ground_eq hk hkv.2
   subst hk2
   have hkt : ∃ td, P.underlying kt = some td := by
    cases hh : P.underlying kt with
    | none => have := hkv.1; unfold keyV at this; rw [hh] at this; simp at this
    | some td => exact ⟨td, rfl⟩
   obtain ⟨td, htd⟩ := hkt
   split at hs
   ·rename_i es clock hb
    split at hs
    ·rename_i o ho
     simp only [Option.some.injEq, Rs.val.injEq] at hs
     obtain ⟨rfl, rfl⟩ := hs
     refine ⟨rfl, ?_⟩
     obtain ⟨s, y, h1, h2, h0, es', rfl, hes⟩ := h.obj _ _ hb
     cases hm with
     | map hr _ =>
      rw [h1] at hr
      cases hr
      have hg : (getObj s.blk).run P w = .ok (.map es' clock) w := by simp [getObj, Sem.run, h2]
      unfold mapPut at ho
      split at ho
      ·rename_i i u hf
       obtain ⟨hsk, ho⟩ := bif_some ho
       simp only [Option.some.injEq] at ho
       subst ho
       obtain ⟨r0, hr0, hfr⟩ := findKey_rel htd hk hes hf w
       cases hfr with
       | some hu =>
        rename_i u'
        unfold sameKeyAt at hsk
        split at hsk
        ·rename_i e he
         obtain ⟨hek, hbits⟩ := sameKey_eq 20 10000 _ _ (by omega) hsk
         obtain ⟨e', he', hrk, hrv⟩ := hes.get he
         rw [hek] at hrk
         have hek' : e'.key = k' := ground_eq hrk hkv.2
         rw [hek] at hbits
         obtain ⟨p1, p2⟩ := map_put (es1' := es'.modify i fun e => { e with key := k', val := x' }) (clock1 := clock) h hb h1 h2 (by simpa using hes.modify hk hx i) h0
         refine ⟨_, ?_, p2⟩
         have he2 : es'[i]? = some e' := by simpa using he'
         simp only [Instr.mapUpdate, Sem.run_bind, run_und ht, Result.andThen_ok, hg]
         rw [checkKey_run 20 10000 _ _ _ _ (by omega) hkv.1]
         simp only [Result.andThen_ok, hr0, he2, Option.map_some, Option.getD_some, hek', Instr.keyThatStays, hbits, if_true]
         exact p1
        cases hsk
      ·rename_i hf
       simp only [Option.some.injEq] at ho
       subst ho
       obtain ⟨r0, hr0, hfr⟩ := findKey_rel htd hk hes hf w
       cases hfr
       obtain ⟨p1, p2⟩ := map_put (es1' := es'.push { key := k', val := x', born := clock }) (clock1 := clock + 1) h hb h1 h2 (by simpa using hes.push (e := { key := k', val := x, born := clock }) (e' := { key := k', val := x', born := clock }) hk hx rfl) h0
       refine ⟨_, ?_, p2⟩
       simp only [Instr.mapUpdate, Sem.run_bind, run_und ht, Result.andThen_ok, hg]
       rw [checkKey_run 20 10000 _ _ _ _ (by omega) hkv.1]
       simp only [Result.andThen_ok, hr0]
       exact p1
      simp at ho
    simp at hs
   simp at hs
  simp at hs
 simp at hs
theorem setBlk_same (h : w.heap[b]? = some o) : setBlk w b o = w := by
 unfold setBlk
 have : w.heap.setIfInBounds b o = w.heap := by
  apply Array.ext_getElem?
  intro j
  rw [Array.getElem?_setIfInBounds]
  by_cases hj : b = j
  ·subst hj
   obtain ⟨hb, h2⟩ := Array.getElem?_eq_some_iff.1 h
   simp [hb, h2]
  simp [hj]
 rw [this]
theorem deleteV_rel (h : Rel P ρ m w) (hs : deleteV P ts[0]? mp k m = some (.val v m')) (hm : VRel ρ mp mp') (hk : VRel ρ k k') :
    DoesV P ρ m w (Builtin.delete_ ts ty #[mp', k']) v m' := by
  unfold deleteV at hs
  split at hs
  · rename_i kt et ht
    obtain ⟨mt, hmt, ht⟩ := Option.bind_eq_some_iff.1 ht
    obtain ⟨hkv, hs⟩ := bif_some hs
    simp only [Bool.and_eq_true] at hkv
    have hk2 : k' = k := ground_eq hk hkv.2
    subst hk2
    have hkt : ∃ td, P.underlying kt = some td := by
      cases hh : P.underlying kt with
      | none => have := hkv.1; unfold keyV at this; rw [hh] at this; simp at this
      | some td => exact ⟨td, rfl⟩
    obtain ⟨td, htd⟩ := hkt
    have hdef : Builtin.delete_ ts ty #[mp', k'] = (do
        let .map keyType _ ← underlying mt | stuck "delete: map type expected"
        match mp' with
        | .map none => Instr.checkKey true 10000 keyType k'
        | .map (some r) =>
          let .map es clock ← getObj r | stuck "delete: map expected"
          Instr.checkKey es.isEmpty 10000 keyType k'
          match ← Instr.findKey keyType k' es.toList with
          | some (i, _) => setObj r (.map (es.eraseIdxIfInBounds i) clock)
          | none => setObj r (.map es clock)
        | _ => stuck "delete: map expected"
        pure (.tuple #[])) := by
      unfold Builtin.delete_
      simp only [hmt]
      rfl
    rw [hdef]
    split at hs
    · cases hm
      simp only [Option.some.injEq, Rs.val.injEq] at hs
      obtain ⟨rfl, rfl⟩ := hs
      refine ⟨ρ, w, .tuple #[], ?_, h, .refl _ _ _, undef_rel _⟩
      simp only [Sem.run_bind, run_und ht, Result.andThen_ok, Sem.run_pure]
      rw [checkKey_run 20 10000 _ _ _ _ (by omega) hkv.1]
      rfl
    · rename_i r
      split at hs
      · rename_i es clock hb
        obtain ⟨s, y, h1, h2, h0, es', rfl, hes⟩ := h.obj _ _ hb
        cases hm with
        | map hr _ =>
          rw [h1] at hr
          cases hr
          have hg : (getObj s.blk).run P w = .ok (.map es' clock) w := by simp [getObj, Sem.run, h2]
          split at hs
          · rename_i i u hf
            simp only [Option.some.injEq, Rs.val.injEq] at hs
            obtain ⟨rfl, rfl⟩ := hs
            obtain ⟨r0, hr0, hfr⟩ := findKey_rel htd hk hes hf w
            cases hfr with
            | some hu =>
              rename_i u'
              obtain ⟨p1, p2, p3⟩ := map_put (es1' := es'.eraseIdxIfInBounds i) (clock1 := clock) h hb h1 h2 (by rw [toList_eraseIf]; exact hes.erase i) h0
              refine ⟨ρ, _, .tuple #[], ?_, p2, p3, undef_rel _⟩
              simp only [Sem.run_bind, run_und ht, Result.andThen_ok, hg]
              rw [checkKey_run 20 10000 _ _ _ _ (by omega) hkv.1]
              simp only [Result.andThen_ok, hr0, Sem.run_bind, p1, Sem.run_pure]
          · rename_i hf
            simp only [Option.some.injEq, Rs.val.injEq] at hs
            obtain ⟨rfl, rfl⟩ := hs
            obtain ⟨r0, hr0, hfr⟩ := findKey_rel htd hk hes hf w
            cases hfr
            refine ⟨ρ, w, .tuple #[], ?_, h, .refl _ _ _, undef_rel _⟩
            simp only [Sem.run_bind, run_und ht, Result.andThen_ok, hg]
            rw [checkKey_run 20 10000 _ _ _ _ (by omega) hkv.1]
            simp only [Result.andThen_ok, hr0, Sem.run_bind, run_setObj_any h2 (by intros; simp), setBlk_same h2, Sem.run_pure]
          · simp at hs
      · simp at hs
    · simp at hs
  · simp at hs
theorem rangeA_rel (h : Rel P ρ m w) (hf : ρ m.next = none) (hs : rangeA P t x m = some (.val v m')) (hx : VRel ρ x x') : DoesV P ρ m w (Instr.range t x') v m' := by
 unfold rangeA at hs
 split at hs
 ·rename_i str
  cases hx
  split at hs
  ·rename_i ht
   simp only [Option.some.injEq, Rs.val.injEq] at hs
   obtain ⟨rfl, rfl⟩ := hs
   have hn := h.new hf (x := .siter str 0) (y := .stringIter str 0) (cap := 0) (w' := w.alloc (.stringIter str 0)) rfl ⟨rfl, rfl, rfl⟩ ⟨rfl, rfl⟩
   refine ⟨_, _, .pointer (some ⟨w.heap.size, 0, none⟩), ?_, hn.1, hn.2, ?_⟩
   ·simp only [Instr.range, Sem.run_bind, run_und ht, Result.andThen_ok, Sem.run_pure, run_newObj]
    rfl
   exact .ptr (off := 0) (Ren.set_same _ _ _)
  simp at hs
 ·cases hx
  split at hs
  ·rename_i ht
   simp only [Option.some.injEq, Rs.val.injEq] at hs
   obtain ⟨rfl, rfl⟩ := hs
   have hn := h.new hf (x := .miter none 0 [] 0) (y := .mapIter none 0 #[] 0) (cap := 0) (w' := w.alloc (.mapIter none 0 #[] 0)) rfl ⟨rfl, rfl, rfl⟩ ⟨rfl, none, rfl, .inl ⟨rfl, rfl⟩⟩
   refine ⟨_, _, .pointer (some ⟨w.heap.size, 0, none⟩), ?_, hn.1, hn.2, ?_⟩
   ·simp only [Instr.range, Sem.run_bind, run_und ht, Result.andThen_ok, Sem.run_pure, run_newObj]
    rfl
   exact .ptr (off := 0) (Ren.set_same _ _ _)
  simp at hs
 ·rename_i r
  cases hx with
  | map hr hr0 =>
   rename_i s
   split at hs
   ·rename_i ht
    split at hs
    ·rename_i es clock hb
     simp only [Option.some.injEq, Rs.val.injEq] at hs
     obtain ⟨rfl, rfl⟩ := hs
     obtain ⟨s2, y, h1, h2, h0, es', rfl, hes⟩ := h.obj _ _ hb
     rw [hr] at h1
     cases h1
     have hle : ρ.le (ρ.set m.next ⟨w.heap.size, 0, 0⟩) := Ren.le_set hf
     have hn := h.new hf (x := .miter (some r) clock [] clock) (y := .mapIter (some s.blk) clock #[] clock) (cap := 0) (w' := w.alloc (.mapIter (some s.blk) clock #[] clock)) rfl ⟨rfl, rfl, rfl⟩ ⟨rfl, some s.blk, rfl, .inr ⟨r, s, rfl, hle _ _ hr, hr0, rfl⟩⟩
     have hg : (getObj s.blk).run P w = .ok (.map es' clock) w := by simp [getObj, Sem.run, h2]
     refine ⟨_, _, .pointer (some ⟨w.heap.size, 0, none⟩), ?_, hn.1, hn.2, ?_⟩
     ·simp only [Instr.range, Sem.run_bind, run_und ht, Result.andThen_ok, hg, Sem.run_pure, run_newObj]
      rfl
     exact .ptr (off := 0) (Ren.set_same _ _ _)
    simp at hs
   simp at hs
 simp at hs
theorem nextA_rel (h : Rel P ρ m w) (hs : nextA x isStr m = some (.val v m')) (hx : VRel ρ x x') : DoesV P ρ m w (Instr.next x' isStr ty) v m' := by
  unfold nextA at hs
  split at hs
  · rename_i r
    split at hs
    · rename_i str pos hb
      obtain ⟨rfl, hs⟩ := bif_some hs
      obtain ⟨s, y, h1, h2, h0, rfl⟩ := h.obj _ _ hb
      cases hx with
      | ptr hr =>
        rw [h1] at hr
        cases hr
        have hg : (getObj s.blk).run P w = .ok (.stringIter str pos) w := by simp [getObj, Sem.run, h2]
        by_cases hlt : pos < str.size
        · simp only [nblt, hlt, decide_true, cond_true, Option.some.injEq, Rs.val.injEq] at hs
          obtain ⟨rfl, rfl⟩ := hs
          have := h.put (o' := .siter str (pos + (Utf8.decode str pos).2)) (y := .stringIter str (pos + (Utf8.decode str pos).2)) hb h1 rfl rfl (alone h hb h1 rfl) ⟨h0, rfl⟩
          refine ⟨ρ, _, .tuple #[.bool true, goInt pos, .int .i32 (Utf8.decode str pos).1], ?_, this.1, this.2, .tuple (.cons (.bool _) (.cons (.int ..) (.cons (.int ..) .nil)))⟩
          simp only [h0, Nat.add_zero, Instr.next, Sem.run_bind, Result.andThen_ok, hg, Sem.run_pure, hlt, if_true, run_setObj_any h2 (by intros; simp)]
        · simp only [nblt, hlt, decide_false, cond_false] at hs
          obtain ⟨rfl, rfl⟩ := hs
          refine ⟨ρ, w, .tuple #[.bool false], ?_, h, .refl _ _ _, .tuple (.cons (.bool _) .nil)⟩
          simp only [h0, Nat.add_zero, Instr.next, Sem.run_bind, Result.andThen_ok, hg, Sem.run_pure, hlt, if_false]
    · rename_i mp since seen stepped hb
      cases isStr with
      | true => cases hs
      | false =>
        simp only [cond_false] at hs
        obtain ⟨s, y, h1, h2, h0, mp', rfl, hmp⟩ := h.obj _ _ hb
        cases hx with
        | ptr hr =>
          rw [h1] at hr
          cases hr
          have hg : (getObj s.blk).run P w = .ok (.mapIter mp' since ⟨seen⟩ stepped) w := by simp [getObj, Sem.run, h2]
          split at hs
          · simp only [Option.some.injEq, Rs.val.injEq] at hs
            obtain ⟨rfl, rfl⟩ := hs
            rcases hmp with ⟨_, rfl⟩ | ⟨_, _, e, _⟩
            · refine ⟨ρ, w, .tuple #[.bool false], ?_, h, .refl _ _ _, .tuple (.cons (.bool _) .nil)⟩
              simp only [h0, Nat.add_zero, Instr.next, Sem.run_bind, Result.andThen_ok, hg, Sem.run_pure]
            · cases e
          · rename_i r2
            split at hs
            · rename_i es clock hb2
              rcases hmp with ⟨e, _⟩ | ⟨r3, sm, e, hsm, hsm0, rfl⟩
              · cases e
              cases e
              obtain ⟨s2, y2, g1, g2, g0, es', rfl, hes⟩ := h.obj _ _ hb2
              rw [hsm] at g1
              cases g1
              have hg2 : (getObj sm.blk).run P w = .ok (.map es' clock) w := by simp [getObj, Sem.run, g2]
              obtain ⟨l'⟩ := es'
              have hes : EsRel ρ es l' := hes
              have hall := hes.all fun b => decide (b ≥ stepped)
              have hemp := hes.isEmpty
              have hfil := hes.filter fun b => !seen.contains b
              have hw0 : ∀ z, nextM es since seen stepped = some z → (!(⟨seen⟩ : Array Nat).isEmpty && !(⟨l'⟩ : Array MapEntry).isEmpty && (⟨l'⟩ : Array MapEntry).all (·.born ≥ stepped)) = false := by
                intro z hz
                unfold nextM at hz
                cases hc : (!seen.isEmpty && (!es.isEmpty && es.all fun e => decide (e.born ≥ stepped))) with
                | true => rw [hc] at hz; cases hz
                | false =>
                  rw [hall, hemp] at hc
                  rw [← hc]
                  simp [Bool.and_assoc]
              have hstep : ∀ z, nextM es since seen stepped = some z → (Instr.next (.pointer (some ⟨s.blk, s.off + 0, none⟩)) false ty).run P w =
                  ((do
                    let left := (⟨l'.filter fun e => !seen.contains e.born⟩ : Array MapEntry)
                    let old := left.filter (·.born < since)
                    let new := left.filter (·.born ≥ since)
                    let candidates := (if old.isEmpty then #[none] else #[]) ++ (old ++ new).map some
                    match candidates[← choose (.mapNext candidates.size)]? with
                    | some (some e) =>
                      setObj s.blk (.mapIter (some sm.blk) since ((⟨seen⟩ : Array Nat).push e.born) clock)
                      pure (.tuple #[.bool true, e.key, e.val])
                    | some none => pure (.tuple #[.bool false])
                    | none => stuck "Next: no such candidate" : Sem Value)).run P w := by
                intro z hz
                have := hw0 z hz
                simp only [h0, Nat.add_zero, Instr.next, Sem.run_bind, Result.andThen_ok, hg, hg2, this, Bool.false_eq_true, if_false]
                have e1 : (⟨l'⟩ : Array MapEntry).filter (fun e => !(⟨seen⟩ : Array Nat).contains e.born) = ⟨l'.filter fun e => !seen.contains e.born⟩ := by
                  simp [List.filter_toArray]
                rw [e1]
                rfl
              have hcase : ∀ z, nextM es since seen stepped = some z → (z = none ∧ es.filter (fun e => !seen.contains e.born) = []) ∨ (∃ e, z = some e ∧ es.filter (fun e => !seen.contains e.born) = [e] ∧ e.born < since) := by
                intro z hz
                unfold nextM at hz
                cases hc : (!seen.isEmpty && (!es.isEmpty && es.all fun e => decide (e.born ≥ stepped))) with
                | true => rw [hc] at hz; cases hz
                | false =>
                  rw [hc] at hz
                  simp only [cond_false] at hz
                  split at hz
                  · rename_i hf
                    cases hz
                    exact .inl ⟨rfl, hf⟩
                  · rename_i e hf
                    obtain ⟨hb, hz⟩ := bif_some hz
                    rw [nblt, decide_eq_true_eq] at hb
                    cases hz
                    exact .inr ⟨e, rfl, hf, hb⟩
                  · cases hz
              split at hs
              · rename_i hz
                simp only [Option.some.injEq, Rs.val.injEq] at hs
                obtain ⟨rfl, rfl⟩ := hs
                refine ⟨ρ, w, .tuple #[.bool false], ?_, h, .refl _ _ _, .tuple (.cons (.bool _) .nil)⟩
                rw [hstep _ hz]
                rcases hcase _ hz with ⟨_, hf⟩ | ⟨e, h3, _⟩
                · rw [hf] at hfil
                  have hnil : l'.filter (fun e => !seen.contains e.born) = [] := by
                    generalize l'.filter (fun e => !seen.contains e.born) = z at hfil
                    cases hfil
                    rfl
                  rw [hnil]
                  simp [run_choose, Question.forced, Question.cut]
                · cases h3
              · rename_i e hz
                simp only [Option.some.injEq, Rs.val.injEq] at hs
                obtain ⟨rfl, rfl⟩ := hs
                rcases hcase _ hz with ⟨h3, _⟩ | ⟨e2, h3, hf, hb3⟩
                · cases h3
                · cases h3
                  rw [hf] at hfil
                  have hone : ∃ e', l'.filter (fun e => !seen.contains e.born) = [e'] ∧ VRel ρ e.key e'.key ∧ VRel ρ e.val e'.val ∧ e.born = e'.born := by
                    generalize l'.filter (fun e => !seen.contains e.born) = z at hfil
                    cases hfil with
                    | cons hk hv hbn hs =>
                      cases hs
                      exact ⟨_, rfl, hk, hv, hbn⟩
                  obtain ⟨e', he', hk, hv, hbn⟩ := hone
                  have := h.put (o' := .miter (some r2) since (seen ++ [e.born]) clock) (y := .mapIter (some sm.blk) since ⟨seen ++ [e.born]⟩ clock) hb h1 rfl rfl (alone h hb h1 rfl) ⟨h0, some sm.blk, rfl, .inr ⟨r2, sm, rfl, hsm, hsm0, rfl⟩⟩
                  refine ⟨ρ, _, .tuple #[.bool true, e'.key, e'.val], ?_, this.1, this.2, .tuple (.cons (.bool _) (.cons hk (.cons hv .nil)))⟩
                  rw [hstep _ hz, he']
                  have hlt : e'.born < since := by rw [← hbn]; exact hb3
                  have hge : ¬ (e'.born ≥ since) := by omega
                  simp [hlt, hge, run_choose, Question.forced, Question.cut, run_setObj_any h2 (by intros; simp), hbn]
              · cases hs
            · cases hs
    · simp at hs
  · simp at hs
theorem entryA_rel (h : Rel P ρ m w) (hs : entryA x m = some (.val v m')) (hx : VRel ρ x x') : DoesV P ρ m w (Instr.entry x') v m' := by
 unfold entryA at hs
 split at hs
 ·rename_i r
  split at hs
  ·rename_i r2 since seen stepped hb
   split at hs
   ·rename_i stamp hst
    split at hs
    ·rename_i es clock hb2
     split at hs
     ·rename_i e hf
      have hck : clock = stepped := by
       cases hb3 : Nat.beq clock stepped with
       | true => exact Nat.eq_of_beq_eq_true hb3
       | false => rw [hb3] at hs; cases hs
      subst hck
      rw [show Nat.beq clock clock = true from Nat.beq_refl clock] at hs
      cases hs
      obtain ⟨s, y, h1, h2, h0, mp', rfl, hmp⟩ := h.obj _ _ hb
      rcases hmp with ⟨e0, _⟩ | ⟨r3, sm, e0, hsm, hsm0, rfl⟩
      ·cases e0
      cases e0
      obtain ⟨s2, y2, g1, g2, g0, es', rfl, hes⟩ := h.obj _ _ hb2
      rw [hsm] at g1
      cases g1
      cases hx with
      | ptr hr =>
       rw [h1] at hr
       cases hr
       have hg : (getObj s.blk).run P w = .ok (.mapIter (some sm.blk) since ⟨seen⟩ clock) w := by simp [getObj, Sem.run, h2]
       have hg2 : (getObj sm.blk).run P w = .ok (.map es' clock) w := by simp [getObj, Sem.run, g2]
       obtain ⟨l'⟩ := es'
       have hes : EsRel ρ es l' := hes
       obtain ⟨e', he', hk, hv⟩ := hes.find (fun b => b == stamp) hf
       have hback : (⟨seen⟩ : Array Nat).back? = some stamp := by rw [← hst]; simp
       have hfind : (⟨l'⟩ : Array MapEntry).find? (·.born == stamp) = some e' := by rw [← he']; simp
       refine ⟨ρ, w, .tuple #[e'.key, e'.val], ?_, h, .refl _ _ _, .tuple (.cons hk (.cons hv .nil))⟩
       simp only [h0, Nat.add_zero, Instr.entry, Sem.run_bind, Result.andThen_ok, hg, hback, hg2, Sem.run_pure, bne_self_eq_false, Bool.false_eq_true, if_false, hfind]
     cases hs
    cases hs
   cases hs
  cases hs
 cases hs
end
end Go.Ab
namespace Go.Ab
variable [Vals]
section
variable {P : Program} {ρ ρ' : Ren} {m m' : AW} {w w' : World}
theorem zeroCells_run (_hz : zeroT P t = some z) (hl : (cellsOfV z).length = sz) : Builtin.zeroCells z.cells n = ⟨replicateL (cellsOfV z) n⟩ := by
 unfold Builtin.zeroCells
 have hs : z.cells.size = sz := by rw [cells_eq]; exact hl
 rw [hs]
 by_cases h0 : n * sz = 0
 ·rw [h0]
  have : replicateL (cellsOfV z) n = [] := List.eq_nil_of_length_eq_zero (by rw [replicateL_length, hl, h0])
  rw [this]
  simp
 have := range_map (cellsOfV z) n sz hl h0
 have e1 : (⟨cellsOfV z⟩ : Array Value).size = sz := hl
 rw [e1] at this
 rw [← this, cells_eq]
theorem zeros_run (h : zerosT P t sz n = some zs) (w : World) :
  ((if n * sz = 0 then pure #[] else do pure (Builtin.zeroCells (← zeroValue t).cells n)) : Sem (Array Value)).run P w = .ok ⟨zs⟩ w := by
 unfold zerosT at h
 by_cases h0 : n * sz = 0
 ·simp only [nbeq, h0, decide_true, cond_true, Option.some.injEq] at h
  subst h
  simp [h0]
 simp only [nbeq, h0, decide_false, cond_false] at h
 split at h
 ·rename_i z hz
  obtain ⟨hl, h⟩ := bif_some h
  simp only [decide_eq_true_eq, Option.some.injEq] at hl h
  subst h
  rw [if_neg h0]
  simp only [Sem.run_bind, run_zero hz, Result.andThen_ok, zeroCells_run hz hl, Sem.run_pure]
 simp at h
inductive AppArg (P : Program) (w : World) (ts : Array TypeId) (e : TypeId) (sz : Nat) (x' : Value) (n : Nat) (vs' : List Value) : Prop where
 | zeros {xt : TypeId} {k k' : IntKind} (hx : ts[1]? = some xt) (ht : P.underlying xt = some (.int k)) (hxe : x' = .int k' (Int.ofNat n)) (hn : n ≤ 16777216) (hz : zerosT P e sz n = some vs')
 | cells {xt : TypeId} {td : TypeDesc} (hx : ts[1]? = some xt) (ht : P.underlying xt = some td) (hni : ∀ k, td ≠ .int k) (hl : ∀ w, (Builtin.lenOf x').run P w = .ok n w) (hc : ∀ d, (Builtin.firstCells sz n x').run P { w with drawn := d } = .ok ⟨vs'⟩ { w with drawn := d })
theorem append_in (hA : AppArg P w ts e sz x' n vs') (hst : ts[0]? = some st) (hu : P.underlying st = some (.slice e)) (hsz : sizeT P e = some sz)
  (hi : P.info? e = some i) (hb : i.bytes * n ≤ 281474976710656) (hle : l + n ≤ c) (hs : ((match base with | some a => storeCells (a.add (l * sz)) vs' | none => pure ()) : Sem Unit).run P w = .ok () w') :
  (Builtin.append_ ts ty #[.slice base l c, x']).run P w = .ok (.slice base (l + n) c) w' := by
 unfold Builtin.append_
 cases hA with
 | zeros hx ht hxe hn hz =>
  subst hxe
  have w1 : IntKind.i64.wrap (Int.ofNat n) = Int.ofNat n := (wrap_in .i64 _ (by simp [loN]) (by simp only [hiN]; show (n : Int) ≤ _; omega)).symm
  have a1 : ¬ (Int.ofNat n < 0) := by simp
  have a2 : ¬ (Int.ofNat n * (i.bytes : Int) > 2 ^ 48) := by
   have : (2 : Int) ^ 48 = 281474976710656 := by decide
   rw [this]
   have h2 : ((i.bytes * n : Nat) : Int) ≤ (281474976710656 : Nat) := Int.ofNat_le.2 hb
   rw [Int.mul_comm]
   simp only [Int.natCast_mul] at h2
   simp only [Int.ofNat_eq_natCast]
   omega
  have e1 : (Int.ofNat n).toNat = n := rfl
  have hz' := zeros_run hz w
  simp only [hst, hx, List.getElem?_toArray, List.getElem?_cons_zero, List.getElem?_cons_succ, Sem.run_bind, run_und hu, Result.andThen_ok, run_size hsz, run_und ht, Sem.run_pure, if_true, asInt, asIntOf, w1, a1, if_false, run_info hi, a2, e1, hle, Bool.not_true, Bool.false_eq_true, hz']
  cases base with
  | none => simp only at hs ⊢; simpa using hs
  | some a => simp only [Sem.run_bind] at hs ⊢; simp [hs]
 | cells hx ht hni hl hc =>
  have hc := hc w.drawn
  simp only [hst, hx, List.getElem?_toArray, List.getElem?_cons_zero, List.getElem?_cons_succ, Sem.run_bind, run_und hu, Result.andThen_ok, run_size hsz, run_und ht, Sem.run_pure, Bool.false_eq_true, if_false, hl, hle, if_true, Bool.not_false, hc]
  cases base with
  | none => simp only at hs ⊢; simpa using hs
  | some a => simp only [Sem.run_bind] at hs ⊢; simp [hs]
theorem growBy_le (N : Nat) : ∀ (r c : Nat), c ≤ 2 * N + 192 → Builtin.growBy N r c ≤ 2 * N + 192
 | 0, c, h => by simpa [Builtin.growBy] using h
 | r + 1, c, h => by
  unfold Builtin.growBy
  split
  ·exact h
  exact growBy_le N r _ (by omega)
theorem nextcap_le (h : c < N) : Builtin.nextslicecap N c ≤ 2 * N + 192 := by
 unfold Builtin.nextslicecap
 split
 ·omega
 split
 ·omega
 exact growBy_le N 4 c (by omega)
theorem append_out (hA : AppArg P w ts e sz x' n vs') (hst : ts[0]? = some st) (hu : P.underlying st = some (.slice e)) (hsz : sizeT P e = some sz)
  (hi : P.info? e = some i) (hb : i.bytes ≤ 1024) (hb1 : 1 ≤ i.bytes) (hle : ¬ l + n ≤ c) (h32 : l + n ≤ 4294967296) (hz : zeroT P e = some z) (hzl : (cellsOfV z).length = sz) (ho : ∀ d, (Builtin.firstCells sz l (.slice base l c)).run P { w with drawn := d } = .ok ⟨old'⟩ { w with drawn := d }) :
  ∃ cap, l + n ≤ cap ∧ cap < 2 ^ 63 ∧ (Builtin.append_ ts ty #[.slice base l c, x']).run P w = .ok (.slice (some ⟨w.heap.size, 0, none⟩) (l + n) cap) { w with heap := w.heap.push (.cells ⟨old' ++ vs' ++ replicateL (cellsOfV z) (cap - (l + n))⟩ e), drawn := w.drawn + 1 } := by
 obtain ⟨c1, c2⟩ := appendCap_le (l + n) (w.tape w.drawn (.appendCap (l + n) c e)) (by omega) e c
 refine ⟨_, c1, c2, ?_⟩
 generalize hcap : (Question.appendCap (l + n) c e).cut (w.tape w.drawn (.appendCap (l + n) c e)) = cap at c1 c2
 have hnc := nextcap_le (N := l + n) (c := c) (by omega)
 have g1 : ¬ (Builtin.nextslicecap (l + n) c * i.bytes > 2 ^ 48) := by
  have : Builtin.nextslicecap (l + n) c * i.bytes ≤ (2 * 4294967296 + 192) * 1024 := Nat.mul_le_mul (by omega) hb
  have e2 : 2 ^ 48 = 281474976710656 := by decide
  omega
 have g0 : ¬ (((l + n : Nat) : Int) > IntKind.i64.max) := by
  have : IntKind.i64.max = 9223372036854775807 := rfl
  rw [this]
  omega
 unfold Builtin.append_
 have hzc := zeroCells_run (P := P) (n := cap - (l + n)) hz hzl
 cases hA with
 | zeros hx ht hxe hn hzz =>
  subst hxe
  have w1 : IntKind.i64.wrap (Int.ofNat n) = Int.ofNat n := (wrap_in .i64 _ (by simp [loN]) (by simp only [hiN]; show (n : Int) ≤ _; omega)).symm
  have a1 : ¬ (Int.ofNat n < 0) := by simp
  have a2 : ¬ (Int.ofNat n * (i.bytes : Int) > 2 ^ 48) := by
   have : (2 : Int) ^ 48 = 281474976710656 := by decide
   rw [this]
   have h1 : n * i.bytes ≤ 16777216 * 1024 := Nat.mul_le_mul hn hb
   have h2 : ((n * i.bytes : Nat) : Int) ≤ ((16777216 * 1024 : Nat) : Int) := Int.ofNat_le.2 h1
   simp only [Int.natCast_mul] at h2
   simp only [Int.ofNat_eq_natCast]
   omega
  have e1 : (Int.ofNat n).toNat = n := rfl
  have hz' := zeros_run hzz { w with drawn := w.drawn + 1 }
  have ho' := ho (w.drawn + 1)
  simp only [hst, hx, List.getElem?_toArray, List.getElem?_cons_zero, List.getElem?_cons_succ, Sem.run_bind, run_und hu, Result.andThen_ok, run_size hsz, run_und ht, Sem.run_pure, if_true, asInt, asIntOf, w1, a1, if_false, run_info hi, a2, e1, hle, Bool.not_true, Bool.false_eq_true, g0, g1, false_and, run_choose, Question.forced, hcap, run_askRoom, ho', hz', run_zero hz, newRow, run_newObj, hzc]
  simp
 | cells hx ht hni hl hc =>
  have ho' := ho (w.drawn + 1)
  have hc' := hc (w.drawn + 1)
  have hb0 : ¬ i.bytes = 0 := by omega
  simp only [hst, hx, List.getElem?_toArray, List.getElem?_cons_zero, List.getElem?_cons_succ, Sem.run_bind, run_und hu, Result.andThen_ok, run_size hsz, run_und ht, Sem.run_pure, Bool.false_eq_true, if_false, hl, run_info hi, hle, Bool.not_false, if_true, g0, g1, false_and, run_choose, Question.forced, hcap, run_askRoom, ho', hc', run_zero hz, newRow, run_newObj, hzc]
  simp
theorem firstA_rel (h : Rel P ρ m w) (hs : firstA m sz n x = some vs) (hx : VRel ρ x x') (hl : lenV x = some len) (hn : n ≤ len) :
  ∃ vs', (∀ d, (Builtin.firstCells sz n x').run P { w with drawn := d } = .ok ⟨vs'⟩ { w with drawn := d }) ∧ VsRel ρ vs vs' ∧ (∀ w, (Builtin.lenOf x').run P w = .ok len w) := by
 have h0 : ∀ (a : Addr) (c : Nat) (w : World), (Builtin.firstCells sz 0 (.slice (some a) len c)).run P w = .ok ⟨[]⟩ w := by
  intro a c w
  simp [Builtin.firstCells, loadCells, loadCellsFrom]
 unfold firstA at hs
 split at hs
 ·simp only [Option.some.injEq] at hs
  subst hs
  simp only [lenV, Option.some.injEq] at hl
  subst hl
  cases hx
  exact ⟨[], fun d => rfl, .nil, fun w => rfl⟩
 ·rename_i b off ln cp
  simp only [lenV, Option.some.injEq] at hl
  subst hl
  have hlen : ∃ a' cap', x' = .slice (some a') ln cap' := by cases hx <;> exact ⟨_, _, rfl⟩
  obtain ⟨a', cap', rfl⟩ := hlen
  by_cases hn0 : n = 0
  ·subst hn0
   simp only [nbeq, decide_true, cond_true, Option.some.injEq] at hs
   subst hs
   exact ⟨[], fun d => h0 _ _ _, .nil, fun w => rfl⟩
  simp only [nbeq, hn0, decide_false, cond_false] at hs
  obtain ⟨o, ho, hs⟩ := Option.bind_eq_some_iff.1 hs
  obtain ⟨s, x, h1, h2, h3⟩ := h.obj _ _ ho
  obtain ⟨a2, cap2, he, ha⟩ := slice_addr hx h1
  simp only [Value.slice.injEq, Option.some.injEq, true_and] at he
  obtain ⟨rfl, rfl⟩ := he
  have ha := ha (by omega)
  subst ha
  obtain ⟨vs', hr, hv, _⟩ := rdCells_rel2 hs h3
  exact ⟨vs', fun d => hr { w with drawn := d } h2, hv, fun w => rfl⟩
 ·rename_i s
  simp only [Option.some.injEq] at hs
  subst hs
  simp only [lenV, Option.some.injEq] at hl
  subst hl
  cases hx
  refine ⟨(s.data.toList.take n).map fun b => .int .u8 (Int.ofNat b.toNat), fun d => ?_, ?_, fun w => rfl⟩
  ·simp only [Builtin.firstCells, Sem.run_pure]
   congr 1
   apply Array.ext'
   simp [ByteArray.data_extract]
  generalize s.data.toList.take n = l
  induction l with
  | nil => exact .nil
  | cons a l ih => exact .cons (.int ..) ih
 simp at hs
end
end Go.Ab