/-
  The engine, part 5: an interpreter over abstract memories, and the proof that the model's machine does what it reckons. Conditions: none.
-/
import Derived.Test.YtmcjihhfgmfcpaaGreatDoorEng4

set_option autoImplicit true
set_option relaxedAutoImplicit true
set_option linter.unusedSectionVars false
set_option linter.unusedVariables false
set_option linter.unusedSimpArgs false
namespace Go.Ab
variable [Vals]
def Io (P : Program) (n : Nat) (q : Bool) (ops : Array Oper) (l : List Oper) (ts : Tr Value) (m : AW) (Q : Out → Prop) : Prop := ∃ k o, iops P (irun P k) n q ops l ts m = some o ∧ Q o
def Ie (X : Cx) (ops : Array Oper) (e : Env) (h : Hp) (l : List Oper) (Q : Out → Prop) : Prop := At X e h fun ts m => Io X.P X.n X.r.isNone ops l ts m Q
def wantE (ops : Array Oper) (e : Env) (o : Oper) : Option Bool :=
 match o.guard with
 | none => some true
 | some (j, want) => match (ops[j]?).bind (·.dst) with
  | some t => match look e t with
   | some (.bool b) => some (b == want)
   | some (.tuple _) => some false
   | _ => none
  | none => none
theorem wantE_spec (H : Has n ts e) (h : wantE ops e o = some b) : wantedA ops ts o = b := by
 unfold wantE at h
 unfold wantedA
 cases hg : o.guard with
 | none => rw [hg] at h; cases h; rfl
 | some g =>
  obtain ⟨j, want⟩ := g
  rw [hg] at h
  simp only at h ⊢
  cases hj : (ops[j]?).bind (·.dst) with
  | none => rw [hj] at h; cases h
  | some t =>
   rw [hj] at h
   simp only at h ⊢
   split at h
   ·rename_i c hc
    obtain ⟨h1, h2⟩ := H.at_ t _ hc
    have hb : Nat.blt t dIx = true := by
     rw [nblt, decide_eq_true_eq]
     have := H.few
     omega
    rw [hb, h2]
    cases h
    rfl
   ·rename_i c hc
    obtain ⟨h1, h2⟩ := H.at_ t _ hc
    have hb : Nat.blt t dIx = true := by
     rw [nblt, decide_eq_true_eq]
     have := H.few
     omega
    rw [hb, h2]
    cases h
    rfl
   cases h
section
variable {X : Cx} {ops : Array Oper} {e : Env} {h : Hp} {Q : Out → Prop} {o : Oper} {rest : List Oper} {t : Tmp} {v : Value}
theorem Ce.region {id : Nat} (q : Ie X ops e h ops.toList Q) : Ce X e h (.region id ops false) Q := fun ts m h1 h2 => by
 obtain ⟨k, o, g1, g2⟩ := q ts m h1 h2
 exact Ru.step (k := k) g1 g2
theorem Ie.nil (q : Ne X e h Q) : Ie X ops e h [] Q := fun ts m h1 h2 => ⟨0, _, rfl, q ts m h1 h2⟩
theorem doOp_h {o : Op} (hc : cls P o = .h) : doOp P s ts o m = opH P s ts o m := by unfold doOp; rw [hc]
theorem doOp_l {o : Op} (hc : cls P o = .l) : doOp P s ts o m = doL (opL P ts o) m := by unfold doOp; rw [hc]
theorem doOp_a {o : Op} (hc : cls P o = .a) : doOp P s ts o m = doA (opA P ts o) m := by unfold doOp; rw [hc]
theorem doOp_p {o : Op} (hc : cls P o = .p) : doOp P s ts o m = doP (opP P ts o) m := by unfold doOp; rw [hc]
theorem Io.op (hw : wantedA ops ts o = true) (hs : spc o.op = .no) (hd : doOp P (irun P k) ts o.op m = some (.val v m')) (hr : Io P n q ops rest (put n ts o.dst v) m' Q) : Io P n q ops (o :: rest) ts m Q := by
 obtain ⟨j, out, g1, g2⟩ := hr
 refine ⟨k + j, out, ?_, g2⟩
 unfold iops
 rw [hw]
 simp only [cond_true, hs]
 rw [doOp_le (irun_le (Nat.le_add_right k j)) hd]
 exact iops_le (irun_le (Nat.le_add_left j k)) g1
theorem Ie.val (h' : Hp) (hd : o.dst = some t) (ht : Nat.blt t X.n = true) (hg : wantE ops e o = some true) (hs : spc o.op = .no)
  (hv : ∀ ts m, Has X.n ts e → Knows X.S X.m0 m h → ∃ k m', doOp X.P (irun X.P k) ts o.op m = some (.val v m') ∧ Knows X.S X.m0 m' h') (q : Ie X ops ((t, v) :: e) h' rest Q) : Ie X ops e h (o :: rest) Q := fun ts m h1 h2 => by
 obtain ⟨k, m', g1, g2⟩ := hv ts m h1 h2
 refine Io.op (wantE_spec h1 hg) hs g1 ?_
 rw [hd]
 exact q _ m' (h1.put ht v) g2
theorem Ie.val_ (h' : Hp) (hd : o.dst = none) (hg : wantE ops e o = some true) (hs : spc o.op = .no)
  (hv : ∀ ts m, Has X.n ts e → Knows X.S X.m0 m h → ∃ k m', doOp X.P (irun X.P k) ts o.op m = some (.val v m') ∧ Knows X.S X.m0 m' h') (q : Ie X ops e h' rest Q) : Ie X ops e h (o :: rest) Q := fun ts m h1 h2 => by
 obtain ⟨k, m', g1, g2⟩ := hv ts m h1 h2
 refine Io.op (wantE_spec h1 hg) hs g1 ?_
 rw [hd]
 exact q _ m' h1 g2
theorem Ie.off (hd : o.dst = some t) (ht : Nat.blt t X.n = true) (hg : wantE ops e o = some false) (q : Ie X ops ((t, undef) :: e) h rest Q) : Ie X ops e h (o :: rest) Q := fun ts m h1 h2 => by
 obtain ⟨k, out, g1, g2⟩ := q _ m (h1.put ht undef) h2
 refine ⟨k, out, ?_, g2⟩
 unfold iops
 rw [wantE_spec h1 hg, hd]
 exact g1
theorem Ie.sub (e' : Env) (h' : Hp) (he : Sub e' e) (hh : h'.Sublist h) (q : Ie X ops e' h' rest Q) : Ie X ops e h rest Q := At.sub he hh q
end
def evPartsE (P : Program) (e : Env) : List (Nat × Operand) → Option (List (Nat × Value))
 | [] => some []
 | (i, x) :: xs => match evE P e x with
  | some v => match evPartsE P e xs with
   | some vs => some ((i, v) :: vs)
   | none => none
  | none => none
theorem evPartsE_spec {P : Program} {n : Nat} {ts : Tr Value} {e : Env} (H : Has n ts e) : ∀ {xs : List (Nat × Operand)} {vs : List (Nat × Value)}, evPartsE P e xs = some vs → evParts P ts xs = some vs
 | [], _, h => h
 | (i, x) :: xs, vs, h => by
  unfold evPartsE at h
  split at h
  ·rename_i v hv
   split at h
   ·rename_i ws hw
    cases h
    unfold evParts
    rw [evE_ev H hv, evPartsE_spec H hw]
    rfl
   cases h
  cases h
def evoE (P : Program) (e : Env) : Option Operand → Option (Option Value)
 | none => some none
 | some x => match evE P e x with
  | some v => some (some v)
  | none => none
theorem evoE_spec (H : Has n ts e) (h : evoE P e x = some v) : evo P ts x = some v := by
 cases x with
 | none => exact h
 | some x =>
  unfold evoE at h
  simp only at h
  cases hw : evE P e x with
  | none => rw [hw] at h; cases h
  | some w =>
   rw [hw] at h
   cases h
   unfold evo
   simp only [evE_ev H hw]
def opE (P : Program) (e : Env) : Op → Option Value
 | .move x => evE P e x
 | .assign x => evE P e x
 | .pick c a b => match evE P e c with
  | some (.bool true) => evE P e a
  | some (.bool false) => evE P e b
  | _ => none
 | .build t parts => match evPartsE P e parts.toList with
  | some ps => buildA P t ps
  | none => none
 | .nilCheck x => match evE P e x with
  | some v => nilCheckA P (some v)
  | none => none
 | .binOp op t x y _ => match evE P e x with
  | some a => match evE P e y with
   | some b => binS P op t x y a b
   | none => none
  | none => none
 | .unOp op _ x => match evE P e x with
  | some a => unS op a
  | none => none
 | .makeInterface t x => match evE P e x with
  | some v => ifaceA P t (some v)
  | none => none
 | .makeFunc fn first captured => match evsE P e first.toList with
  | some a => match evsE P e captured.toList with
   | some b => match fn with
    | .func f => some (.func (.func f) ⟨a⟩ ⟨b⟩)
    | .method n => some (.func (.method n) ⟨a⟩ ⟨b⟩)
    | _ => none
   | none => none
  | none => none
 | .slice t x l h m => match evE P e x with
  | some x => match evoE P e l with
   | some l => match evoE P e h with
    | some h => match evoE P e m with
     | some m => sliceA P t x l h m
     | none => none
    | none => none
   | none => none
  | none => none
 | .fieldAddr s x f => match evE P e x with
  | some v => fieldAddrA P s v f
  | none => none
 | .field t x f => match evE P e x with
  | some v => fieldA P t v f
  | none => none
 | .indexAddr t x i => match evE P e x with
  | some a => match evE P e i with
   | some b => indexAddrA P t a b
   | none => none
  | none => none
 | .index t x i => match evE P e x with
  | some a => match evE P e i with
   | some b => indexA P t a b
   | none => none
  | none => none
 | .extract t i => match evE P e t with
  | some t => extractA t i
  | none => none
 | .typeAssert x _ t ok => match evE P e x with
  | some x => assertA P x t ok
  | none => none
 | _ => none
theorem opE_spec (H : Has n ts e) (h : opE P e o = some v) : cls P o = .p ∧ spc o = .no ∧ opP P ts o = some v := by
 cases o
 case move x => exact ⟨rfl, rfl, evE_ev H h⟩
 case assign x => exact ⟨rfl, rfl, evE_ev H h⟩
 case pick c a b =>
  refine ⟨rfl, rfl, ?_⟩
  simp only [opE] at h
  split at h
  ·rename_i hc
   simp only [opP, pickA, evE_ev H hc]
   exact evE_ev H h
  ·rename_i hc
   simp only [opP, pickA, evE_ev H hc]
   exact evE_ev H h
  cases h
 case build t parts =>
  refine ⟨rfl, rfl, ?_⟩
  simp only [opE] at h
  split at h
  ·rename_i ps hp
   simp only [opP, evPartsE_spec H hp]
   exact h
  cases h
 case nilCheck x =>
  refine ⟨rfl, rfl, ?_⟩
  simp only [opE] at h
  split at h
  ·rename_i w hw
   simp only [opP, evE_ev H hw]
   exact h
  cases h
 case binOp op t x y u =>
  refine ⟨rfl, rfl, ?_⟩
  simp only [opE] at h
  split at h
  ·rename_i a ha
   split at h
   ·rename_i b hb
    simp only [opP, bin1, evE_ev H ha, evE_ev H hb]
    exact h
   cases h
  cases h
 case unOp op t x =>
  refine ⟨rfl, rfl, ?_⟩
  simp only [opE] at h
  split at h
  ·rename_i w hw
   simp only [opP, evE_ev H hw]
   exact h
  cases h
 case makeInterface t x =>
  refine ⟨rfl, rfl, ?_⟩
  simp only [opE] at h
  split at h
  ·rename_i w hw
   simp only [opP, evE_ev H hw]
   exact h
  cases h
 case makeFunc fn first captured =>
  refine ⟨rfl, rfl, ?_⟩
  simp only [opE] at h
  split at h
  ·rename_i a ha
   split at h
   ·rename_i b hb
    simp only [opP, funcA, evsE_evs H ha, evsE_evs H hb]
    cases fn <;> exact h
   cases h
  cases h
 case slice t x l hh m =>
  refine ⟨rfl, rfl, ?_⟩
  simp only [opE] at h
  split at h
  ·rename_i x' hx
   split at h
   ·rename_i l' hl
    split at h
    ·rename_i h' hh'
     split at h
     ·rename_i m' hm
      simp only [opP, slice1, evE_ev H hx, evoE_spec H hl, evoE_spec H hh', evoE_spec H hm]
      exact h
     cases h
    cases h
   cases h
  cases h
 case fieldAddr s x f =>
  refine ⟨rfl, rfl, ?_⟩
  simp only [opE] at h
  split at h
  ·rename_i w hw
   simp only [opP, evE_ev H hw]
   exact h
  cases h
 case field s x f =>
  refine ⟨rfl, rfl, ?_⟩
  simp only [opE] at h
  split at h
  ·rename_i w hw
   simp only [opP, evE_ev H hw]
   exact h
  cases h
 case indexAddr t x i =>
  refine ⟨rfl, rfl, ?_⟩
  simp only [opE] at h
  split at h
  ·rename_i a ha
   split at h
   ·rename_i b hb
    simp only [opP, bind2, evE_ev H ha, evE_ev H hb]
    exact h
   cases h
  cases h
 case index t x i =>
  refine ⟨rfl, rfl, ?_⟩
  simp only [opE] at h
  split at h
  ·rename_i a ha
   split at h
   ·rename_i b hb
    simp only [opP, bind2, evE_ev H ha, evE_ev H hb]
    exact h
   cases h
  cases h
 case extract t i =>
  refine ⟨rfl, rfl, ?_⟩
  simp only [opE] at h
  split at h
  ·rename_i w hw
   simp only [opP, evE_ev H hw]
   exact h
  cases h
 case typeAssert x s t ok =>
  refine ⟨rfl, rfl, ?_⟩
  simp only [opE] at h
  split at h
  ·rename_i w hw
   simp only [opP, evE_ev H hw]
   exact h
  cases h
 all_goals cases h
section
variable {X : Cx} {ops : Array Oper} {e : Env} {h : Hp} {Q : Out → Prop} {o : Oper} {rest : List Oper} {t : Tmp} {v : Value}
theorem Ie.p (hd : o.dst = some t) (ht : Nat.blt t X.n = true) (hg : wantE ops e o = some true) (hv : opE X.P e o.op = some v) (q : Ie X ops ((t, v) :: e) h rest Q) : Ie X ops e h (o :: rest) Q := fun ts m h1 h2 => by
 obtain ⟨c1, c2, c3⟩ := opE_spec h1 hv
 refine Ie.val h hd ht hg c2 (fun ts m h1 h2 => ?_) q ts m h1 h2
 obtain ⟨c1, c2, c3⟩ := opE_spec h1 hv
 exact ⟨0, m, by unfold doOp; rw [c1]; simp only [doP, c3], h2⟩
theorem Ie.conv (hd : o.dst = some t) (ht : Nat.blt t X.n = true) (hg : wantE ops e o = some true) (ho : o.op = .convert s d x) (hx : evE X.P e x = some a) (hc : cls X.P (.convert s d x) = .p) (hv : convS X.P s d a = some v) (q : Ie X ops ((t, v) :: e) h rest Q) : Ie X ops e h (o :: rest) Q := by
 refine Ie.val h hd ht hg (by rw [ho]; rfl) (fun ts m h1 h2 => ⟨0, m, ?_, h2⟩) q
 rw [ho]
 unfold doOp
 rw [hc]
 simp only [doP, opP, evE_ev h1 hx, Option.bind_some, hv]
theorem Ie.calln (A : α → Prop) (V : α → Value) (N : α → Hp) (hd : o.dst = some t) (ht : Nat.blt t X.n = true) (hg : wantE ops e o = some true) (ho : o.op = .call { callee := .value fo, args := as, argTypes := ats }) (ha : evsE X.P e as.toList = some vs) (hf : evE X.P e fo = some (.func (.func g) ⟨first⟩ ⟨cap⟩))
  (hc : ∀ m, KR X.S X.m0 m h → Fc X.P g (first ++ vs ++ cap) m fun v m' => ∃ x, A x ∧ v = V x ∧ Ext m m' ∧ News m m' (N x)) (q : ∀ x, A x → Ie X ops ((t, V x) :: e) (N x ++ h) rest Q) : Ie X ops e h (o :: rest) Q := fun ts m h1 h2 => by
 obtain ⟨k, v, m', g1, x, hA, rfl, hk, hn⟩ := hc m h2.kr
 refine Io.op (k := k) (m' := m') (v := V x) (wantE_spec h1 hg) (by rw [ho]; rfl) ?_ ?_
 ·rw [ho, doOp_h rfl]
  simp only [opH, callH, evsE_evs h1 ha, evE_ev h1 hf, callV, callA, g1]
 rw [hd]
 exact q x hA _ m' (h1.put ht _) (h2.of_news hk hn)
theorem Ie.call (v : Value) (hd : o.dst = some t) (ht : Nat.blt t X.n = true) (hg : wantE ops e o = some true) (ho : o.op = .call { callee := .value fo, args := as, argTypes := ats }) (ha : evsE X.P e as.toList = some vs) (hf : evE X.P e fo = some (.func (.func g) ⟨first⟩ ⟨cap⟩))
  (hc : ∀ m, KR X.S X.m0 m h → Fc X.P g (first ++ vs ++ cap) m fun w m' => w = v ∧ Ext m m') (q : Ie X ops ((t, v) :: e) h rest Q) : Ie X ops e h (o :: rest) Q :=
 Ie.calln (α := Unit) (fun _ => True) (fun _ => v) (fun _ => []) hd ht hg ho ha hf (fun m hm => (hc m hm).mono fun _ _ ⟨e1, e2⟩ => ⟨(), trivial, e1, e2, News.nil _ _⟩) fun _ _ => q
def Sees (X : Cx) (h : Hp) (b : Nat) (o : AObj) : Prop := ∀ m, Knows X.S X.m0 m h → m.heap.get b = some o
theorem Sees.head {o : AObj} : Sees X ((b, o) :: h) b o := fun _ k => (k.has _ _ List.mem_cons_self).1
theorem Sees.tail {o : AObj} (s : Sees X h b o) : Sees X (p :: h) b o := fun m k => s m (k.sub (List.sublist_cons_self _ _))
theorem Sees.base {o : AObj} (hb : X.m0.heap.get b = some o) (hl : b < X.m0.next) (hs : b ∉ X.S) : Sees X h b o := fun _ k => (k.keep b hl hs).trans hb
theorem Ie.load {b off : Nat} (hd : o.dst = some t) (ht : Nat.blt t X.n = true) (hg : wantE ops e o = some true) (ho : o.op = .load ty a) (ha : evE X.P e a = some (.pointer (some ⟨b, off, none⟩))) (hty : aggT X.P ty = some false) (hs : Sees X h b (.cells cs el g md mate)) (hc : cs[off]? = some v) (q : Ie X ops ((t, v) :: e) h rest Q) : Ie X ops e h (o :: rest) Q := by
 refine Ie.val h hd ht hg (by rw [ho]; rfl) (fun ts m h1 h2 => ⟨0, m, ?_, h2⟩) q
 rw [ho, doOp_l rfl]
 have : loadA X.P ty (.pointer (some ⟨b, off, none⟩)) = some (.rd b fun o => match o with | .cells cs _ _ _ _ => cs[off]? | _ => none) := by
  unfold loadA
  simp only [hty]
  rfl
 simp only [opL, evE_ev h1 ha, Option.bind_some, this, doL, hs m h2, hc]
theorem Ie.loadAgg {b off n : Nat} (hd : o.dst = some t) (ht : Nat.blt t X.n = true) (hg : wantE ops e o = some true) (ho : o.op = .load ty a) (ha : evE X.P e a = some (.pointer (some ⟨b, off, none⟩))) (hty : aggT X.P ty = some true) (hsz : sizeT X.P ty = some n) (hs : Sees X h b (.cells cs el g md mate)) (hl : off + n ≤ cs.length) (hc : (cs.drop off).take n = vs) (q : Ie X ops ((t, .agg ⟨vs⟩) :: e) h rest Q) : Ie X ops e h (o :: rest) Q := by
 refine Ie.val h hd ht hg (by rw [ho]; rfl) (fun ts m h1 h2 => ⟨0, m, ?_, h2⟩) q
 rw [ho, doOp_l rfl]
 have : loadA X.P ty (.pointer (some ⟨b, off, none⟩)) = some (.rd b fun o => (rdCells o off n).map fun cs => .agg ⟨cs⟩) := by
  unfold loadA
  simp only [hty, hsz]
 have h3 : rdCells (.cells cs el g md mate) off n = some vs := by
  unfold rdCells
  simp only [nble, hl, decide_true, cond_true, hc]
 simp only [opL, evE_ev h1 ha, Option.bind_some, this, doL, hs m h2, h3, Option.map_some]
theorem Ie.store {b off n : Nat} (hd : o.dst = none) (hg : wantE ops e o = some true) (ho : o.op = .store ty a x) (ha : evE X.P e a = some (.pointer (some ⟨b, off, none⟩))) (hx : evE X.P e x = some y) (hsz : sizeT X.P ty = some (n + 1)) (hl : (cellsOfV y).length = n + 1) (hu : Upd h b (.cells cs el g md none) (.cells (putCells cs off (cellsOfV y)) el g md none) h') (hw : (md.writes && Nat.ble (off + (cellsOfV y).length) cs.length && flats (cellsOfV y)) = true) (q : Ie X ops e h' rest Q) : Ie X ops e h (o :: rest) Q := by
 refine Ie.val_ (v := undef) h' hd hg (by rw [ho]; rfl) (fun ts m h1 h2 => ⟨0, _, ?_, h2.set hu⟩) q
 rw [ho, doOp_h rfl]
 have h3 : m.heap.get b = some (.cells cs el g md none) := (h2.has _ _ hu.spec.1).1
 have h4 : storeA m b off (cellsOfV y) = some (m.set b (some (.cells (putCells cs off (cellsOfV y)) el g md none))) := by
  unfold storeA
  cases hc : cellsOfV y with
  | nil => rw [hc] at hl; simp at hl
  | cons c r =>
   rw [hc] at hw
   simp only [h3, hw, kill, cond_true]
 have h5 : Nat.beq (cellsOfV y).length (n + 1) = true := by rw [nbeq, hl]; simp
 simp only [opH, evE_ev h1 ha, evE_ev h1 hx, storeV, hsz, h5, cond_true, h4, valM]
theorem Ie.made (hd : o.dst = some t) (ht : Nat.blt t X.n = true) (hg : wantE ops e o = some true) (hs : spc o.op = .no) (hc : cls X.P o.op = .a) (hv : ∀ ts, Has X.n ts e → opA X.P ts o.op = some (ob, fv)) (q : ∀ b, X.m0.next ≤ b → Ie X ops ((t, fv b) :: e) ((b, ob) :: h) rest Q) : Ie X ops e h (o :: rest) Q := fun ts m h1 h2 => by
 refine Io.op (k := 0) (m' := m.new ob) (v := fv m.next) (wantE_spec h1 hg) hs ?_ ?_
 ·rw [doOp_a hc, hv ts h1]
  rfl
 rw [hd]
 exact q m.next h2.next _ _ (h1.put ht _) (h2.new ob)
theorem Ie.alloc (hd : o.dst = some t) (ht : Nat.blt t X.n = true) (hg : wantE ops e o = some true) (ho : o.op = .alloc el) (hz : zeroT X.P el = some z) (q : ∀ b, X.m0.next ≤ b → Ie X ops ((t, .pointer (some ⟨b, 0, none⟩)) :: e) ((b, .cells (cellsOfV z) el false .plain none) :: h) rest Q) : Ie X ops e h (o :: rest) Q :=
 Ie.made hd ht hg (by rw [ho]; rfl) (by rw [ho]; rfl) (fun ts _ => by rw [ho]; simp only [opA, hz]; rfl) q
theorem Ie.box (hd : o.dst = some t) (ht : Nat.blt t X.n = true) (hg : wantE ops e o = some true) (ho : o.op = .box el x) (hx : evE X.P e x = some y) (q : ∀ b, X.m0.next ≤ b → Ie X ops ((t, .pointer (some ⟨b, 0, none⟩)) :: e) ((b, .cells (cellsOfV y) el false .plain none) :: h) rest Q) : Ie X ops e h (o :: rest) Q :=
 Ie.made hd ht hg (by rw [ho]; rfl) (by rw [ho]; rfl) (fun ts H => by rw [ho]; simp only [opA, evE_ev H hx]; rfl) q
theorem Ie.makeMap (hd : o.dst = some t) (ht : Nat.blt t X.n = true) (hg : wantE ops e o = some true) (ho : o.op = .makeMap ty none) (q : ∀ b, X.m0.next ≤ b → Ie X ops ((t, .map (some b)) :: e) ((b, .map [] 0) :: h) rest Q) : Ie X ops e h (o :: rest) Q :=
 Ie.made (fv := mapTo) hd ht hg (by rw [ho]; rfl) (by rw [ho]; rfl) (fun ts _ => by rw [ho]; rfl) q
theorem Ie.len (hd : o.dst = some t) (ht : Nat.blt t X.n = true) (hg : wantE ops e o = some true) (ho : o.op = .call { callee := .builtin .len, args := #[x], argTypes := #[ty] }) (hx : evE X.P e x = some y) (hl : lenA X.P ty y = some (.imm v)) (q : Ie X ops ((t, v) :: e) h rest Q) : Ie X ops e h (o :: rest) Q := by
 refine Ie.val h hd ht hg (by rw [ho]; rfl) (fun ts m h1 h2 => ⟨0, m, ?_, h2⟩) q
 rw [ho, doOp_l rfl]
 have : evs X.P ts [x] = some [y] := by
  unfold evs evs
  rw [evE_ev h1 hx]
  rfl
 have h2 : (#[ty] : Array TypeId)[0]? = some ty := rfl
 simp only [opL, callL, this, h2, hl]
 rfl
end
end Go.Ab
namespace Go.Ab
variable [Vals]
section
variable {X : Cx} {ops : Array Oper} {e : Env} {h : Hp} {Q : Out → Prop} {o : Oper} {rest : List Oper} {t : Tmp} {v : Value}
theorem Ie.convInt (hd : o.dst = some t) (ht : Nat.blt t X.n = true) (hg : wantE ops e o = some true) (ho : o.op = .convert s d x) (hs : X.P.underlying s = some (.int k)) (hd' : X.P.underlying d = some (.int k')) (hx : evE X.P e x = some (.int k n)) (q : Ie X ops ((t, .int k' (wr k' n)) :: e) h rest Q) : Ie X ops e h (o :: rest) Q :=
 Ie.conv hd ht hg ho hx (by unfold cls; simp only [hs, hd']) (by unfold convS convA; simp only [hs, hd']) q
theorem Ie.fieldAddr {i b off k : Nat} (hd : o.dst = some t) (ht : Nat.blt t X.n = true) (hg : wantE ops e o = some true) (ho : o.op = .fieldAddr s x i) (hx : evE X.P e x = some (.pointer (some ⟨b, off, none⟩))) (hf : ∀ b off, fieldAddrA X.P s (.pointer (some ⟨b, off, none⟩)) i = some (.pointer (some ⟨b, off + k, none⟩))) (q : Ie X ops ((t, .pointer (some ⟨b, off + k, none⟩)) :: e) h rest Q) : Ie X ops e h (o :: rest) Q :=
 Ie.p hd ht hg (by rw [ho]; simp only [opE, hx, hf]) q
theorem Ie.indexAddr {b off len cap sz j : Nat} (hd : o.dst = some t) (ht : Nat.blt t X.n = true) (hg : wantE ops e o = some true) (ho : o.op = .indexAddr ty x i) (hu : X.P.underlying ty = some (.slice el)) (hs : sizeT X.P el = some sz) (hx : evE X.P e x = some (.slice (some ⟨b, off, none⟩) len cap)) (hi : evE X.P e i = some (.int k (Int.ofNat j))) (hj : j < len) (q : Ie X ops ((t, .pointer (some ⟨b, off + j * sz, none⟩)) :: e) h rest Q) : Ie X ops e h (o :: rest) Q :=
 Ie.p hd ht hg (by
  rw [ho]
  simp only [opE, hx, hi]
  unfold indexAddrA
  simp only [asInt?, hu, hs]
  rw [nblt, decide_eq_true hj]
  rfl) q
theorem Ie.splitB (u : Nat) (hl : look e u = some (.bool c)) (q1 : c = true → Ie X ops ((u, .bool true) :: e) h rest Q) (q2 : c = false → Ie X ops ((u, .bool false) :: e) h rest Q) : Ie X ops e h rest Q := fun ts m h1 h2 => by
 cases c with
 | true =>
  refine q1 rfl ts m ⟨h1.few, h1.defs, fun s w hw => ?_⟩ h2
  unfold look at hw
  cases hb : Nat.beq u s with
  | true =>
   rw [hb] at hw
   cases hw
   rw [nbeq, decide_eq_true_eq] at hb
   subst hb
   exact h1.at_ _ _ hl
  | false =>
   rw [hb] at hw
   exact h1.at_ _ _ hw
 | false =>
  refine q2 rfl ts m ⟨h1.few, h1.defs, fun s w hw => ?_⟩ h2
  unfold look at hw
  cases hb : Nat.beq u s with
  | true =>
   rw [hb] at hw
   cases hw
   rw [nbeq, decide_eq_true_eq] at hb
   subst hb
   exact h1.at_ _ _ hl
  | false =>
   rw [hb] at hw
   exact h1.at_ _ _ hw
theorem Ie.as (u : Nat) (w' : Value) (hl : look e u = some w) (hw : w = w') (q : Ie X ops ((u, w') :: e) h rest Q) : Ie X ops e h rest Q := fun ts m h1 h2 => by
 subst hw
 refine q ts m ⟨h1.few, h1.defs, fun s x hx => ?_⟩ h2
 unfold look at hx
 cases hb : Nat.beq u s with
 | true =>
  rw [hb] at hx
  cases hx
  rw [nbeq, decide_eq_true_eq] at hb
  subst hb
  exact h1.at_ _ _ hl
 | false =>
  rw [hb] at hx
  exact h1.at_ _ _ hx
end
end Go.Ab
namespace Go.Ab
variable [Vals]
def Do (P : Program) (n : Nat) (ops : Array Oper) (base lo : Nat) (l : List (Oper × Info)) (rs : List (Nat × Nat)) (ws : List (Nat × List Nat)) (as : List (Nat × Nat)) (ts : Tr Value) (m : AW) (Q : Out → Prop) : Prop :=
 ∃ k o, dops P (irun P k) n ops base lo l rs ws as ts m = some o ∧ Q o
def De (X : Cx) (ops : Array Oper) (base : Nat) (rI : List Nat) (cl : Bool) (as : List (Nat × Nat)) (e : Env) (h : Hp) (l : List (Oper × Info)) (Q : Out → Prop) : Prop :=
 ∀ ts m rs ws, Has X.n ts e → Knows X.S X.m0 m h → X.m0.next ≤ base ∧ base ≤ m.next → (∀ p ∈ rs, p.1 ∈ rI) → (cl = true → ∀ p ∈ ws, p.2 = []) → Do X.P X.n ops base X.m0.lo l rs ws as ts m Q
def allIn (pre : Nat) : List Nat → Bool
 | [] => true
 | j :: l => pre.testBit j && allIn pre l
theorem readOk_nil (pre b : Nat) : ∀ (ws : List (Nat × List Nat)), (∀ p ∈ ws, p.2 = []) → readOk pre b ws = true
 | [], _ => rfl
 | (h, w) :: ws, hw => by
  have : w = [] := hw (h, w) List.mem_cons_self
  subst this
  unfold readOk
  simp only [notIn, Bool.or_true, cond_true]
  exact readOk_nil pre b ws fun p hp => hw p (List.mem_cons_of_mem _ hp)
theorem writeOk_nil (pre : Nat) : ∀ (rs : List (Nat × Nat)), writeOk pre [] rs = true
 | [] => rfl
 | (i, b) :: rs => by
  unfold writeOk
  simp only [notIn, Bool.or_true, cond_true]
  exact writeOk_nil pre rs
theorem allIn_mem {pre : Nat} : ∀ {l : List Nat} {j : Nat}, allIn pre l = true → j ∈ l → pre.testBit j = true
 | [], _, _, h => by cases h
 | x :: l, j, h, hj => by
  simp only [allIn, Bool.and_eq_true] at h
  rcases List.mem_cons.1 hj with rfl | hj
  ·exact h.1
  exact allIn_mem h.2 hj
theorem writeOk_in (pre : Nat) (w rI : List Nat) (hri : allIn pre rI = true) : ∀ (rs : List (Nat × Nat)), (∀ p ∈ rs, p.1 ∈ rI) → writeOk pre w rs = true
 | [], _ => rfl
 | (i, b) :: rs, h => by
  have h1 := allIn_mem hri (h (i, b) List.mem_cons_self)
  unfold writeOk
  simp only [h1, Bool.true_or, cond_true]
  exact writeOk_in pre w rI hri rs fun p hp => h p (List.mem_cons_of_mem _ hp)
theorem hideB_all (pre : Nat) : ∀ (as : List (Nat × Nat)) (t : Tr AObj), allIn pre (as.map Prod.fst) = true → hideB pre as t = t
 | [], _, _ => rfl
 | (j, b) :: as, t, h => by
  simp only [allIn, List.map_cons, Bool.and_eq_true] at h
  unfold hideB
  simp only [h.1, cond_true]
  exact hideB_all pre as t h.2
theorem showB_all (pre : Nat) (old : Tr AObj) : ∀ (as : List (Nat × Nat)) (t : Tr AObj), allIn pre (as.map Prod.fst) = true → showB pre old as t = t
 | [], _, _ => rfl
 | (j, b) :: as, t, h => by
  simp only [allIn, List.map_cons, Bool.and_eq_true] at h
  unfold showB
  simp only [h.1, cond_true]
  exact showB_all pre old as t h.2
theorem plainB_all (pre : Nat) (old : Tr AObj) : ∀ (as : List (Nat × Nat)), allIn pre (as.map Prod.fst) = true → plainB pre old as = true
 | [], _ => rfl
 | (j, b) :: as, h => by
  simp only [allIn, List.map_cons, Bool.and_eq_true] at h
  unfold plainB
  simp only [h.1, Bool.true_or, Bool.true_and]
  exact plainB_all pre old as h.2
theorem seenB_all (pre b : Nat) : ∀ (as : List (Nat × Nat)), allIn pre (as.map Prod.fst) = true → seenB pre b as = true
 | [], _ => rfl
 | (j, c) :: as, h => by
  simp only [allIn, List.map_cons, Bool.and_eq_true] at h
  unfold seenB
  simp only [h.1, Bool.true_or, Bool.true_and]
  exact seenB_all pre b as h.2
section
variable {X : Cx} {ops : Array Oper} {base : Nat} {rI : List Nat} {cl : Bool} {as : List (Nat × Nat)} {e : Env} {h : Hp} {Q : Out → Prop} {o : Oper} {i : Info} {rest : List (Oper × Info)} {t : Tmp} {v : Value}
theorem Ce.draw {id : Nat} (inf : List Info) (hi : infos X.P ops.toList = inf) (htm : tmpsOk (ops.toList.zip inf) ops.toList = true) (q : ∀ base, X.m0.next ≤ base → (∀ b o, (b, o) ∈ h → b < base) → De X ops base [] true [] e h (ops.toList.zip inf) Q) : Ce X e h (.region id ops true) Q := fun ts m h1 h2 => by
 obtain ⟨k, o, g1, g2⟩ := q m.next h2.next (fun b o hb => (h2.has b o hb).2.1) ts m [] [] h1 h2 ⟨h2.next, Nat.le_refl _⟩ (fun _ hp => by cases hp) (fun _ _ hp => by cases hp)
 refine Ru.step (k := k) ?_ g2
 show drawA _ _ _ _ _ _ = _
 unfold drawA
 have hb : (Nat.ble m.lo m.next && tmpsOk (ops.toList.zip (infos X.P ops.toList)) ops.toList) = true := by
  rw [hi, htm, nble, decide_eq_true h2.lole']
  rfl
 rw [hb, hi, h2.lo]
 exact g1
theorem De.nil (q : Ne X e h Q) : De X ops base rI cl as e h [] Q := fun ts m _ _ h1 h2 _ _ _ => ⟨0, _, rfl, q ts m h1 h2⟩
theorem De.off (hd : o.dst = some t) (ht : Nat.blt t X.n = true) (hg : wantE ops e o = some false) (q : De X ops base rI cl as ((t, undef) :: e) h rest Q) : De X ops base rI cl as e h ((o, i) :: rest) Q := fun ts m rs ws h1 h2 h3 h4 h5 => by
 obtain ⟨k, out, g1, g2⟩ := q _ m rs ws (h1.put ht undef) h2 h3 h4 h5
 refine ⟨k, out, ?_, g2⟩
 unfold dops
 rw [wantE_spec h1 hg, hd]
 exact g1
theorem De.pure (hi : i.cls = .p) (hd : o.dst = some t) (ht : Nat.blt t X.n = true) (hg : wantE ops e o = some true) (hv : ∀ ts, Has X.n ts e → cls X.P o.op = .p ∧ opP X.P ts o.op = some v) (q : De X ops base rI cl as ((t, v) :: e) h rest Q) : De X ops base rI cl as e h ((o, i) :: rest) Q := fun ts m rs ws h1 h2 h3 h4 h5 => by
 obtain ⟨k, out, g1, g2⟩ := q _ m rs ws (h1.put ht v) h2 h3 h4 h5
 obtain ⟨c1, c2⟩ := hv ts h1
 refine ⟨k, out, ?_, g2⟩
 unfold dops
 rw [wantE_spec h1 hg]
 simp only [cond_true, hi, doOp_p c1, doP, c2, hd]
 exact g1
theorem De.p (hi : i.cls = .p) (hd : o.dst = some t) (ht : Nat.blt t X.n = true) (hg : wantE ops e o = some true) (hv : opE X.P e o.op = some v) (q : De X ops base rI cl as ((t, v) :: e) h rest Q) : De X ops base rI cl as e h ((o, i) :: rest) Q :=
 De.pure hi hd ht hg (fun _ H => ⟨(opE_spec H hv).1, (opE_spec H hv).2.2⟩) q
theorem De.conv (hi : i.cls = .p) (hd : o.dst = some t) (ht : Nat.blt t X.n = true) (hg : wantE ops e o = some true) (ho : o.op = .convert s d x) (hx : evE X.P e x = some a) (hc : cls X.P (.convert s d x) = .p) (hv : convS X.P s d a = some v) (q : De X ops base rI cl as ((t, v) :: e) h rest Q) : De X ops base rI cl as e h ((o, i) :: rest) Q :=
 De.pure hi hd ht hg (fun ts H => by
  rw [ho]
  exact ⟨hc, by simp only [opP, evE_ev H hx, Option.bind_some, hv]⟩) q
theorem De.convInt (hi : i.cls = .p) (hd : o.dst = some t) (ht : Nat.blt t X.n = true) (hg : wantE ops e o = some true) (ho : o.op = .convert s d x) (hs : X.P.underlying s = some (.int k)) (hd' : X.P.underlying d = some (.int k')) (hx : evE X.P e x = some (.int k n)) (q : De X ops base rI cl as ((t, .int k' (wr k' n)) :: e) h rest Q) : De X ops base rI cl as e h ((o, i) :: rest) Q :=
 De.conv hi hd ht hg ho hx (by unfold cls; simp only [hs, hd']) (by unfold convS convA; simp only [hs, hd']) q
theorem De.fieldAddr {j b off k : Nat} (hi : i.cls = .p) (hd : o.dst = some t) (ht : Nat.blt t X.n = true) (hg : wantE ops e o = some true) (ho : o.op = .fieldAddr s x j) (hx : evE X.P e x = some (.pointer (some ⟨b, off, none⟩))) (hf : ∀ b off, fieldAddrA X.P s (.pointer (some ⟨b, off, none⟩)) j = some (.pointer (some ⟨b, off + k, none⟩))) (q : De X ops base rI cl as ((t, .pointer (some ⟨b, off + k, none⟩)) :: e) h rest Q) : De X ops base rI cl as e h ((o, i) :: rest) Q :=
 De.p hi hd ht hg (by rw [ho]; simp only [opE, hx, hf]) q
theorem De.indexAddr {b off len cap sz j : Nat} (hi : i.cls = .p) (hd : o.dst = some t) (ht : Nat.blt t X.n = true) (hg : wantE ops e o = some true) (ho : o.op = .indexAddr ty x y) (hu : X.P.underlying ty = some (.slice el)) (hs : sizeT X.P el = some sz) (hx : evE X.P e x = some (.slice (some ⟨b, off, none⟩) len cap)) (hy : evE X.P e y = some (.int k (Int.ofNat j))) (hj : j < len) (q : De X ops base rI cl as ((t, .pointer (some ⟨b, off + j * sz, none⟩)) :: e) h rest Q) : De X ops base rI cl as e h ((o, i) :: rest) Q :=
 De.p hi hd ht hg (by
  rw [ho]
  simp only [opE, hx, hy]
  unfold indexAddrA
  simp only [asInt?, hu, hs]
  rw [nblt, decide_eq_true hj]
  rfl) q
theorem De.imm (hi : i.cls = .l) (hd : o.dst = some t) (ht : Nat.blt t X.n = true) (hg : wantE ops e o = some true) (hv : ∀ ts, Has X.n ts e → opL X.P ts o.op = some (.imm v)) (q : De X ops base rI cl as ((t, v) :: e) h rest Q) : De X ops base rI cl as e h ((o, i) :: rest) Q := fun ts m rs ws h1 h2 h3 h4 h5 => by
 obtain ⟨k, out, g1, g2⟩ := q _ m rs ws (h1.put ht v) h2 h3 h4 h5
 refine ⟨k, out, ?_, g2⟩
 unfold dops
 rw [wantE_spec h1 hg]
 simp only [cond_true, hi, hv ts h1, hd]
 exact g1
theorem De.len (hi : i.cls = .l) (hd : o.dst = some t) (ht : Nat.blt t X.n = true) (hg : wantE ops e o = some true) (ho : o.op = .call { callee := .builtin .len, args := #[x], argTypes := #[ty] }) (hx : evE X.P e x = some y) (hl : lenA X.P ty y = some (.imm v)) (q : De X ops base rI cl as ((t, v) :: e) h rest Q) : De X ops base rI cl as e h ((o, i) :: rest) Q :=
 De.imm hi hd ht hg (fun ts h1 => by
  rw [ho]
  have : evs X.P ts [x] = some [y] := by
   unfold evs evs
   rw [evE_ev h1 hx]
   rfl
  have h2 : (#[ty] : Array TypeId)[0]? = some ty := rfl
  simp only [opL, callL, this, h2, hl]) q
theorem De.rdOld (hi : i.cls = .l) (hd : o.dst = some t) (ht : Nat.blt t X.n = true) (hg : wantE ops e o = some true) (hv : ∀ ts, Has X.n ts e → opL X.P ts o.op = some (.rd b f)) (hs : Sees X h b ob) (hf : f ob = some v) (hb : b < base) (q : De X ops base (i.i :: rI) true as ((t, v) :: e) h rest Q) : De X ops base rI true as e h ((o, i) :: rest) Q := fun ts m rs ws h1 h2 h3 h4 h5 => by
 have hr : (m.heap.get b).bind f = some v := by rw [hs m h2]; exact hf
 cases hfull : (i.full && seenB i.pre b as) with
 | true =>
  obtain ⟨k, out, g1, g2⟩ := q _ m rs ws (h1.put ht v) h2 h3 (fun p hp => List.mem_cons_of_mem _ (h4 p hp)) h5
  refine ⟨k, out, ?_, g2⟩
  unfold dops
  rw [wantE_spec h1 hg]
  simp only [cond_true, hi, hv ts h1, hd, hr, hfull]
  exact g1
 | false =>
  obtain ⟨k, out, g1, g2⟩ := q _ m ((i.i, b) :: rs) ws (h1.put ht v) h2 h3 (fun p hp => by
   rcases List.mem_cons.1 hp with rfl | hp
   ·exact List.mem_cons_self
   exact List.mem_cons_of_mem _ (h4 p hp)) h5
  refine ⟨k, out, ?_, g2⟩
  unfold dops
  rw [wantE_spec h1 hg]
  have : (Nat.blt b base && readOk i.pre b ws) = true := by
   rw [readOk_nil _ _ _ (h5 rfl), nblt, decide_eq_true hb]
   rfl
  simp only [cond_true, hi, hv ts h1, hd, hr, hfull, cond_false, this]
  exact g1
theorem De.rdFull (hi : i.cls = .l) (hfl : i.full = true) (hin : allIn i.pre (as.map Prod.fst) = true) (hd : o.dst = some t) (ht : Nat.blt t X.n = true) (hg : wantE ops e o = some true) (hv : ∀ ts, Has X.n ts e → opL X.P ts o.op = some (.rd b f)) (hs : Sees X h b ob) (hf : f ob = some v) (q : De X ops base rI cl as ((t, v) :: e) h rest Q) : De X ops base rI cl as e h ((o, i) :: rest) Q := fun ts m rs ws h1 h2 h3 h4 h5 => by
 have hr : (m.heap.get b).bind f = some v := by rw [hs m h2]; exact hf
 obtain ⟨k, out, g1, g2⟩ := q _ m rs ws (h1.put ht v) h2 h3 h4 h5
 refine ⟨k, out, ?_, g2⟩
 unfold dops
 rw [wantE_spec h1 hg]
 have : (i.full && seenB i.pre b as) = true := by rw [hfl, seenB_all _ _ _ hin]; rfl
 simp only [cond_true, hi, hv ts h1, hd, hr, this]
 exact g1
theorem loadA_false {b off : Nat} (hty : aggT P ty = some false) : loadA P ty (.pointer (some ⟨b, off, none⟩)) = some (.rd b fun o => match o with | .cells cs _ _ _ _ => cs[off]? | _ => none) := by
 unfold loadA
 simp only [hty]
 rfl
theorem loadA_true {b off n : Nat} (hty : aggT P ty = some true) (hsz : sizeT P ty = some n) : loadA P ty (.pointer (some ⟨b, off, none⟩)) = some (.rd b fun o => (rdCells o off n).map fun cs => .agg ⟨cs⟩) := by
 unfold loadA
 simp only [hty, hsz]
theorem rdCells_take {off n : Nat} (hl : off + n ≤ cs.length) (hc : (cs.drop off).take n = vs) : rdCells (.cells cs el g md mate) off n = some vs := by
 unfold rdCells
 simp only [nble, hl, decide_true, cond_true, hc]
theorem De.load {b off : Nat} (hi : i.cls = .l) (hfl : i.full = true) (hin : allIn i.pre (as.map Prod.fst) = true) (hd : o.dst = some t) (ht : Nat.blt t X.n = true) (hg : wantE ops e o = some true) (ho : o.op = .load ty a) (ha : evE X.P e a = some (.pointer (some ⟨b, off, none⟩))) (hty : aggT X.P ty = some false) (hs : Sees X h b (.cells cs el g md mate)) (hc : cs[off]? = some v) (q : De X ops base rI cl as ((t, v) :: e) h rest Q) : De X ops base rI cl as e h ((o, i) :: rest) Q :=
 De.rdFull hi hfl hin hd ht hg (fun ts H => by rw [ho]; simp only [opL, evE_ev H ha, Option.bind_some]; exact loadA_false hty) hs hc q
theorem De.loadOld {b off : Nat} (hi : i.cls = .l) (hd : o.dst = some t) (ht : Nat.blt t X.n = true) (hg : wantE ops e o = some true) (ho : o.op = .load ty a) (ha : evE X.P e a = some (.pointer (some ⟨b, off, none⟩))) (hty : aggT X.P ty = some false) (hs : Sees X h b (.cells cs el g md mate)) (hc : cs[off]? = some v) (hb : b < base) (q : De X ops base (i.i :: rI) true as ((t, v) :: e) h rest Q) : De X ops base rI true as e h ((o, i) :: rest) Q :=
 De.rdOld hi hd ht hg (fun ts H => by rw [ho]; simp only [opL, evE_ev H ha, Option.bind_some]; exact loadA_false hty) hs hc hb q
theorem De.made (hi : i.cls = .a) (hd : o.dst = some t) (ht : Nat.blt t X.n = true) (hg : wantE ops e o = some true) (hc : cls X.P o.op = .a) (hv : ∀ ts, Has X.n ts e → opA X.P ts o.op = some (ob, fv)) (q : ∀ b, base ≤ b → X.m0.next ≤ b → De X ops base rI cl ((i.i, b) :: as) ((t, fv b) :: e) ((b, ob) :: h) rest Q) : De X ops base rI cl as e h ((o, i) :: rest) Q := fun ts m rs ws h1 h2 h3 h4 h5 => by
 obtain ⟨k, out, g1, g2⟩ := q m.next h3.2 h2.next _ (m.new ob) rs ws (h1.put ht (fv m.next)) (h2.new ob) ⟨h3.1, by simp only [AW.new]; have := h3.2; omega⟩ h4 h5
 refine ⟨k, out, ?_, g2⟩
 unfold dops
 rw [wantE_spec h1 hg]
 have : doOp X.P (irun X.P k) ts o.op m = some (.val (fv m.next) (m.new ob)) := by rw [doOp_a hc, hv ts h1]; rfl
 simp only [cond_true, hi, this, hd]
 exact g1
theorem De.alloc (hi : i.cls = .a) (hd : o.dst = some t) (ht : Nat.blt t X.n = true) (hg : wantE ops e o = some true) (ho : o.op = .alloc el) (hz : zeroT X.P el = some z) (q : ∀ b, base ≤ b → X.m0.next ≤ b → De X ops base rI cl ((i.i, b) :: as) ((t, .pointer (some ⟨b, 0, none⟩)) :: e) ((b, .cells (cellsOfV z) el false .plain none) :: h) rest Q) : De X ops base rI cl as e h ((o, i) :: rest) Q :=
 De.made hi hd ht hg (by rw [ho]; rfl) (fun ts _ => by rw [ho]; simp only [opA, hz]; rfl) q
theorem De.box (hi : i.cls = .a) (hd : o.dst = some t) (ht : Nat.blt t X.n = true) (hg : wantE ops e o = some true) (ho : o.op = .box el x) (hx : evE X.P e x = some y) (q : ∀ b, base ≤ b → X.m0.next ≤ b → De X ops base rI cl ((i.i, b) :: as) ((t, .pointer (some ⟨b, 0, none⟩)) :: e) ((b, .cells (cellsOfV y) el false .plain none) :: h) rest Q) : De X ops base rI cl as e h ((o, i) :: rest) Q :=
 De.made hi hd ht hg (by rw [ho]; rfl) (fun ts H => by rw [ho]; simp only [opA, evE_ev H hx]; rfl) q
theorem De.calln (A : α → Prop) (V : α → Value) (N : α → Hp) (hi : i.cls = .h) (hok : i.hok = true) (hin : allIn i.pre (as.map Prod.fst) = true) (hd : o.dst = some t) (ht : Nat.blt t X.n = true) (hg : wantE ops e o = some true) (ho : o.op = .call { callee := .value fo, args := ag, argTypes := ats }) (ha : evsE X.P e ag.toList = some vs) (hf : evE X.P e fo = some (.func (.func g) ⟨first⟩ ⟨cap⟩))
  (hc : ∀ m, KR X.S X.m0 m h → Fc X.P g (first ++ vs ++ cap) m fun v m' => ∃ x, A x ∧ v = V x ∧ Ext m m' ∧ News m m' (N x)) (q : ∀ x, A x → De X ops base rI cl as ((t, V x) :: e) (N x ++ h) rest Q) : De X ops base rI cl as e h ((o, i) :: rest) Q := fun ts m rs ws h1 h2 h3 h4 h5 => by
 have hkr : KR X.S X.m0 ⟨m.heap, m.next, base, []⟩ h := ⟨h3.2, h2.next, h2.keep, fun b o hb => ⟨(h2.has b o hb).1, (h2.has b o hb).2.1⟩⟩
 obtain ⟨k, v, m', g1, x, hA, rfl, hx, hn⟩ := hc _ hkr
 have hlog : m'.log = [] := hx.log
 have hext : Ext m ⟨m'.heap, m'.next, X.m0.lo, m.log⟩ := ⟨hx.next, h2.lo.symm, rfl, hx.keep⟩
 have hnew : News m ⟨m'.heap, m'.next, X.m0.lo, m.log⟩ (N x) := ⟨hn.has, hn.apart⟩
 obtain ⟨j, out, g2, g3⟩ := q x hA _ ⟨m'.heap, m'.next, X.m0.lo, m.log⟩ rs ((i.i, []) :: ws) (h1.put ht (V x)) (h2.of_news hext hnew) ⟨h3.1, Nat.le_trans h3.2 hx.next⟩ h4 (fun hcl p hp => by
  rcases List.mem_cons.1 hp with rfl | hp
  ·rfl
  exact h5 hcl p hp)
 refine ⟨k + j, out, ?_, g3⟩
 unfold dops
 rw [wantE_spec h1 hg]
 have e1 : (i.hok && plainB i.pre m.heap as) = true := by rw [hok, plainB_all _ _ _ hin]; rfl
 have e2 : doOp X.P (irun X.P (k + j)) ts o.op ⟨hideB i.pre as m.heap, m.next, base, []⟩ = some (.val (V x) m') := by
  rw [hideB_all _ _ _ hin, ho, doOp_h rfl]
  simp only [opH, callH, evsE_evs h1 ha, evE_ev h1 hf, callV, callA, irun_le (Nat.le_add_right k j) _ _ _ _ g1]
 simp only [cond_true, hi, e1, e2, hlog, writeOk_nil, showB_all _ _ _ _ hin, below, List.nil_append, hd]
 exact dops_le (irun_le (Nat.le_add_left j k)) g2
theorem De.call (v : Value) (hi : i.cls = .h) (hok : i.hok = true) (hin : allIn i.pre (as.map Prod.fst) = true) (hd : o.dst = some t) (ht : Nat.blt t X.n = true) (hg : wantE ops e o = some true) (ho : o.op = .call { callee := .value fo, args := ag, argTypes := ats }) (ha : evsE X.P e ag.toList = some vs) (hf : evE X.P e fo = some (.func (.func g) ⟨first⟩ ⟨cap⟩))
  (hc : ∀ m, KR X.S X.m0 m h → Fc X.P g (first ++ vs ++ cap) m fun w m' => w = v ∧ Ext m m') (q : De X ops base rI cl as ((t, v) :: e) h rest Q) : De X ops base rI cl as e h ((o, i) :: rest) Q :=
 De.calln (α := Unit) (fun _ => True) (fun _ => v) (fun _ => []) hi hok hin hd ht hg ho ha hf (fun m hm => (hc m hm).mono fun _ _ ⟨e1, e2⟩ => ⟨(), trivial, e1, e2, News.nil _ _⟩) fun _ _ => q
end
end Go.Ab
namespace Go.Ab
variable [Vals]
section
variable {X : Cx} {ops : Array Oper} {base : Nat} {rI : List Nat} {cl : Bool} {mk : List (Nat × Nat)} {e : Env} {h : Hp} {Q : Out → Prop} {o : Oper} {i : Info} {rest : List (Oper × Info)} {t : Tmp} {v : Value}
theorem has_as (u : Nat) (hl : look e u = some w) (hw : w = w') (h1 : Has n ts e) : Has n ts ((u, w') :: e) := by
 subst hw
 refine ⟨h1.few, h1.defs, fun s x hx => ?_⟩
 unfold look at hx
 cases hb : Nat.beq u s with
 | true =>
  rw [hb] at hx
  cases hx
  rw [nbeq, decide_eq_true_eq] at hb
  subst hb
  exact h1.at_ _ _ hl
 | false =>
  rw [hb] at hx
  exact h1.at_ _ _ hx
theorem De.as (u : Nat) (w' : Value) (hl : look e u = some w) (hw : w = w') (q : De X ops base rI cl mk ((u, w') :: e) h rest Q) : De X ops base rI cl mk e h rest Q := fun ts m rs ws h1 h2 h3 h4 h5 => q ts m rs ws (has_as u hl hw h1) h2 h3 h4 h5
theorem De.splitB (u : Nat) (hl : look e u = some (.bool c)) (q1 : c = true → De X ops base rI cl mk ((u, .bool true) :: e) h rest Q) (q2 : c = false → De X ops base rI cl mk ((u, .bool false) :: e) h rest Q) : De X ops base rI cl mk e h rest Q := by
 cases c with
 | true => exact De.as u _ hl rfl (q1 rfl)
 | false => exact De.as u _ hl rfl (q2 rfl)
theorem De.sub (e' : Env) (h' : Hp) (he : Sub e' e) (hh : h'.Sublist h) (q : De X ops base rI cl mk e' h' rest Q) : De X ops base rI cl mk e h rest Q := fun ts m rs ws h1 h2 h3 h4 h5 => q ts m rs ws (h1.sub he) (h2.sub hh) h3 h4 h5
theorem De.bin (hi : i.cls = .p) (hd : o.dst = some t) (ht : Nat.blt t X.n = true) (hg : wantE ops e o = some true) (ho : o.op = .binOp op ty x y u) (hx : evE X.P e x = some a) (hy : evE X.P e y = some b) (hv : binS X.P op ty x y a b = some v) (q : De X ops base rI cl mk ((t, v) :: e) h rest Q) : De X ops base rI cl mk e h ((o, i) :: rest) Q :=
 De.p hi hd ht hg (by rw [ho]; simp only [opE, hx, hy]; exact hv) q
theorem Ie.bin {rest : List Oper} (hd : o.dst = some t) (ht : Nat.blt t X.n = true) (hg : wantE ops e o = some true) (ho : o.op = .binOp op ty x y u) (hx : evE X.P e x = some a) (hy : evE X.P e y = some b) (hv : binS X.P op ty x y a b = some v) (q : Ie X ops ((t, v) :: e) h rest Q) : Ie X ops e h (o :: rest) Q :=
 Ie.p hd ht hg (by rw [ho]; simp only [opE, hx, hy]; exact hv) q
theorem binS_eql (h : a = b) : binS P .eql ty x y (.int k a) (.int k b) = some (.bool true) := by
 have : binS P .eql ty x y (.int k a) (.int k b) = some (.bool (eqI a b)) := by
  unfold binS
  have h : binA P .eql ty x y (.int k a) (.int k b) = some (.bool (eqI a b)) := by
   show (bif decide (k = k) then arithI .eql k a b else none) = _
   simp only [decide_true, cond_true, arithI, cmpInt, Option.map_some]
  rw [h]
 rw [this, eqI_eq, decide_eq_true h]
theorem binS_neql (h : a ≠ b) : binS P .eql ty x y (.int k a) (.int k b) = some (.bool false) := by
 have : binS P .eql ty x y (.int k a) (.int k b) = some (.bool (eqI a b)) := by
  unfold binS
  have h : binA P .eql ty x y (.int k a) (.int k b) = some (.bool (eqI a b)) := by
   show (bif decide (k = k) then arithI .eql k a b else none) = _
   simp only [decide_true, cond_true, arithI, cmpInt, Option.map_some]
  rw [h]
 rw [this, eqI_eq, decide_eq_false h]
theorem binS_shr (hj : j ≤ k.bits) : binS P .shr ty x y (.int k a) (.int k' (Int.ofNat j)) = some (.int k (a.fdiv (2 ^ j))) := by
 have h : binA P .shr ty x y (.int k a) (.int k' (Int.ofNat j)) = some (.int k (a.fdiv (2 ^ j))) := by
  show (shiftA .shr k a (Int.ofNat j)).map (Value.int k) = _
  unfold shiftA
  simp only [nble, hj, decide_true, cond_true, Option.map_some]
 unfold binS
 rw [h]
theorem De.store {b off n : Nat} (hi : i.cls = .h) (hok : i.hok = true) (hin : allIn i.pre (mk.map Prod.fst) = true) (hri : allIn i.pre rI = true) (hd : o.dst = none) (hg : wantE ops e o = some true) (ho : o.op = .store ty a x) (ha : evE X.P e a = some (.pointer (some ⟨b, off, none⟩))) (hx : evE X.P e x = some y) (hsz : sizeT X.P ty = some (n + 1)) (hl : (cellsOfV y).length = n + 1) (hu : Upd h b (.cells cs el g md none) (.cells (putCells cs off (cellsOfV y)) el g md none) h') (hw : (md.writes && Nat.ble (off + (cellsOfV y).length) cs.length && flats (cellsOfV y)) = true) (q : De X ops base rI false mk e h' rest Q) : De X ops base rI cl mk e h ((o, i) :: rest) Q := fun ts m rs ws h1 h2 h3 h4 h5 => by
 have hn : m.next = (m.set b (some (.cells (putCells cs off (cellsOfV y)) el g md none))).next := rfl
 obtain ⟨k, out, g1, g2⟩ := q ts (m.set b (some (.cells (putCells cs off (cellsOfV y)) el g md none))) rs ((i.i, bif Nat.blt b base then [b] else []) :: ws) h1 (h2.set hu) h3 h4 (fun hf => by cases hf)
 refine ⟨k, out, ?_, g2⟩
 have hb : m.heap.get b = some (.cells cs el g md none) := (h2.has _ _ hu.spec.1).1
 have e2 : doOp X.P (irun X.P k) ts o.op ⟨hideB i.pre mk m.heap, m.next, base, []⟩ = some (.val undef (AW.set ⟨m.heap, m.next, base, []⟩ b (some (.cells (putCells cs off (cellsOfV y)) el g md none)))) := by
  rw [hideB_all _ _ _ hin, ho, doOp_h rfl]
  have h4 : storeA ⟨m.heap, m.next, base, []⟩ b off (cellsOfV y) = some (AW.set ⟨m.heap, m.next, base, []⟩ b (some (.cells (putCells cs off (cellsOfV y)) el g md none))) := by
   unfold storeA
   cases hc : cellsOfV y with
   | nil => rw [hc] at hl; simp at hl
   | cons c r =>
    rw [hc] at hw
    simp only [hb, hw, kill, cond_true]
  have h5 : Nat.beq (cellsOfV y).length (n + 1) = true := by rw [nbeq, hl]; simp
  simp only [opH, evE_ev h1 ha, evE_ev h1 hx, storeV, hsz, h5, cond_true, h4, valM]
 have e1 : (i.hok && plainB i.pre m.heap mk) = true := by rw [hok, plainB_all _ _ _ hin]; rfl
 have e3 : ∀ w, writeOk i.pre w rs = true := fun w => writeOk_in _ _ _ hri _ h4
 unfold dops
 rw [wantE_spec h1 hg]
 simp only [cond_true, hi, e1, e2, e3, showB_all _ _ _ _ hin, hd]
 have hlog : below X.m0.lo (AW.set ⟨m.heap, m.next, base, []⟩ b (some (.cells (putCells cs off (cellsOfV y)) el g md none))).log ++ m.log = (m.set b (some (.cells (putCells cs off (cellsOfV y)) el g md none))).log := by
  simp only [AW.set, h2.lo]
  cases hbb : Nat.blt b base with
  | true =>
   simp only [cond_true, below]
   cases Nat.blt b X.m0.lo <;> rfl
  | false =>
   simp only [cond_false, below, List.nil_append]
   have : Nat.blt b X.m0.lo = false := by
    rw [nblt, decide_eq_false_iff_not] at hbb ⊢
    have := h2.lole
    have := h3.1
    omega
   rw [this]
   rfl
 rw [hlog]
 have hput : put X.n ts none undef = ts := rfl
 have hheap : (⟨(AW.set ⟨m.heap, m.next, base, []⟩ b (some (.cells (putCells cs off (cellsOfV y)) el g md none))).heap, (AW.set ⟨m.heap, m.next, base, []⟩ b (some (.cells (putCells cs off (cellsOfV y)) el g md none))).next, X.m0.lo, (m.set b (some (.cells (putCells cs off (cellsOfV y)) el g md none))).log⟩ : AW) = m.set b (some (.cells (putCells cs off (cellsOfV y)) el g md none)) := by
  simp only [AW.set, h2.lo]
 rw [hheap, hput]
 exact g1
end
end Go.Ab
namespace Go.Ab
variable [Vals]
theorem Knows.news (k : Knows [] m0 m h) (hl : l.Sublist h) : News m0 m l where
 has := fun b o hb => by
  obtain ⟨h1, h2, h3⟩ := k.has b o (hl.subset hb)
  refine ⟨h1, ?_, h2⟩
  rcases h3 with h3 | h3
  ·exact h3
  cases h3
 apart := k.apart.sublist (hl.map _)
inductive ResH (X : Cx) (e : Env) (h : Hp) : List ResultVar → List Value → Prop where
 | nil : ResH X e h [] []
 | tmp {t : Nat} {v : Value} {rs : List ResultVar} {vs : List Value} (hl : look e t = some v) (r : ResH X e h rs vs) : ResH X e h (.tmp t :: rs) (v :: vs)
 | agg {a t b off n : Nat} {cs ws : List Value} {el : TypeId} {g : Bool} {md : CMode} {mate : Option Nat} {rs : List ResultVar} {vs : List Value} (hl : look e a = some (.pointer (some ⟨b, off, none⟩))) (hty : aggT X.P t = some true) (hsz : sizeT X.P t = some n) (hs : Sees X h b (.cells cs el g md mate)) (hn : off + n ≤ cs.length) (hc : (cs.drop off).take n = ws) (r : ResH X e h rs vs) : ResH X e h (.cell a t :: rs) (.agg ⟨ws⟩ :: vs)
 | cell {a t b off : Nat} {v : Value} {cs : List Value} {el : TypeId} {g : Bool} {md : CMode} {mate : Option Nat} {rs : List ResultVar} {vs : List Value} (hl : look e a = some (.pointer (some ⟨b, off, none⟩))) (hty : aggT X.P t = some false) (hs : Sees X h b (.cells cs el g md mate)) (hc : cs[off]? = some v) (r : ResH X e h rs vs) : ResH X e h (.cell a t :: rs) (v :: vs)
theorem ResH.spec (r : ResH X e h rs vs) (H : Has X.n ts e) (K : Knows X.S X.m0 m h) : resA.go X.P ts m rs = some vs := by
 have hlt : ∀ {t : Nat}, t < X.n → Nat.blt t dIx = true := fun {t} ht => by
  rw [nblt, decide_eq_true_eq]
  have := H.few
  omega
 induction r with
 | nil => rfl
 | tmp hl r ih =>
  obtain ⟨h1, h2⟩ := H.at_ _ _ hl
  unfold resA.go
  simp only [hlt h1, cond_true, ih, h2]
  rfl
 | agg hl hty hsz hs hn hc r ih =>
  obtain ⟨h1, h2⟩ := H.at_ _ _ hl
  unfold resA.go
  simp only [hlt h1, cond_true, ih, h2, Option.getD_some, loadA_true hty hsz, hs m K, Option.bind_some, rdCells_take hn hc, Option.map_some]
 | cell hl hty hs hc r ih =>
  obtain ⟨h1, h2⟩ := H.at_ _ _ hl
  unfold resA.go
  simp only [hlt h1, cond_true, ih, h2, Option.getD_some, loadA_false hty, hs m K, Option.bind_some, hc, Option.map_some]
section
variable {X : Cx} {e : Env} {h : Hp} {fn : Func} {Q : Value → AW → Prop}
theorem Re.endH (hr : fn.results.toList = rs) (hv : ResH X e h rs vs) (q : ∀ m, Knows X.S X.m0 m h → Q (tupV vs) m) : Re X e h (End X.P fn Q) := fun ts m h1 h2 =>
 ⟨h1.defs, tupV vs, by unfold resA; rw [hr, hv.spec h1 h2]; unfold tupV; rfl, q m h2⟩
theorem Ne.endH (hr : fn.results.toList = rs) (hv : ResH X e h rs vs) (q : ∀ m, Knows X.S X.m0 m h → Q (tupV vs) m) : Ne X e h (End X.P fn Q) := fun ts m h1 h2 =>
 ⟨h1.defs, tupV vs, by unfold resA; rw [hr, hv.spec h1 h2]; unfold tupV; rfl, q m h2⟩
end
theorem Fc.extern (hf : P.funcs[f]? = some fn) (hb : fn.body = none) (he : externA fn args = some v) : Fc P f args m fun w m' => w = v ∧ Ext m m' := by
 refine ⟨1, v, m, ?_, rfl, .refl _⟩
 show stFn P _ f args m = _
 unfold stFn
 simp only [hf, hb, he]
theorem hasL_congr {h h' : Tr AObj} : ∀ {l : List (Nat × Bool × List Value)}, (∀ p ∈ l, h'.get p.1 = h.get p.1) → hasL h' l = hasL h l
 | [], _ => rfl
 | (b, g, vs) :: l, hp => by
  unfold hasL
  have e1 : h'.get b = h.get b := hp (b, g, vs) List.mem_cons_self
  rw [e1, hasL_congr fun p hm => hp p (List.mem_cons_of_mem _ hm)]
def LaidAt (l : List (Nat × Bool × List Value)) (m : AW) : Prop := hasL m.heap l = true ∧ ∀ p ∈ l, p.1 < m.next
theorem LaidAt.kr (x : LaidAt l m0) (k : KR [] m0 m h) : LaidAt l m :=
 ⟨(hasL_congr fun p hp => k.keep p.1 (x.2 p hp) (by simp)).trans x.1, fun p hp => Nat.lt_of_lt_of_le (x.2 p hp) k.next⟩
theorem Fc.said (hf : P.funcs[f]? = some fn) (hb : fn.body.isSome = true) (hv : Vals.call f args = some v) (hs : (scals args && scalT v) = true) (hg : Nat.ble P.globals.size laidEnd = true) (hl : LaidAt Vals.laid m) : Fc P f args m fun w m' => w = v ∧ Ext m m' :=
 (Fc.known hf hb hv hs (by rw [hg, hl.1]; rfl)).mono fun _ _ ⟨e1, e2⟩ => ⟨e1, by rw [e2]; exact .refl _⟩
theorem calls_fc [FactsOk P] (hP : PlainNames P) (hmx : P.follows .mixedOrders = true) (h : ∀ tt, Fc P f args ⟨laidT tt l, nx, lo, []⟩ fun v _ => v = .bool b) (hf : P.funcs[f]? = some fn) (hb : fn.body.isSome = true)
  (hl : LiesBy P W l) (hnx : Nat.ble laidEnd nx = true) (ha : ∀ ρ, VsRel ρ args args') :
  Calls P f ⟨args'⟩ W fun e W' => e = .returned (.bool b) ∧ Still W W' := by
 obtain ⟨tt, ρ, hr, hn⟩ := relLaid (nx := nx) (lo := lo) (lg := []) hl
 obtain ⟨k, v, m', h1, rfl⟩ := h tt
 rw [nble, decide_eq_true_eq] at hnx
 refine (calls_of_irun hP hmx h1 rfl hf hb hr (fun i hi _ => hn i (Nat.le_trans hnx hi)) (ha ρ)).mono fun e W' ⟨v', ρ', q1, q2, _, q4⟩ => ?_
 cases q2
 refine ⟨q1, q4.rest, q4.size, fun B hB => q4.keep B hB ?_⟩
 rintro ⟨c, o, s, g1, g2, _⟩
 obtain ⟨t, vs, _, rfl⟩ := laidT_get g1
 cases g2
theorem wr_if (k : IntKind) (n : Int) : wr k n = if k.signed = true ∧ (2 : Int) ^ (k.bits - 1) ≤ n % (2 : Int) ^ k.bits then n % (2 : Int) ^ k.bits - (2 : Int) ^ k.bits else n % (2 : Int) ^ k.bits := by
 rw [wr_eq]
 unfold IntKind.wrap
 simp only [Bool.and_eq_true, decide_eq_true_eq, ge_iff_le]
theorem wr_mod (k : IntKind) (n : Int) : (wr k n) % (2 : Int) ^ k.bits = n % (2 : Int) ^ k.bits := by
 rw [wr_if]
 cases k <;> simp only [IntKind.bits, IntKind.signed, true_and, false_and, Bool.false_eq_true, if_false, Nat.reduceSub, Int.reducePow] <;> first | omega | (split <;> omega)
theorem wr_of_mod (h : a % (2 : Int) ^ k.bits = b % (2 : Int) ^ k.bits) : wr k a = wr k b := by
 rw [wr_if, wr_if, h]
theorem wr_range (k : IntKind) (n : Int) : k.min ≤ wr k n ∧ wr k n ≤ k.max := by
 rw [wr_if]
 cases k <;> simp only [IntKind.bits, IntKind.signed, IntKind.min, IntKind.max, true_and, false_and, Bool.false_eq_true, if_false, if_true, Nat.reduceSub, Int.reducePow, Int.reduceNeg, Int.reduceSub] <;> first | omega | (split <;> omega)
theorem wr_in (h1 : k.min ≤ n) (h2 : n ≤ k.max) : wr k n = n := by
 rw [wr_if]
 cases k <;> simp only [IntKind.bits, IntKind.signed, IntKind.min, IntKind.max, true_and, false_and, Bool.false_eq_true, if_false, if_true, Nat.reduceSub, Int.reducePow, Int.reduceNeg, Int.reduceSub] at * <;> first | omega | (split <;> omega)
end Go.Ab
namespace Go.Ab
mutual
def dcells {H : Type} : DataW H → List Value
 | .lit (.int k n) => [.int k n]
 | .lit (.bool b) => [.bool b]
 | .lit (.float k b) => [.float k b]
 | .lit (.string l) => [.string ⟨⟨l⟩⟩]
 | .agg l => dcellss l
 | _ => []
def dcellss {H : Type} : List (DataW H) → List Value
 | [] => []
 | x :: xs => dcells x ++ dcellss xs
end
def contig (P : Program) (n : Nat) : Nat → List Field → Bool
 | off, [] => Nat.beq off n
 | off, f :: fs => Nat.beq f.offset off && contig P n (off + P.cellsOf f.type) fs
def plainT (P : Program) : Nat → TypeId → Bool
 | 0, _ => false
 | d + 1, t => match P.underlying t with
  | some .bool | some (.int _) | some (.float _) | some .string => true
  | some (.struct fs) => (fs.toList.all fun f => plainT P d f.type) && contig P (P.cellsOf t) 0 fs.toList
  | some (.array n e) => plainT P d e && Nat.beq (P.cellsOf t) (n * P.cellsOf e)
  | _ => false
section
variable {H : Type} {enc : TypeId × Value → H} {P : Program} {w : World} {base : Nat} {spare : Nat → Bool} {held : Bool}
theorem struct_cells {cs : List Value} {n : Nat} (hn : cs.length = n) : ∀ (fs : List Field) (xs : List (DataW H)) (off : Nat), contig P n off fs = true → off ≤ n → xs.length = fs.length → (∀ (i : Nat) (f : Field) (x : DataW H), fs[i]? = some f → xs[i]? = some x → (cs.drop f.offset).take (P.cellsOf f.type) = dcells x ∧ f.offset + P.cellsOf f.type ≤ n) → cs.drop off = dcellss xs
 | [], xs, off, hc, _, hx, _ => by
  cases xs with
  | nil =>
   unfold contig at hc
   rw [nbeq, decide_eq_true_eq] at hc
   rw [List.drop_of_length_le (by omega)]
   rfl
  | cons x xs => simp at hx
 | f :: fs, xs, off, hc, ho, hx, h => by
  cases xs with
  | nil => simp at hx
  | cons x xs =>
   unfold contig at hc
   rw [Bool.and_eq_true, nbeq, decide_eq_true_eq] at hc
   obtain ⟨h1, h2⟩ := h 0 f x rfl rfl
   rw [hc.1] at h1 h2
   have ih := struct_cells hn fs xs (off + P.cellsOf f.type) hc.2 h2 (by simpa using hx) fun i g y hg hy => h (i + 1) g y (by simpa using hg) (by simpa using hy)
   show cs.drop off = dcells x ++ dcellss xs
   rw [← h1, ← ih, ← List.drop_drop, List.take_append_drop]
theorem array_cells {cs : List Value} {n k : Nat} (hn : cs.length = n * k) : ∀ (xs : List (DataW H)) (j : Nat), j + xs.length = n → (∀ (i : Nat) (x : DataW H), xs[i]? = some x → (cs.drop ((j + i) * k)).take k = dcells x) → cs.drop (j * k) = dcellss xs
 | [], j, hj, _ => by
  have : j = n := by simpa using hj
  rw [List.drop_of_length_le (by rw [hn, this]; exact Nat.le_refl _)]
  rfl
 | x :: xs, j, hj, h => by
  simp only [List.length_cons] at hj
  have h1 := h 0 x rfl
  have ih := array_cells hn xs (j + 1) (by omega) fun i y hy => by
   have := h (i + 1) y (by simpa using hy)
   rw [show j + 1 + i = j + (i + 1) by omega]
   exact this
  show cs.drop (j * k) = dcells x ++ dcellss xs
  rw [← h1, ← ih, Nat.add_zero, Nat.succ_mul, ← List.drop_drop, List.take_append_drop]
theorem contig_le {n : Nat} : ∀ {fs : List Field} {off : Nat}, contig P n off fs = true → off ≤ n ∧ ∀ (i : Nat) (f : Field), fs[i]? = some f → f.offset + P.cellsOf f.type ≤ n
 | [], off, h => by
  unfold contig at h
  rw [nbeq, decide_eq_true_eq] at h
  exact ⟨by omega, fun i f hf => by simp at hf⟩
 | g :: fs, off, h => by
  unfold contig at h
  rw [Bool.and_eq_true, nbeq, decide_eq_true_eq] at h
  obtain ⟨h1, h2⟩ := contig_le h.2
  refine ⟨by omega, fun i f hf => ?_⟩
  cases i with
  | zero =>
   simp only [List.getElem?_cons_zero, Option.some.injEq] at hf
   subst hf
   omega
  | succ i => exact h2 i f (by simpa using hf)
theorem trod_plain : ∀ (d : Nat) (t : TypeId), plainT P d t = true → ∀ (fuel : Nat) (cs : List Value) (x : DataW H × List MemPlace), DataW.trod enc P w base spare held fuel t cs = some x → cs = dcells x.1 := by
 intro d
 induction d with
 | zero => intro t h; cases h
 | succ d ih =>
  intro t h fuel cs x hx
  unfold plainT at h
  split at h
  ·rename_i ht
   obtain ⟨b, rfl, rfl⟩ := DataW.trod_bool ht hx
   rfl
  ·rename_i k ht
   obtain ⟨n, rfl, rfl, _⟩ := DataW.trod_int ht hx
   rfl
  ·rename_i k ht
   cases fuel with
   | zero => cases hx
   | succ m =>
    unfold DataW.trod at hx
    rw [ht] at hx
    split at hx <;> simp_all
    obtain ⟨⟨rfl, _⟩, rfl⟩ := hx
    rfl
  ·rename_i ht
   obtain ⟨s, rfl, rfl, _⟩ := DataW.trod_string ht hx
   rfl
  ·rename_i fs ht
   obtain ⟨xs, m, rfl, rfl, hl, hlen, hf⟩ := DataW.trod_struct ht hx
   rw [Bool.and_eq_true, List.all_eq_true] at h
   have := struct_cells (P := P) hl fs.toList (xs.map (·.1)) 0 h.2 (Nat.zero_le _) (by simp [hlen]) fun i f y hi hy => by
    rw [List.getElem?_map, Option.map_eq_some_iff] at hy
    obtain ⟨z, hz, rfl⟩ := hy
    have h1 := hf i f (by simpa using hi)
    rw [hz] at h1
    exact ⟨ih _ (h.1 f (List.mem_of_getElem? hi)) _ _ _ h1, (contig_le h.2).2 i f hi⟩
   have h9 : cs = dcellss (xs.map (·.1)) := by simpa using this
   exact h9
  ·rename_i n e ht
   obtain ⟨xs, m, rfl, rfl, hl, hlen, hf⟩ := DataW.trod_array ht hx
   rw [Bool.and_eq_true, nbeq, decide_eq_true_eq] at h
   have := array_cells (n := n) (k := P.cellsOf e) (by rw [hl, h.2]) (xs.map (·.1)) 0 (by simp [hlen]) fun i y hy => by
    rw [List.getElem?_map, Option.map_eq_some_iff] at hy
    obtain ⟨z, hz, rfl⟩ := hy
    have hi : i < n := by
     have := (List.getElem?_eq_some_iff.1 hz).1
     omega
    have h1 := hf i hi
    rw [hz] at h1
    rw [Nat.zero_add]
    exact ih _ h.1 _ _ _ h1
   have h9 : cs = dcellss (xs.map (·.1)) := by simpa using this
   exact h9
  cases h
theorem cells?_get (h : w.cells? base a n = some cs) : base ≤ a.block ∧ cs.length = n ∧ ∀ i, i < n → w.cell? (a.add i) = cs[i]? := by
 unfold World.cells? at h
 split at h
 ·rename_i hb
  exact ⟨hb, by simpa using mapM_some_length h, fun i hi => mapM_some_get h i i (by simp [hi])⟩
 cases h
theorem add_eq (b off n : Nat) : Addr.add ⟨b, off, none⟩ n = ⟨b, off + n, none⟩ := by
 unfold Addr.add
 split
 ·simp_all
 rfl
theorem spot_none (h : w.cell? a = some v) : a = ⟨a.block, a.off, none⟩ := by
 obtain ⟨b, off, spot⟩ := a
 cases spot with
 | none => rfl
 | some s =>
  unfold World.cell? at h
  split at h <;> simp at h
theorem trod_slice_plain (ht : P.underlying t = some (.slice e)) (hp : plainT P d e = true) (hk : 0 < P.cellsOf e) (hs : ∀ b, spare b = true) (hne : 0 < ds.length) (h : DataW.trod enc P w base spare held fuel t cs = some (.slice ds [], p)) :
  ∃ b off, cs = [.slice (some ⟨b, off, none⟩) ds.length ds.length] ∧ ds.length ≤ maxLen ∧ (∀ i : Nat, i < ds.length * P.cellsOf e → w.cell? ⟨b, off + i, none⟩ = (dcellss ds)[i]?) ∧ (dcellss ds).length = ds.length * P.cellsOf e := by
 rcases DataW.trod_slice ht h with ⟨_, h2⟩ | ⟨a, len, cap, elems, rest, n, rfl, rfl, hx, _, h3, h4, h5, h6, h7, _⟩
 ·cases h2
 simp only [Prod.mk.injEq, DataW.slice.injEq] at hx
 obtain ⟨⟨rfl, hr⟩, _⟩ := hx
 have hrest : rest = [] := by
  cases rest with
  | nil => rfl
  | cons r rs => simp at hr
 have hcap : cap = len := by
  have := (h7 (hs _)).1
  rw [hrest] at this
  simp at this
  omega
 subst hcap
 simp only [List.length_map] at hne
 have ha : a = ⟨a.block, a.off, none⟩ := by
  have h0 := h6 0 (by omega)
  rw [List.getElem?_eq_getElem hne] at h0
  obtain ⟨cs, h8, _⟩ := Option.bind_eq_some_iff.1 h0
  obtain ⟨_, h11, h12⟩ := cells?_get h8
  have h13 := h12 0 hk
  rw [List.getElem?_eq_getElem (by omega)] at h13
  have : (a.add (0 * P.cellsOf e)).add 0 = a := by simp [Addr.add]
  rw [this] at h13
  exact spot_none h13
 obtain ⟨b, off, spot⟩ := a
 simp only [Addr.mk.injEq, true_and] at ha
 subst ha
 have key : ∀ (xs : List (DataW H × List MemPlace)) (j : Nat), (∀ (i : Nat) (x : DataW H × List MemPlace), xs[i]? = some x → (w.cells? base (Addr.add ⟨b, off, none⟩ ((j + i) * P.cellsOf e)) (P.cellsOf e)).bind (DataW.trod enc P w base spare held n e) = some x) →
   (dcellss (xs.map (·.1))).length = xs.length * P.cellsOf e ∧ ∀ i, i < xs.length * P.cellsOf e → w.cell? ⟨b, off + (j * P.cellsOf e + i), none⟩ = (dcellss (xs.map (·.1)))[i]? := by
  intro xs
  induction xs with
  | nil => intro j _; exact ⟨by simp [dcellss], fun i hi => by simp at hi⟩
  | cons x xs ih =>
   intro j hx
   obtain ⟨cs, h8, h9⟩ := Option.bind_eq_some_iff.1 (hx 0 x rfl)
   have h10 := trod_plain d e hp _ _ _ h9
   obtain ⟨_, h11, h12⟩ := cells?_get h8
   obtain ⟨i1, i2⟩ := ih (j + 1) fun i y hy => by
    have := hx (i + 1) y (by simpa using hy)
    rw [show j + 1 + i = j + (i + 1) by omega]
    exact this
   have hlen : (dcells x.1).length = P.cellsOf e := by rw [← h10]; exact h11
   refine ⟨by simp only [List.map_cons, dcellss, List.length_append, hlen, i1, List.length_cons, Nat.succ_mul]; omega, fun i hi => ?_⟩
   show _ = (dcells x.1 ++ dcellss (xs.map (·.1)))[i]?
   by_cases hlt : i < P.cellsOf e
   ·rw [List.getElem?_append_left (by omega), ← h10, ← h12 i hlt, add_eq, add_eq, Nat.add_zero, Nat.add_assoc]
   rw [List.getElem?_append_right (by omega), hlen]
   have := i2 (i - P.cellsOf e) (by simp only [List.length_cons, Nat.succ_mul] at hi; omega)
   rw [← this, show off + (j * P.cellsOf e + i) = off + ((j + 1) * P.cellsOf e + (i - P.cellsOf e)) by rw [Nat.succ_mul]; omega]
 have hk2 := key elems 0 fun i x hi => by
  have hlt := (List.getElem?_eq_some_iff.1 hi).1
  rw [Nat.zero_add, h6 i (by omega)]
  exact hi
 refine ⟨b, off, by simp [h5], by simp [h5]; exact h4, fun i hi => ?_, by simpa using hk2.1⟩
 have := hk2.2 i (by simpa using hi)
 simpa using this
end
end Go.Ab
namespace Go.Ab
theorem laidVars_get {P : Program} {w : World} : ∀ {l : List (String × DataW Unit)} {ps : List MemPlace}, DataW.LaidVars P w l ps → ∀ {n : String} {d : DataW Unit}, (n, d) ∈ l → ∃ g t cs fuel p, P.globalNamed n = some g ∧ (P.globals[g]?).map (·.type) = some t ∧ w.var? P n = some cs ∧ DataW.trod (fun _ => ()) P w 0 (fun _ => true) false fuel t cs.toList = some (d, p)
 | [], _, _, _, _, hm => by cases hm
 | (n', d') :: r, ps, h, n, d, hm => by
  obtain ⟨g, t, cs, fuel, p, q, h1, h2, h3, h4, h5, _⟩ := h
  cases hm with
  | head => exact ⟨g, t, cs, fuel, p, h1, h2, h3, h4⟩
  | tail _ hm => exact laidVars_get h5 hm
section
variable {P : Program} {W : World} {l : List (String × DataW Unit)} {n : String} {d : DataW Unit} {g t k : Nat}
theorem plainVar (hsh : W.ShapedOpen P) (hL : laidMet P l W) (hm : (n, d) ∈ l) (hg : P.globalNamed n = some g) (ht : (P.globals[g]?).map (·.type) = some t) (hlt : Nat.blt g P.globals.size = true)
  (hz : ((begin P (fun _ _ => 0) default).world.heap[g]?).bind (fun o => o.row?.map fun x => (x.1.size, x.2)) = some (k, t)) (hp : plainT P 10 t = true) : ∃ fr, W.heap[g]? = some (.cells ⟨dcells d⟩ t fr) := by
 obtain ⟨_, hL, _⟩ := hL
 obtain ⟨g', t', cs, fuel, p, h1, h2, h3, h4⟩ := laidVars_get hL hm
 obtain rfl := Option.some.inj (hg.symm.trans h1)
 obtain rfl := Option.some.inj (ht.symm.trans h2)
 obtain ⟨fr, hb⟩ := block_of_var hsh hg hlt h3 hz
 have h5 : cs.toList = dcells d := trod_plain 10 t hp _ _ _ h4
 exact ⟨fr, by rw [hb]; congr 2; exact Array.ext' h5⟩
theorem sliceVar (hsh : W.ShapedOpen P) (hL : laidMet P l W) (hm : (n, DataW.slice ds []) ∈ l) (hg : P.globalNamed n = some g) (ht : (P.globals[g]?).map (·.type) = some t) (hlt : Nat.blt g P.globals.size = true)
  (hz : ((begin P (fun _ _ => 0) default).world.heap[g]?).bind (fun o => o.row?.map fun x => (x.1.size, x.2)) = some (k, t)) (hu : P.underlying t = some (.slice e)) (hp : plainT P 10 e = true) (hk : 0 < P.cellsOf e) (hne : 0 < ds.length) (hle : 0 < (dcellss ds).length) :
  ∃ b off, (∃ fr, W.heap[g]? = some (.cells #[.slice (some ⟨b, off, none⟩) ds.length ds.length] t fr)) ∧ b < W.heap.size ∧ ∃ c u fr, W.heap[b]? = some (.cells c u fr) ∧ off + (dcellss ds).length ≤ c.size ∧ ∀ (i : Nat) v, (dcellss ds)[i]? = some v → c[off + i]? = some v := by
 obtain ⟨_, hL, _⟩ := hL
 obtain ⟨g', t', cs, fuel, p, h1, h2, h3, h4⟩ := laidVars_get hL hm
 obtain rfl := Option.some.inj (hg.symm.trans h1)
 obtain rfl := Option.some.inj (ht.symm.trans h2)
 obtain ⟨fr, hb⟩ := block_of_var hsh hg hlt h3 hz
 obtain ⟨b, off, h5, _, h6, h7⟩ := trod_slice_plain hu hp hk (fun _ => rfl) hne h4
 have hcell : ∀ i, i < (dcellss ds).length → ∃ c u fr', W.heap[b]? = some (.cells c u fr') ∧ c[off + i]? = (dcellss ds)[i]? := by
  intro i hi
  have := h6 i (by omega)
  unfold World.cell? at this
  split at this
  ·rename_i c u fr' hc
   exact ⟨c, u, fr', hc, by simpa using this⟩
  rw [List.getElem?_eq_getElem hi] at this
  cases this
 obtain ⟨c, u, fr', hc, _⟩ := hcell 0 hle
 have hall : ∀ i, i < (dcellss ds).length → c[off + i]? = (dcellss ds)[i]? := by
  intro i hi
  obtain ⟨c2, u2, fr2, hc2, h8⟩ := hcell i hi
  rw [hc] at hc2
  cases hc2
  exact h8
 refine ⟨b, off, ⟨fr, by rw [hb]; congr 2; exact Array.ext' h5⟩, (Array.getElem?_eq_some_iff.1 hc).1, c, u, fr', hc, ?_, fun i v hv => ?_⟩
 ·have h8 := hall ((dcellss ds).length - 1) (by omega)
  rw [List.getElem?_eq_getElem (by omega)] at h8
  have := (Array.getElem?_eq_some_iff.1 h8).1
  omega
 rw [hall i (List.getElem?_eq_some_iff.1 hv).1]
 exact hv
end
theorem lrel_at (hg : ground.go vs = true) : ∀ v ∈ vs, LRel ρ v v := by
 have hgr : ∀ (vs : List Value), ground.go vs = true → ∀ v ∈ vs, ground v = true := by
  intro vs
  induction vs with
  | nil => intro _ v hv; cases hv
  | cons x xs ih =>
   intro h v hv
   simp only [ground.go, Bool.and_eq_true] at h
   cases hv with
   | head => exact h.1
   | tail _ hv => exact ih h.2 v hv
 intro v hv
 have h := hgr vs hg v hv
 unfold LRel
 split
 ·simp [ground] at h
 ·simp [ground] at h
 exact ⟨h, rfl⟩
def LaidOk (P : Program) (W : World) (ρ : Ren) (b : Nat) (g : Bool) (vs : List Value) : Prop :=
 ∃ s c t fr, ρ b = some s ∧ W.heap[s.blk]? = some (.cells c t fr) ∧ s.off + vs.length ≤ c.size ∧ (∀ (i : Nat) v, vs[i]? = some v → ∃ v', c[s.off + i]? = some v' ∧ LRel ρ v v') ∧ (g = false → s.off = 0 ∧ c.size = vs.length) ∧ (g = true → s.cap < big ∧ s.off + s.cap * P.cellsOf t ≤ c.size)
theorem laidOk_plain (hρ : ρ b = some ⟨b, 0, 0⟩) (hW : W.heap[b]? = some (.cells ⟨vs⟩ t fr)) (hg : ground.go vs = true) : LaidOk P W ρ b false vs :=
 ⟨⟨b, 0, 0⟩, ⟨vs⟩, t, fr, hρ, hW, by simp, fun i v hv => ⟨v, by simpa using hv, lrel_at hg v (List.mem_of_getElem? hv)⟩, fun _ => ⟨rfl, rfl⟩, fun h => by cases h⟩
theorem laidOk_slice {b t b2 B off n : Nat} (hρ : ρ b = some ⟨b, 0, 0⟩) (hρ2 : ρ b2 = some ⟨B, off, 0⟩) (hn : n < big) (hW : W.heap[b]? = some (.cells #[.slice (some ⟨B, off, none⟩) n n] t fr)) : LaidOk P W ρ b false [.slice (some ⟨b2, 0, none⟩) n n] :=
 ⟨⟨b, 0, 0⟩, _, t, fr, hρ, hW, by simp, fun i v hv => by
  cases i with
  | zero =>
   simp only [List.getElem?_cons_zero, Option.some.injEq] at hv
   subst hv
   exact ⟨_, rfl, rfl, hn, _, hρ2, rfl⟩
  | succ i => simp at hv, fun _ => ⟨rfl, rfl⟩, fun h => by cases h⟩
theorem laidOk_elems {b2 B off u : Nat} (hρ2 : ρ b2 = some ⟨B, off, 0⟩) (hW : W.heap[B]? = some (.cells c u fr)) (hle : off + vs.length ≤ c.size) (hv : ∀ (i : Nat) v, vs[i]? = some v → c[off + i]? = some v) (hg : ground.go vs = true) : LaidOk P W ρ b2 true vs :=
 ⟨⟨B, off, 0⟩, c, u, fr, hρ2, hW, hle, fun i v h => ⟨v, hv i v h, lrel_at hg v (List.mem_of_getElem? h)⟩, (fun h => by cases h), fun _ => ⟨by simp [big], by simp; omega⟩⟩
end Go.Ab
namespace Go.Ab
variable [Vals]
section
variable {S : List Nat} {m0 m m' : AW} {h : Hp}
theorem Knows.perm (k : Knows S m0 m h) (p : h.Perm h') : Knows S m0 m h' :=
 ⟨k.lole, k.next, k.lo, k.log, k.none_, k.keep, fun b o hb => k.has b o (p.mem_iff.2 hb), (p.map Prod.fst).nodup_iff.1 k.apart⟩
theorem Knows.kill (k : Knows S m0 m ((b, o) :: h)) : Knows S m0 (m.set b none) h := by
 obtain ⟨g1, g2, g3⟩ := k.has b o List.mem_cons_self
 have hlog : ∀ c, c ∈ (m.set b none).log → c ∈ m.log ∨ (c = b ∧ b < m.lo) := by
  intro c hc
  simp only [AW.set] at hc
  cases hb : Nat.blt b m.lo with
  | true =>
   rw [hb] at hc
   rw [nblt, decide_eq_true_eq] at hb
   rcases List.mem_cons.1 hc with hc | hc
   ·exact .inr ⟨hc, hb⟩
   exact .inl hc
  | false =>
   rw [hb] at hc
   exact .inl hc
 have hap := k.apart
 simp only [List.map_cons, List.nodup_cons] at hap
 refine ⟨k.lole, k.next, k.lo, fun c hc => ?_, fun hs => ?_, fun c hc hs => ?_, fun c x hc => ?_, hap.2⟩
 ·rcases hlog c hc with h | ⟨rfl, h⟩
  ·exact k.log c h
  rcases g3 with g3 | g3
  ·have := k.lole
   have := k.lo
   omega
  exact .inr ⟨g3, by rw [← k.lo]; exact h⟩
 ·have : Nat.blt b m.lo = false := by
   rw [nblt, decide_eq_false_iff_not]
   rcases g3 with g3 | g3
   ·have := k.lole
    have := k.lo
    omega
   have := hs b g3
   have := k.lo
   omega
  simp only [AW.set, this]
  exact k.none_ hs
 ·simp only [AW.set, Tr.get_set]
  rw [if_neg]
  ·exact k.keep c hc hs
  rintro rfl
  rcases g3 with g3 | g3
  ·omega
  exact hs g3
 simp only [AW.set, Tr.get_set]
 have hne : c ≠ b := by
  rintro rfl
  exact hap.1 (List.mem_map.2 ⟨_, hc, rfl⟩)
 rw [if_neg hne]
 exact k.has c x (List.mem_cons_of_mem _ hc)
end
inductive Gro where
 | no
 | emp (b : Nat)
 | one (b : Nat)
 | two (b b0 : Nat) (old : List Value)
def Gro.H (e : TypeId) (cs : List Value) : Gro → Hp
 | .no => []
 | .emp b => [(b, .cells [] e false .plain none)]
 | .one b => [(b, .cells cs e true .plain none)]
 | .two b b0 old => [(b, .cells cs e true .plain (some b0)), (b0, .cells old e true .plain (some b))]
def Gro.V (n : Nat) : Gro → Value
 | .no => .slice none 0 0
 | .emp b => .slice (some ⟨b, 0, none⟩) 0 0
 | .one b => .slice (some ⟨b, 0, none⟩) n top
 | .two b _ _ => .slice (some ⟨b, 0, none⟩) n top
def Gro.Ok (n : Nat) : Gro → Prop
 | .no => n = 0
 | .emp _ => n = 0
 | _ => 0 < n
def AppT (P : Program) (e : TypeId) (sz : Nat) : Prop := sizeT P e = some sz ∧ ∃ i, P.info? e = some i ∧ (zeroFits P e sz && (Nat.ble i.bytes 1024 && (Nat.ble 1 i.bytes && Nat.ble 1 sz))) = true
theorem below_set (lo b : Nat) (lg : List Nat) : (bif Nat.blt b lo then b :: lg else lg) = below lo [b] ++ lg := by
 simp only [below]
 cases Nat.blt b lo <;> rfl
theorem below_two (lo b c : Nat) : below lo [b, c] = below lo [b] ++ below lo [c] := by
 simp only [below]
 cases Nat.blt b lo <;> rfl
theorem below_below {lo base : Nat} (h : lo ≤ base) : ∀ l : List Nat, below lo (below base l) = below lo l
 | [] => rfl
 | b :: l => by
  have ih := below_below h l
  simp only [below]
  cases hb : Nat.blt b base with
  | true => simp only [cond_true, below, ih]
  | false =>
   have : Nat.blt b lo = false := by
    rw [nblt, decide_eq_false_iff_not] at hb ⊢
    omega
   simp only [cond_false, this, ih]
theorem appendA_gro (ht : AppT P e sz) {g : Gro} (hk : Knows S m0 m (g.H e cs ++ h)) (hg : g.Ok n) (hc : cs.length = n * sz) (hv : vs.length = k * sz) (hf : flats vs = true) (hn : n + k ≤ 4294967296) :
  ∃ g' hp nx tch, (∀ lo lg, appendA P e ⟨m.heap, m.next, lo, lg⟩ (g.V n) k vs = some (Gro.V (n + k) g', ⟨hp, nx, lo, below lo tch ++ lg⟩)) ∧ Knows S m0 ⟨hp, nx, m.lo, below m.lo tch ++ m.log⟩ (g'.H e (cs ++ vs) ++ h) ∧ g'.Ok (n + k) ∧ m.next ≤ nx ∧ (g = .no ∨ (∃ b, g = .emp b) → tch = []) := by
 obtain ⟨hsz, i, hi, hb⟩ := ht
 simp only [Bool.and_eq_true] at hb
 obtain ⟨hz, hb1, hb2, hb3⟩ := hb
 cases k with
 | zero =>
  have hvs : vs = [] := List.eq_nil_of_length_eq_zero (by rw [hv]; omega)
  subst hvs
  refine ⟨g, m.heap, m.next, [], ?_, by simpa [below] using hk, hg, Nat.le_refl _, fun _ => rfl⟩
  intro lo lg
  cases g with
  | no => rfl
  | emp b => rfl
  | one b =>
   show (bif Nat.ble n top then _ else _) = _
   rw [nble, decide_eq_true (by unfold top; omega)]
   rfl
  | two b b0 old =>
   show (bif Nat.ble n top then _ else _) = _
   rw [nble, decide_eq_true (by unfold top; omega)]
   rfl
 | succ k =>
  have hsz1 : 1 ≤ sz := Nat.le_of_ble_eq_true hb3
  have hcond : ∀ len, len = n → (!(zeroFits P e sz && Nat.beq vs.length ((k + 1) * sz) && flats vs && Nat.ble (len + (k + 1)) 4294967296 && Nat.ble i.bytes 1024 && Nat.ble 1 i.bytes && Nat.ble 1 sz)) = false := by
   intro len e1
   subst e1
   have e1 : Nat.beq vs.length ((k + 1) * sz) = true := by rw [nbeq, hv]; simp
   have e2 : Nat.ble (len + (k + 1)) 4294967296 = true := by rw [nble]; simpa using hn
   rw [hz, e1, hf, e2, hb1, hb2, hb3]
   rfl
  have hcs0 : cs.take (n * sz) = cs := by rw [← hc, List.take_length]
  cases g with
  | no =>
   have hn0 : n = 0 := hg
   subst hn0
   have hcs : cs = [] := List.eq_nil_of_length_eq_zero (by rw [hc]; omega)
   subst hcs
   refine ⟨.one m.next, m.heap.set m.next (some (.cells ([] ++ vs) e true .plain none)), m.next + 1, [], fun lo lg => ?_, hk.new (.cells ([] ++ vs) e true .plain none), (by show 0 < _; omega), Nat.le_succ _, fun _ => rfl⟩
   show appendA P e _ (.slice none 0 0) (k + 1) vs = _
   unfold appendA
   simp only [hsz, hi, hcond 0 rfl]
   rfl
  | emp b =>
   have hn0 : n = 0 := hg
   subst hn0
   have hcs : cs = [] := List.eq_nil_of_length_eq_zero (by rw [hc]; omega)
   subst hcs
   have hk2 := hk.sub (h' := h) (List.sublist_append_right _ _)
   refine ⟨.one m.next, m.heap.set m.next (some (.cells ([] ++ vs) e true .plain none)), m.next + 1, [], fun lo lg => ?_, hk2.new (.cells ([] ++ vs) e true .plain none), (by show 0 < _; omega), Nat.le_succ _, fun _ => rfl⟩
   have hbk := (hk.has b (.cells [] e false .plain none) (by simp [Gro.H])).1
   show appendA P e _ (.slice (some ⟨b, 0, none⟩) 0 0) (k + 1) vs = _
   unfold appendA
   simp only [hsz, hi, hcond 0 rfl, hbk]
   have e1 : Nat.blt 0 big = true := rfl
   have e2 : Nat.ble (0 + (k + 1)) 0 = false := by rw [nble]; simp
   simp only [e1, e2, cond_true, cond_false]
   have e3 : rdCells (.cells [] e false .plain none) 0 (0 * sz) = some [] := by
    rw [Nat.zero_mul]
    rfl
   rw [e3]
   rfl
  | one b =>
   have hk1 : Knows S m0 m ((b, .cells cs e true .plain none) :: h) := hk
   have hbk := (hk1.has b _ List.mem_cons_self).1
   have hk2 := hk1.set (o' := .cells cs e true .plain (some m.next)) .head
   have hk3 := hk2.new (.cells (cs ++ vs) e true .plain (some b))
   refine ⟨.two m.next b cs, (m.heap.set b (some (.cells cs e true .plain (some m.next)))).set m.next (some (.cells (cs ++ vs) e true .plain (some b))), m.next + 1, [b], fun lo lg => ?_, by
    simp only [AW.new, AW.set, below_set] at hk3
    exact hk3, (by show 0 < _; omega), Nat.le_succ _, fun h => by rcases h with h | ⟨_, h⟩ <;> cases h⟩
   show appendA P e _ (.slice (some ⟨b, 0, none⟩) n top) (k + 1) vs = _
   unfold appendA
   simp only [hsz, hi, hcond n rfl, hbk]
   have e1 : Nat.blt top big = false := rfl
   have e4 : Nat.beq e e = true := by rw [nbeq]; simp
   have e5 : Nat.beq 0 ((top - top) * sz) = true := by rw [nbeq]; simp
   have e6 : Nat.ble (n * sz) cs.length = true := by rw [nble]; simp [hc]
   have e7 : Nat.beq (n * sz) cs.length = true := by rw [nbeq]; simp [hc]
   simp only [Nat.zero_add, e1, e4, e5, e6, e7, cond_true, cond_false, hcs0, List.drop_zero, ← below_set]
   rfl
  | two b b0 old =>
   have hk0 : Knows S m0 m ((b, .cells cs e true .plain (some b0)) :: (b0, .cells old e true .plain (some b)) :: h) := hk
   have hbk := (hk0.has b _ List.mem_cons_self).1
   have hk1 : Knows S m0 (m.set b0 none) ((b, .cells cs e true .plain (some b0)) :: h) := (hk0.perm (List.Perm.swap _ _ _)).kill
   have hk2 := hk1.set (o' := .cells cs e true .plain (some m.next)) .head
   have hk3 := hk2.new (.cells (cs ++ vs) e true .plain (some b))
   refine ⟨.two m.next b cs, ((m.heap.set b0 none).set b (some (.cells cs e true .plain (some m.next)))).set m.next (some (.cells (cs ++ vs) e true .plain (some b))), m.next + 1, [b, b0], fun lo lg => ?_, by
    simp only [AW.new, AW.set, below_set] at hk3
    rw [below_two, List.append_assoc]
    exact hk3, (by show 0 < _; omega), Nat.le_succ _, fun h => by rcases h with h | ⟨_, h⟩ <;> cases h⟩
   show appendA P e _ (.slice (some ⟨b, 0, none⟩) n top) (k + 1) vs = _
   unfold appendA
   simp only [hsz, hi, hcond n rfl, hbk]
   have e1 : Nat.blt top big = false := rfl
   have e4 : Nat.beq e e = true := by rw [nbeq]; simp
   have e5 : Nat.beq 0 ((top - top) * sz) = true := by rw [nbeq]; simp
   have e6 : Nat.ble (n * sz) cs.length = true := by rw [nble]; simp [hc]
   have e7 : Nat.beq (n * sz) cs.length = true := by rw [nbeq]; simp [hc]
   have hl : below lo [b, b0] ++ lg = (bif Nat.blt b lo then b :: (bif Nat.blt b0 lo then b0 :: lg else lg) else (bif Nat.blt b0 lo then b0 :: lg else lg)) := by
    rw [below_two, List.append_assoc, below_set, below_set]
   simp only [Nat.zero_add, e1, e4, e5, e6, e7, cond_true, cond_false, hcs0, List.drop_zero, hl]
   rfl
def Shows (X : Cx) (h : Hp) (sz : Nat) (v : Value) (k : Nat) (vs : List Value) : Prop := lenV v = some k ∧ vs.length = k * sz ∧ flats vs = true ∧ ∀ m lo lg, Knows X.S X.m0 m h → firstA ⟨m.heap, m.next, lo, lg⟩ sz k v = some vs
theorem Shows.slice {sz b off n c : Nat} (hs : Sees X h b (.cells cs el g md mate)) (hl : off + n * sz ≤ cs.length) (hv : (cs.drop off).take (n * sz) = vs) (hf : flats vs = true) : Shows X h sz (.slice (some ⟨b, off, none⟩) n c) n vs := by
 refine ⟨rfl, ?_, hf, fun m lo lg hk => ?_⟩
 ·rw [← hv, List.length_take, List.length_drop]
  omega
 show (bif Nat.beq n 0 then some [] else (m.heap.get b).bind fun o => rdCells o off (n * sz)) = some vs
 cases hb : Nat.beq n 0 with
 | true =>
  rw [nbeq, decide_eq_true_eq] at hb
  subst hb
  rw [← hv]
  simp
 | false =>
  rw [hs m hk]
  simp only [cond_false, Option.bind_some]
  exact rdCells_take hl hv
theorem Shows.nil (ha : a = none ∨ ∃ b off, a = some ⟨b, off, none⟩) : Shows X h sz (.slice a 0 c) 0 [] := by
 refine ⟨rfl, by simp, rfl, fun m lo lg hk => ?_⟩
 rcases ha with rfl | ⟨b, off, rfl⟩ <;> rfl
theorem appendV_gro (h1 : P.underlying t1 = some (.slice e)) (h2 : P.underlying t2 = some (.slice e2)) (hsz : sizeT P e = some sz) (hl : lenV x = some k) (hf : firstA m sz k x = some vs) : appendV P (some t1) (some t2) s x m = valP (appendA P e m s k vs) := by
 unfold appendV
 simp only [Option.bind_some, h1, h2, hsz, hl, hf]
section
variable {X : Cx} {ops : Array Oper} {base : Nat} {rI : List Nat} {cl : Bool} {mk : List (Nat × Nat)} {e : Env} {h : Hp} {Q : Out → Prop} {o : Oper} {i : Info} {rest : List Oper} {drest : List (Oper × Info)} {t : Tmp}
theorem Ie.append {g : Gro} (hp : h.Perm (g.H el cs ++ h1)) (hx : evE X.P e x = some xv) (hv : Shows X h sz xv k vs) (hg : g.Ok n) (hc : cs.length = n * sz) (hn : n + k ≤ 4294967296) (hd : o.dst = some t) (ht : Nat.blt t X.n = true) (hgd : wantE ops e o = some true) (ho : o.op = .call { callee := .builtin .append, args := #[s, x], argTypes := #[t1, t2] }) (hu1 : X.P.underlying t1 = some (.slice el)) (hu2 : X.P.underlying t2 = some (.slice e2)) (hT : AppT X.P el sz) (hs : evE X.P e s = some (g.V n))
  (q : ∀ g' : Gro, g'.Ok (n + k) → Ie X ops ((t, g'.V (n + k)) :: e) (g'.H el (cs ++ vs) ++ h1) rest Q) : Ie X ops e h (o :: rest) Q := fun ts m a1 a2 => by
 obtain ⟨g', hp', nx, tch, h3, h4, h5, _, _⟩ := appendA_gro hT (a2.perm hp) hg hc hv.2.1 hv.2.2.1 hn
 refine Io.op (k := 0) (m' := ⟨hp', nx, m.lo, below m.lo tch ++ m.log⟩) (v := g'.V (n + k)) (wantE_spec a1 hgd) (by rw [ho]; rfl) ?_ ?_
 ·rw [ho, doOp_h rfl]
  have : evs X.P ts [s, x] = some [g.V n, xv] := by
   unfold evs evs evs
   rw [evE_ev a1 hs, evE_ev a1 hx]
   rfl
  show (match evs X.P ts [s, x] with | some args => callB X.P .append args #[t1, t2] m | none => none) = _
  rw [this]
  show appendV X.P (some t1) (some t2) (g.V n) xv m = _
  rw [appendV_gro hu1 hu2 hT.1 hv.1 (hv.2.2.2 m m.lo m.log a2)]
  have h6 := h3 m.lo m.log
  rw [show (⟨m.heap, m.next, m.lo, m.log⟩ : AW) = m from rfl] at h6
  rw [h6]
  rfl
 rw [hd]
 exact q g' h5 _ _ (a1.put ht _) h4
theorem De.append {g : Gro} (hp : h.Perm (g.H el cs ++ h1)) (hx : evE X.P e x = some xv) (hv : Shows X h sz xv k vs) (hg : g.Ok n) (hc : cs.length = n * sz) (hn : n + k ≤ 4294967296) (hi : i.cls = .h) (hok : i.hok = true) (hin : allIn i.pre (mk.map Prod.fst) = true) (hri : allIn i.pre rI = true) (hd : o.dst = some t) (ht : Nat.blt t X.n = true) (hgd : wantE ops e o = some true) (ho : o.op = .call { callee := .builtin .append, args := #[s, x], argTypes := #[t1, t2] }) (hu1 : X.P.underlying t1 = some (.slice el)) (hu2 : X.P.underlying t2 = some (.slice e2)) (hT : AppT X.P el sz) (hs : evE X.P e s = some (g.V n))
  (q : ∀ g' : Gro, g'.Ok (n + k) → De X ops base rI false mk ((t, g'.V (n + k)) :: e) (g'.H el (cs ++ vs) ++ h1) drest Q) : De X ops base rI cl mk e h ((o, i) :: drest) Q := fun ts m rs ws a1 a2 a3 a4 a5 => by
 obtain ⟨g', hp', nx, tch, h3, h4, h5, h6, _⟩ := appendA_gro hT (a2.perm hp) hg hc hv.2.1 hv.2.2.1 hn
 obtain ⟨j, out, g1, g2⟩ := q g' h5 _ ⟨hp', nx, m.lo, below m.lo tch ++ m.log⟩ rs ((i.i, below base tch) :: ws) (a1.put ht _) h4 ⟨a3.1, Nat.le_trans a3.2 h6⟩ a4 (fun hf => by cases hf)
 refine ⟨j, out, ?_, g2⟩
 have e2' : doOp X.P (irun X.P j) ts o.op ⟨hideB i.pre mk m.heap, m.next, base, []⟩ = some (.val (g'.V (n + k)) ⟨hp', nx, base, below base tch ++ []⟩) := by
  rw [hideB_all _ _ _ hin, ho, doOp_h rfl]
  have : evs X.P ts [s, x] = some [g.V n, xv] := by
   unfold evs evs evs
   rw [evE_ev a1 hs, evE_ev a1 hx]
   rfl
  show (match evs X.P ts [s, x] with | some args => callB X.P .append args #[t1, t2] ⟨m.heap, m.next, base, []⟩ | none => none) = _
  rw [this]
  show appendV X.P (some t1) (some t2) (g.V n) xv _ = _
  rw [appendV_gro hu1 hu2 hT.1 hv.1 (hv.2.2.2 m base [] a2), h3 base []]
  rfl
 have e1 : (i.hok && plainB i.pre m.heap mk) = true := by rw [hok, plainB_all _ _ _ hin]; rfl
 have e3 : ∀ w, writeOk i.pre w rs = true := fun w => writeOk_in _ _ _ hri _ a4
 unfold dops
 rw [wantE_spec a1 hgd]
 have hle : X.m0.lo ≤ base := Nat.le_trans a2.lole a3.1
 simp only [cond_true, hi, e1, e2', e3, showB_all _ _ _ _ hin, hd, List.append_nil, below_below hle]
 rw [a2.lo] at g1
 exact g1
end
end Go.Ab
namespace Go.Ab
variable [Vals]
inductive Pick : Hp → Hp → Hp → Prop where
 | all {l : Hp} : Pick l l []
 | here {l r : Hp} : Pick (l ++ r) l r
 | one {p : Nat × AObj} {r : Hp} : Pick (p :: r) [p] r
 | tail {p : Nat × AObj} {h l r : Hp} (k : Pick h l r) : Pick (p :: h) l (p :: r)
 | over {h0 h l r : Hp} (k : Pick h l r) : Pick (h0 ++ h) l (h0 ++ r)
theorem Pick.perm {h l r : Hp} (k : Pick h l r) : h.Perm (l ++ r) := by
 induction k with
 | all => rw [List.append_nil]
 | here => exact .refl _
 | one => exact .refl _
 | @tail p h l r k ih => exact (ih.cons p).trans List.perm_middle.symm
 | @over h0 h l r k ih =>
  refine (ih.append_left h0).trans ?_
  rw [← List.append_assoc, ← List.append_assoc]
  exact List.perm_append_comm.append_right r
section
variable {κ : Type} [DecidableEq κ]
def findP (k : κ) : List (κ × Value) → Nat → Option (Nat × Value)
 | [], _ => none
 | (a, v) :: l, i => if k = a then some (i, v) else findP k l (i + 1)
def getP (k : κ) : List (κ × Value) → Option Value
 | [] => none
 | (a, v) :: l => if k = a then some v else getP k l
def putP (k : κ) (x : Value) : List (κ × Value) → List (κ × Value)
 | [] => [(k, x)]
 | (a, v) :: l => if k = a then (k, x) :: l else (a, v) :: putP k x l
theorem findP_get (k : κ) : ∀ (l : List (κ × Value)) (i : Nat), (findP k l i).map Prod.snd = getP k l
 | [], _ => rfl
 | (a, v) :: l, i => by
  unfold findP getP
  split
  ·rfl
  exact findP_get k l (i + 1)
def PairsK (K : κ → Value) : List MapEntry → List (κ × Value) → Prop
 | [], [] => True
 | e :: es, (a, v) :: l => e.key = K a ∧ e.val = v ∧ PairsK K es l
 | _, _ => False
structure KeyOk (P : Program) (t : TypeId) (K : κ → Value) : Prop where
 eq : ∀ a b, eqA P 10000 t (K a) (K b) = some (decide (a = b))
 ok : ∀ a, (keyV P 20 t (K a) && ground (K a)) = true
 same : ∀ a, sameKey 20 (K a) (K a) = true
theorem findA_pairs {P : Program} {t : TypeId} {K : κ → Value} (hK : KeyOk P t K) (k : κ) : ∀ (es : List MapEntry) (l : List (κ × Value)) (i : Nat), PairsK K es l → findA P t (K k) es i = some (findP k l i)
 | [], [], i, _ => rfl
 | e :: es, (a, v) :: l, i, h => by
  obtain ⟨h1, h2, h3⟩ := h
  unfold findA findP
  rw [h1, hK.eq]
  by_cases hk : k = a
  ·subst hk
   simp [h2]
  simp only [hk, decide_false, if_false]
  exact findA_pairs hK k es l (i + 1) h3
 | [], _ :: _, _, h => h.elim
 | _ :: _, [], _, h => h.elim
theorem PairsK.put {P : Program} {t : TypeId} {K : κ → Value} (hK : KeyOk P t K) (k : κ) (x : Value) (c : Nat) : ∀ (es : List MapEntry) (l : List (κ × Value)), PairsK K es l → ∃ es' c', mapPut P t es c (K k) x = some (.map es' c') ∧ PairsK K es' (putP k x l) := by
 have happ : ∀ (es : List MapEntry) (l : List (κ × Value)), PairsK K es l → findP k l 0 = none → ∀ i, findP k l i = none := by
  intro es l h hf i
  have := findP_get k l 0
  rw [hf] at this
  have h2 := findP_get k l i
  rw [← this] at h2
  cases hx : findP k l i with
  | none => rfl
  | some y => rw [hx] at h2; cases h2
 intro es l h
 unfold mapPut
 rw [findA_pairs hK k es l 0 h]
 cases hf : findP k l 0 with
 | none =>
  refine ⟨_, _, rfl, ?_⟩
  have hn := happ es l h hf
  clear hf happ
  induction l generalizing es with
  | nil =>
   cases es with
   | nil => exact ⟨rfl, rfl, trivial⟩
   | cons e es => exact h.elim
  | cons p l ih =>
   obtain ⟨a, v⟩ := p
   cases es with
   | nil => exact h.elim
   | cons e es =>
    obtain ⟨h1, h2, h3⟩ := h
    have h4 := hn 0
    unfold findP at h4
    split at h4
    ·cases h4
    rename_i hne
    unfold putP
    rw [if_neg hne]
    refine ⟨h1, h2, ih es h3 fun i => ?_⟩
    cases i with
    | zero =>
     have := hn 0
     unfold findP at this
     rw [if_neg hne] at this
     have e1 := findP_get k l 1
     rw [this] at e1
     have e2 := findP_get k l 0
     rw [← e1] at e2
     cases hx : findP k l 0 with
     | none => rfl
     | some y => rw [hx] at e2; cases e2
    | succ i =>
     have := hn i
     unfold findP at this
     rw [if_neg hne] at this
     exact this
 | some y =>
  obtain ⟨j, v⟩ := y
  have key : ∀ (es : List MapEntry) (l : List (κ × Value)) (i j : Nat) (v : Value), PairsK K es l → findP k l i = some (j, v) → i ≤ j ∧ sameKeyAt es (j - i) (K k) = true ∧ PairsK K (es.modify (j - i) fun e => { e with key := K k, val := x }) (putP k x l) := by
   intro es
   induction es with
   | nil =>
    intro l i j v h hf
    cases l with
    | nil => cases hf
    | cons p l => exact h.elim
   | cons e es ih =>
    intro l i j v h hf
    cases l with
    | nil => exact h.elim
    | cons p l =>
     obtain ⟨a, w⟩ := p
     obtain ⟨h1, h2, h3⟩ := h
     unfold findP at hf
     unfold putP
     split at hf
     ·rename_i hk
      subst hk
      cases hf
      rw [if_pos rfl, Nat.sub_self]
      refine ⟨Nat.le_refl _, ?_, ?_⟩
      ·unfold sameKeyAt
       simp only [List.getElem?_cons_zero, h1]
       exact hK.same k
      exact ⟨rfl, rfl, h3⟩
     rename_i hk
     rw [if_neg hk]
     obtain ⟨g1, g2, g3⟩ := ih l (i + 1) j v h3 hf
     have hj : j - i = (j - (i + 1)) + 1 := by omega
     rw [hj]
     refine ⟨by omega, ?_, ?_⟩
     ·unfold sameKeyAt at g2 ⊢
      simpa using g2
     exact ⟨h1, h2, g3⟩
  obtain ⟨_, g2, g3⟩ := key es l 0 j v h hf
  rw [Nat.sub_zero] at g2 g3
  simp only [g2, cond_true]
  exact ⟨_, _, rfl, g3⟩
end
theorem eqBytes_same (a : List UInt8) : eqBytes a a = true := by rw [eqBytes_eq]; simp
theorem KeyOk.string {P : Program} {t : TypeId} (hu : P.underlying t = some .string) : KeyOk P t Value.string where
 eq := fun a b => by
  have : eqA P (9999 + 1) t (.string a) (.string b) = some (decide (a = b)) := by
   unfold eqA
   simp only [hu, eqBase, eqBytes_eq]
   congr 1
   rw [decide_eq_decide]
   constructor
   ·intro h
    cases a with | mk a => cases b with | mk b =>
     cases a with | mk a => cases b with | mk b => cases h; rfl
   rintro rfl; rfl
  exact this
 ok := fun a => by
  have : keyV P (19 + 1) t (.string a) = true := by
   unfold keyV
   simp only [hu]
  rw [show (20 : Nat) = 19 + 1 from rfl, this]
  rfl
 same := fun a => by
  show sameKey (19 + 1) (.string a) (.string a) = true
  unfold sameKey
  exact eqBytes_same _
theorem KeyOk.int {P : Program} {t : TypeId} {k : IntKind} (hu : P.underlying t = some (.int k)) : KeyOk P t (Value.int k) where
 eq := fun a b => by
  have : eqA P (9999 + 1) t (.int k a) (.int k b) = some (decide (a = b)) := by
   unfold eqA
   simp only [hu, eqBase]
   rw [eqI_eq]
   simp
  exact this
 ok := fun a => by
  have : keyV P (19 + 1) t (.int k a) = true := by
   unfold keyV
   simp only [hu]
  rw [show (20 : Nat) = 19 + 1 from rfl, this]
  rfl
 same := fun a => by
  show sameKey (19 + 1) (.int k a) (.int k a) = true
  unfold sameKey
  simp [eqI_eq]
section
variable {X : Cx} {ops : Array Oper} {e : Env} {h : Hp} {Q : Out → Prop} {o : Oper} {rest : List Oper} {t : Tmp}
theorem Ie.lookup {κ : Type} [DecidableEq κ] {K : κ → Value} {ty kt et : TypeId} {x k : Operand} {b : Nat} {es : List MapEntry} {c : Nat} {l : List (κ × Value)} {kv : κ} {z v : Value} {r : Hp} (hp : Pick h [(b, .map es c)] r) (hP : PairsK K es l) (hK : KeyOk X.P kt K) (hd : o.dst = some t) (ht : Nat.blt t X.n = true) (hg : wantE ops e o = some true) (ho : o.op = .lookup ty x k false) (hu : X.P.underlying ty = some (.map kt et)) (hz : zeroT X.P et = some z) (hx : evE X.P e x = some (.map (some b))) (hk : evE X.P e k = some (K kv)) (hv : (getP kv l).getD z = v) (q : Ie X ops ((t, v) :: e) h rest Q) : Ie X ops e h (o :: rest) Q := by
 refine Ie.val h hd ht hg (by rw [ho]; rfl) (fun ts m h1 h2 => ⟨0, m, ?_, h2⟩) q
 rw [ho, doOp_l rfl]
 have hm := ((h2.perm hp.perm).has b (.map es c) (by simp)).1
 have hf := findA_pairs hK kv es l 0 hP
 have hgt := findP_get kv l 0
 show doL (lookup1 X.P ts ty x k false) m = _
 unfold lookup1
 rw [evE_ev h1 hx, evE_ev h1 hk]
 show doL (lookupA X.P ty (.map (some b)) (K kv) false) m = _
 unfold lookupA
 simp only [hu, hK.ok, cond_true, doL, hm, Option.bind_some, hf]
 cases hff : findP kv l 0 with
 | none =>
  rw [hff] at hgt
  rw [← hgt] at hv
  simp only [hz, Option.map_some, Bool.false_eq_true, if_false]
  rw [← hv]
  rfl
 | some y =>
  obtain ⟨j, w⟩ := y
  rw [hff] at hgt
  rw [← hgt] at hv
  simp only [Bool.false_eq_true, if_false]
  rw [← hv]
  rfl
theorem Ie.mapUpdate {κ : Type} [DecidableEq κ] {K : κ → Value} {ty kt et : TypeId} {x k y : Operand} {b : Nat} {es : List MapEntry} {c : Nat} {l : List (κ × Value)} {kv : κ} {v : Value} {r : Hp} (hp : Pick h [(b, .map es c)] r) (hP : PairsK K es l) (hK : KeyOk X.P kt K) (hd : o.dst = none) (hg : wantE ops e o = some true) (ho : o.op = .mapUpdate ty x k y) (hu : X.P.underlying ty = some (.map kt et)) (hx : evE X.P e x = some (.map (some b))) (hk : evE X.P e k = some (K kv)) (hy : evE X.P e y = some v) (q : ∀ es' c', PairsK K es' (putP kv v l) → Ie X ops e ((b, .map es' c') :: r) rest Q) : Ie X ops e h (o :: rest) Q := by
 obtain ⟨es', c', g1, g2⟩ := hP.put hK kv v c
 refine Ie.val_ (v := undef) ((b, .map es' c') :: r) hd hg (by rw [ho]; rfl) (fun ts m h1 h2 => ⟨0, m.set b (some (.map es' c')), ?_, (h2.perm hp.perm).set .head⟩) (q es' c' g2)
 rw [ho, doOp_h rfl]
 have hm := ((h2.perm hp.perm).has b (.map es c) (by simp)).1
 have : evs X.P ts [x, k, y] = some [.map (some b), K kv, v] := by
  unfold evs evs evs evs
  rw [evE_ev h1 hx, evE_ev h1 hk, evE_ev h1 hy]
  rfl
 show (match evs X.P ts [x, k, y] with | some [mp, k, x] => mapSet X.P ty mp k x m | _ => none) = _
 rw [this]
 show mapSet X.P ty (.map (some b)) (K kv) v m = _
 unfold mapSet
 simp only [hu, hK.ok, cond_true, hm, g1]
theorem Ie.makeSlice {ty el : TypeId} {x y : Operand} {n : Nat} {k : IntKind} {ob : AObj} {fv : Nat → Value} (hv : makeSliceA X.P ty (some (Int.ofNat n)) (some (Int.ofNat n)) = some (ob, fv)) (hd : o.dst = some t) (ht : Nat.blt t X.n = true) (hg : wantE ops e o = some true) (ho : o.op = .makeSlice ty x y) (hx : evE X.P e x = some (.int k (Int.ofNat n))) (hy : evE X.P e y = some (.int k (Int.ofNat n))) (q : ∀ b, X.m0.next ≤ b → Ie X ops ((t, fv b) :: e) ((b, ob) :: h) rest Q) : Ie X ops e h (o :: rest) Q :=
 Ie.made hd ht hg (by rw [ho]; rfl) (by rw [ho]; rfl) (fun ts H => by
  rw [ho]
  show makeSliceA X.P ty ((ev X.P ts x).bind asInt?) ((ev X.P ts y).bind asInt?) = _
  rw [evE_ev H hx, evE_ev H hy]
  exact hv) q
theorem Ie.buildSlice {ty : TypeId} {n : Nat} {parts : Array (Nat × Operand)} {ps : List (Nat × Value)} {ob : AObj} {fv : Nat → Value} (hd : o.dst = some t) (ht : Nat.blt t X.n = true) (hg : wantE ops e o = some true) (ho : o.op = .buildSlice ty n parts) (hx : evPartsE X.P e parts.toList = some ps) (hv : buildSliceA X.P ty n ps = some (ob, fv)) (q : ∀ b, X.m0.next ≤ b → Ie X ops ((t, fv b) :: e) ((b, ob) :: h) rest Q) : Ie X ops e h (o :: rest) Q :=
 Ie.made hd ht hg (by rw [ho]; rfl) (by rw [ho]; rfl) (fun ts H => by
  rw [ho]
  show (evParts X.P ts parts.toList).bind (buildSliceA X.P ty n) = _
  rw [evPartsE_spec H hx]
  exact hv) q
theorem Ie.min {x y : Operand} {k k' : IntKind} {a b : Int} {ats : Array TypeId} (hd : o.dst = some t) (ht : Nat.blt t X.n = true) (hg : wantE ops e o = some true) (ho : o.op = .call { callee := .builtin .min, args := #[x, y], argTypes := ats }) (hx : evE X.P e x = some (.int k a)) (hy : evE X.P e y = some (.int k' b)) (q : Ie X ops ((t, .int k (if b < a then b else a)) :: e) h rest Q) : Ie X ops e h (o :: rest) Q := by
 refine Ie.val h hd ht hg (by rw [ho]; rfl) (fun ts m h1 h2 => ⟨0, m, ?_, h2⟩) q
 rw [ho, doOp_p rfl]
 have : evs X.P ts [x, y] = some [.int k a, .int k' b] := by
  unfold evs evs evs
  rw [evE_ev h1 hx, evE_ev h1 hy]
  rfl
 show doP (minMax1 true (evs X.P ts [x, y])) m = _
 rw [this]
 rfl
end
section
variable {X : Cx} {ops : Array Oper} {base : Nat} {rI : List Nat} {cl : Bool} {mk : List (Nat × Nat)} {e : Env} {h : Hp} {Q : Out → Prop} {o : Oper} {i : Info} {rest : List (Oper × Info)} {t : Tmp}
theorem De.buildSlice {ty : TypeId} {n : Nat} {parts : Array (Nat × Operand)} {ps : List (Nat × Value)} {ob : AObj} {fv : Nat → Value} (hi : i.cls = .a) (hd : o.dst = some t) (ht : Nat.blt t X.n = true) (hg : wantE ops e o = some true) (ho : o.op = .buildSlice ty n parts) (hx : evPartsE X.P e parts.toList = some ps) (hv : buildSliceA X.P ty n ps = some (ob, fv)) (q : ∀ b, base ≤ b → X.m0.next ≤ b → De X ops base rI cl ((i.i, b) :: mk) ((t, fv b) :: e) ((b, ob) :: h) rest Q) : De X ops base rI cl mk e h ((o, i) :: rest) Q :=
 De.made hi hd ht hg (by rw [ho]; rfl) (fun ts H => by
  rw [ho]
  show (evParts X.P ts parts.toList).bind (buildSliceA X.P ty n) = _
  rw [evPartsE_spec H hx]
  exact hv) q
theorem De.min {x y : Operand} {k k' : IntKind} {a b : Int} {ats : Array TypeId} (hi : i.cls = .p) (hd : o.dst = some t) (ht : Nat.blt t X.n = true) (hg : wantE ops e o = some true) (ho : o.op = .call { callee := .builtin .min, args := #[x, y], argTypes := ats }) (hx : evE X.P e x = some (.int k a)) (hy : evE X.P e y = some (.int k' b)) (q : De X ops base rI cl mk ((t, .int k (if b < a then b else a)) :: e) h rest Q) : De X ops base rI cl mk e h ((o, i) :: rest) Q :=
 De.pure hi hd ht hg (fun ts H => by
  rw [ho]
  have : evs X.P ts [x, y] = some [.int k a, .int k' b] := by
   unfold evs evs evs
   rw [evE_ev H hx, evE_ev H hy]
   rfl
  refine ⟨rfl, ?_⟩
  show minMax1 true (evs X.P ts [x, y]) = _
  rw [this]
  rfl) q
end
end Go.Ab