/-
  The engine, part 7: an interpreter over abstract memories, and the proof that the model's machine does what it reckons. Conditions: none.
-/
import Derived.Test.YtmcjihhfgmfcpaaGreatDoorEng6

set_option autoImplicit true
set_option relaxedAutoImplicit true
set_option linter.unusedSectionVars false
set_option linter.unusedVariables false
set_option linter.unusedSimpArgs false
namespace Go.Ab
variable [Vals]
section
variable {X : Cx} {ops : Array Oper} {base : Nat} {rI : List Nat} {cl : Bool} {mk : List (Nat × Nat)} {e : Env} {h : Hp} {drest : List (Oper × Info)} {rest : List Oper} {Q : Out → Prop} {o : Oper} {i : Info} {t : Tmp}
theorem De.mapUpdate {κ : Type} [DecidableEq κ] {K : κ → Value} {l : List (κ × Value)} {kv : κ} {x k y : Operand} (hp : Pick h [(b, .map es c)] r) (hP : PairsK K es l) (hK : KeyOk X.P kt K) (hi : i.cls = .h) (hok : i.hok = true) (hin : allIn i.pre (mk.map Prod.fst) = true) (hri : allIn i.pre rI = true) (hd : o.dst = none) (hg : wantE ops e o = some true) (ho : o.op = .mapUpdate ty x k y) (hu : X.P.underlying ty = some (.map kt et)) (hx : evE X.P e x = some (.map (some b))) (hk : evE X.P e k = some (K kv)) (hy : evE X.P e y = some v) (q : ∀ es' c', PairsK K es' (putP kv v l) → De X ops base rI false mk e ((b, .map es' c') :: r) drest Q) : De X ops base rI cl mk e h ((o, i) :: drest) Q := fun ts m rs ws h1 h2 h3 h4 h5 => by
 obtain ⟨es', c', f1, f2⟩ := hP.put hK kv v c
 have hset := (h2.perm hp.perm).set (.head (o' := .map es' c'))
 obtain ⟨n, out, g1, g2⟩ := q es' c' f2 ts (m.set b (some (.map es' c'))) rs ((i.i, bif Nat.blt b base then [b] else []) :: ws) h1 hset h3 h4 (fun hf => by cases hf)
 refine ⟨n, out, ?_, g2⟩
 have hb : m.heap.get b = some (.map es c) := ((h2.perm hp.perm).has b (.map es c) (by simp)).1
 have e2 : doOp X.P (irun X.P n) ts o.op ⟨hideB i.pre mk m.heap, m.next, base, []⟩ = some (.val undef (AW.set ⟨m.heap, m.next, base, []⟩ b (some (.map es' c')))) := by
  rw [hideB_all _ _ _ hin, ho, doOp_h rfl]
  have : evs X.P ts [x, k, y] = some [.map (some b), K kv, v] := by
   unfold evs evs evs evs
   rw [evE_ev h1 hx, evE_ev h1 hk, evE_ev h1 hy]
   rfl
  show (match evs X.P ts [x, k, y] with | some [mp, k, x] => mapSet X.P ty mp k x _ | _ => none) = _
  rw [this]
  show mapSet X.P ty (.map (some b)) (K kv) v _ = _
  unfold mapSet
  simp only [hu, hK.ok, cond_true, hb, f1]
 have e1 : (i.hok && plainB i.pre m.heap mk) = true := by rw [hok, plainB_all _ _ _ hin]; rfl
 have e3 : ∀ w, writeOk i.pre w rs = true := fun w => writeOk_in _ _ _ hri _ h4
 unfold dops
 rw [wantE_spec h1 hg]
 simp only [cond_true, hi, e1, e2, e3, showB_all _ _ _ _ hin, hd]
 have hlog : below X.m0.lo (AW.set ⟨m.heap, m.next, base, []⟩ b (some (.map es' c'))).log ++ m.log = (m.set b (some (.map es' c'))).log := by
  simp only [AW.set, h2.lo]
  cases hbb : Nat.blt b base with
  | true =>
   simp only [cond_true, below]
   cases Nat.blt b X.m0.lo <;> rfl
  | false =>
   simp only [cond_false, below, List.nil_append]
   have : Nat.blt b X.m0.lo = false := by
    rw [nblt, decide_eq_false_iff_not] at hbb ⊢
    have := h2.lole
    have := h3.1
    omega
   rw [this]
   rfl
 rw [hlog]
 have hput : put X.n ts none undef = ts := rfl
 have hheap : (⟨(AW.set ⟨m.heap, m.next, base, []⟩ b (some (.map es' c'))).heap, (AW.set ⟨m.heap, m.next, base, []⟩ b (some (.map es' c'))).next, X.m0.lo, (m.set b (some (.map es' c'))).log⟩ : AW) = m.set b (some (.map es' c')) := by
  simp only [AW.set, h2.lo]
 rw [hheap, hput]
 exact g1
theorem Gro.at_ {g : Gro} {n : Nat} (h : g.Ok n) (hn : 0 < n) : ∃ b, g.V n = .slice (some ⟨b, 0, none⟩) n top ∧ (g = .one b ∨ ∃ b0 old, g = .two b b0 old) := by
 cases g with
 | no => exact absurd h (by simp only [Gro.Ok]; omega)
 | emp b => exact absurd h (by simp only [Gro.Ok]; omega)
 | one b => exact ⟨b, rfl, .inl rfl⟩
 | two b b0 old => exact ⟨b, rfl, .inr ⟨b0, old, rfl⟩⟩
inductive Dro where
 | gro (g : Gro)
 | tig (b : Nat)
def Dro.H (e : TypeId) (cs : List Value) : Dro → Hp
 | .gro g => g.H e cs
 | .tig b => [(b, .cells cs e false .plain none)]
def Dro.V (n : Nat) : Dro → Value
 | .gro g => g.V n
 | .tig b => .slice (some ⟨b, 0, none⟩) n n
def Dro.Ok (n : Nat) : Dro → Prop
 | .gro g => g.Ok n
 | .tig _ => 0 < n ∧ n ≤ 4294967296
def Dro.in_ (b : Nat) : Dro → Prop
 | .gro g => g = .one b ∨ ∃ b0 old, g = .two b b0 old
 | .tig c => c = b
theorem Dro.len {d : Dro} {n : Nat} (h : d.Ok n) : ∃ a c, d.V n = .slice a n c := by
 cases d with
 | gro g => cases g with
  | no => have : n = 0 := h; subst this; exact ⟨none, 0, rfl⟩
  | emp b => have : n = 0 := h; subst this; exact ⟨_, 0, rfl⟩
  | one b => exact ⟨_, _, rfl⟩
  | two b b0 old => exact ⟨_, _, rfl⟩
 | tig b => exact ⟨_, _, rfl⟩
theorem Dro.at_ {d : Dro} {n : Nat} (h : d.Ok n) (hn : 0 < n) : ∃ b c, d.V n = .slice (some ⟨b, 0, none⟩) n c ∧ d.in_ b := by
 cases d with
 | gro g =>
  obtain ⟨b, h1, h2⟩ := Gro.at_ (g := g) h hn
  exact ⟨b, _, h1, h2⟩
 | tig b => exact ⟨b, n, rfl, rfl⟩
end
section
variable {X : Cx} {e : Env} {h : Hp} {Q : Out → Prop} {a b : Code} {β : Type}
end
end Go.Ab