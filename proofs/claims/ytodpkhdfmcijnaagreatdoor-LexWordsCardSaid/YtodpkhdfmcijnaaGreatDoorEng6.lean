/-
  The engine, part 6: an interpreter over abstract memories, and the proof that the model's machine does what it reckons. Conditions: none.
-/
import Derived.Test.YtodpkhdfmcijnaaGreatDoorEng5

set_option autoImplicit true
set_option relaxedAutoImplicit true
set_option linter.unusedSectionVars false
set_option linter.unusedVariables false
set_option linter.unusedSimpArgs false
namespace Go.Ab
variable [Vals]
structure PairT (P : Program) (t e : TypeId) (k : IntKind) : Prop where
 arr : P.underlying t = some (.array 2 e)
 num : P.underlying e = some (.int k)
 size : sizeT P e = some 1
 fst : ∀ a b, partA P e [.int k a, .int k b] 0 = some (.int k a)
 snd : ∀ a b, partA P e [.int k a, .int k b] 1 = some (.int k b)
section
variable {X : Cx} {ops : Array Oper} {e : Env} {h : Hp} {Q : Out → Prop} {o : Oper} {rest : List Oper} {t : Tmp}
end
section
variable {X : Cx} {ops : Array Oper} {base : Nat} {rI : List Nat} {cl : Bool} {mk : List (Nat × Nat)} {e : Env} {h : Hp} {Q : Out → Prop} {o : Oper} {i : Info} {rest : List (Oper × Info)} {t : Tmp} {v : Value}
end
end Go.Ab
namespace Go.Ab
variable [Vals]
theorem Flat.take (h : Flat sz R l vs) (hj : j ≤ l.length) : Flat sz R (l.take j) (vs.take (j * sz)) := by
 obtain ⟨h1, h2⟩ := h
 have hle : j * sz ≤ vs.length := by
  rw [h1]
  exact Nat.mul_le_mul_right _ hj
 refine ⟨by rw [List.length_take, List.length_take, Nat.min_eq_left hle, Nat.min_eq_left hj], fun i x hx => ?_⟩
 rw [List.getElem?_take] at hx
 split at hx
 ·rename_i hlt
  have := h2 i x hx
  have h3 : i * sz + sz ≤ j * sz := by
   have := Nat.mul_le_mul_right sz (show i + 1 ≤ j by omega)
   rw [Nat.add_mul, Nat.one_mul] at this
   exact this
  rw [List.drop_take, List.take_take, Nat.min_eq_left (by omega)]
  exact this
 cases hx
section
variable {α : Type} {X : Cx} {ops : Array Oper} {base : Nat} {rI : List Nat} {cl : Bool} {mk : List (Nat × Nat)} {e : Env} {h : Hp} {Q : Out → Prop} {o : Oper} {i : Info} {rest : List Oper} {drest : List (Oper × Info)} {t : Tmp}
theorem Flat.drop (h : Flat sz R l vs) : ∀ i x, (l.drop j)[i]? = some x → R x ((vs.drop (j * sz + i * sz)).take sz) := fun i x hx => by
 rw [List.getElem?_drop] at hx
 have := h.2 _ x hx
 rwa [Nat.add_mul] at this
end
end Go.Ab
namespace Go.Ab
variable [Vals]
def mkI : Nat → List (Nat × Nat) → List Info
 | _, [] => []
 | n, (c, p) :: l => ⟨n, match c / 4 with | 0 => .l | 1 => .h | 2 => .a | _ => .p, Nat.beq (c / 2 % 2) 1, Nat.beq (c % 2) 1, p⟩ :: mkI (n + 1) l
section
variable {X : Cx} {ops : Array Oper} {base : Nat} {rI : List Nat} {cl : Bool} {mk : List (Nat × Nat)} {e : Env} {h : Hp} {Q : Out → Prop} {o : Oper} {i : Info} {rest : List Oper} {drest : List (Oper × Info)} {t : Tmp} {v : Value}
theorem Ce.D {id : Nat} (l : List (Nat × Nat)) (hi : infos X.P ops.toList = mkI 0 l) (htm : tmpsOk (ops.toList.zip (mkI 0 l)) ops.toList = true) (q : ∀ base, X.m0.next ≤ base → (∀ b o, (b, o) ∈ h → b < base) → De X ops base [] true [] e h (ops.toList.zip (mkI 0 l)) Q) : Ce X e h (.region id ops true) Q := Ce.draw _ hi htm q
theorem Ie.S {b off n : Nat} (hsz : sizeT X.P ty = some (n + 1)) (q : Ie X ops e h' rest Q) (hd : o.dst = none := by exact rfl) (hg : wantE ops e o = some true := by exact rfl) (ho : o.op = .store ty a x := by exact rfl) (ha : evE X.P e a = some (.pointer (some ⟨b, off, none⟩)) := by exact rfl) (hx : evE X.P e x = some y := by exact rfl) (hl : (cellsOfV y).length = n + 1 := by exact rfl) (hu : Upd h b (.cells cs el g md none) (.cells (putCells cs off (cellsOfV y)) el g md none) h' := by first | exact .head | exact .tail .head | exact .tail (.tail .head) | exact .tail (.tail (.tail .head))) (hw : (md.writes && Nat.ble (off + (cellsOfV y).length) cs.length && flats (cellsOfV y)) = true := by exact rfl) : Ie X ops e h (o :: rest) Q := Ie.store hd hg ho ha hx hsz hl hu hw q
theorem Ie.A {b off n : Nat} (hty : aggT X.P ty = some true) (hsz : sizeT X.P ty = some n) (hs : Sees X h b (.cells cs el g md mate)) (hc : (cs.drop off).take n = vs) (q : Ie X ops ((t, .agg ⟨vs⟩) :: e) h rest Q) (hd : o.dst = some t := by exact rfl) (ht : Nat.blt t X.n = true := by exact rfl) (hg : wantE ops e o = some true := by exact rfl) (ho : o.op = .load ty a := by exact rfl) (ha : evE X.P e a = some (.pointer (some ⟨b, off, none⟩)) := by exact rfl) (hl : off + n ≤ cs.length := by omega) : Ie X ops e h (o :: rest) Q := Ie.loadAgg hd ht hg ho ha hty hsz hs hl hc q
theorem De.P (q : De X ops base rI cl mk ((t, v) :: e) h drest Q) (hi : i.cls = .p := by exact rfl) (hd : o.dst = some t := by exact rfl) (ht : Nat.blt t X.n = true := by exact rfl) (hg : wantE ops e o = some true := by exact rfl) (hv : opE X.P e o.op = some v := by exact rfl) : De X ops base rI cl mk e h ((o, i) :: drest) Q := De.p hi hd ht hg hv q
theorem De.K {b off len cap sz j : Nat} (hu : X.P.underlying ty = some (.slice el)) (hs : sizeT X.P el = some sz) (q : De X ops base rI cl mk ((t, .pointer (some ⟨b, off + j * sz, none⟩)) :: e) h drest Q) (hi : i.cls = .p := by exact rfl) (hd : o.dst = some t := by exact rfl) (ht : Nat.blt t X.n = true := by exact rfl) (hg : wantE ops e o = some true := by exact rfl) (ho : o.op = .indexAddr ty x y := by exact rfl) (hx : evE X.P e x = some (.slice (some ⟨b, off, none⟩) len cap) := by exact rfl) (hy : evE X.P e y = some (.int k (Int.ofNat j)) := by exact rfl) (hj : j < len := by omega) : De X ops base rI cl mk e h ((o, i) :: drest) Q := De.indexAddr hi hd ht hg ho hu hs hx hy hj q
theorem De.N {b off : Nat} (hty : aggT X.P ty = some false) (hs : Sees X h b (.cells cs el g md mate)) (hc : cs[off]? = some v) (hb : b < base) (q : De X ops base (i.i :: rI) true mk ((t, v) :: e) h drest Q) (hi : i.cls = .l := by exact rfl) (hd : o.dst = some t := by exact rfl) (ht : Nat.blt t X.n = true := by exact rfl) (hg : wantE ops e o = some true := by exact rfl) (ho : o.op = .load ty a := by exact rfl) (ha : evE X.P e a = some (.pointer (some ⟨b, off, none⟩)) := by exact rfl) : De X ops base rI true mk e h ((o, i) :: drest) Q := De.loadOld hi hd ht hg ho ha hty hs hc hb q
end
end Go.Ab
namespace Go.Ab
variable [Vals]
section
variable {X : Cx} {ops : Array Oper} {base : Nat} {rI : List Nat} {cl : Bool} {mk : List (Nat × Nat)} {e : Env} {h : Hp} {drest : List (Oper × Info)} {rest : List Oper} {Q : Out → Prop} {o : Oper} {i : Info} {t : Tmp}
theorem De.mapUpdate {κ : Type} [DecidableEq κ] {K : κ → Value} {l : List (κ × Value)} {kv : κ} {x k y : Operand} (hp : Pick h [(b, .map es c)] r) (hP : PairsK K es l) (hK : KeyOk X.P kt K) (hi : i.cls = .h) (hok : i.hok = true) (hin : allIn i.pre (mk.map Prod.fst) = true) (hri : allIn i.pre rI = true) (hd : o.dst = none) (hg : wantE ops e o = some true) (ho : o.op = .mapUpdate ty x k y) (hu : X.P.underlying ty = some (.map kt et)) (hx : evE X.P e x = some (.map (some b))) (hk : evE X.P e k = some (K kv)) (hy : evE X.P e y = some v) (q : ∀ es' c', PairsK K es' (putP kv v l) → De X ops base rI false mk e ((b, .map es' c') :: r) drest Q) : De X ops base rI cl mk e h ((o, i) :: drest) Q := fun ts m rs ws h1 h2 h3 h4 h5 => by
 obtain ⟨es', c', f1, f2⟩ := hP.put hK kv v c
 have hset := (h2.perm hp.perm).set (.head (o' := .map es' c'))
 obtain ⟨n, out, g1, g2⟩ := q es' c' f2 ts (m.set b (some (.map es' c'))) rs ((i.i, bif Nat.blt b base then [b] else []) :: ws) h1 hset h3 h4 (fun hf => by cases hf)
 refine ⟨n, out, ?_, g2⟩
 have hb : m.heap.get b = some (.map es c) := ((h2.perm hp.perm).has b (.map es c) (by simp)).1
 have e2 : doOp X.P (irun X.P n) ts o.op ⟨hideB i.pre mk m.heap, m.next, base, []⟩ = some (.val undef (AW.set ⟨m.heap, m.next, base, []⟩ b (some (.map es' c')))) := by
  rw [hideB_all _ _ _ hin, ho, doOp_h rfl]
  have : evs X.P ts [x, k, y] = some [.map (some b), K kv, v] := by
   unfold evs evs evs evs
   rw [evE_ev h1 hx, evE_ev h1 hk, evE_ev h1 hy]
   rfl
  show (match evs X.P ts [x, k, y] with | some [mp, k, x] => mapSet X.P ty mp k x _ | _ => none) = _
  rw [this]
  show mapSet X.P ty (.map (some b)) (K kv) v _ = _
  unfold mapSet
  simp only [hu, hK.ok, cond_true, hb, f1]
 have e1 : (i.hok && plainB i.pre m.heap mk) = true := by rw [hok, plainB_all _ _ _ hin]; rfl
 have e3 : ∀ w h, writeOk i.pre w h rs = true := fun w h => writeOk_in _ _ _ hri _ h4
 unfold dops
 rw [wantE_spec h1 hg]
 simp only [cond_true, hi, e1, e2, e3, showB_all _ _ _ _ hin, hd]
 have hlog : below X.m0.lo (AW.set ⟨m.heap, m.next, base, []⟩ b (some (.map es' c'))).log ++ m.log = (m.set b (some (.map es' c'))).log := by
  simp only [AW.set, h2.lo]
  cases hbb : Nat.blt b base with
  | true =>
   simp only [cond_true, below]
   cases Nat.blt b X.m0.lo <;> rfl
  | false =>
   simp only [cond_false, below, List.nil_append]
   have : Nat.blt b X.m0.lo = false := by
    rw [nblt, decide_eq_false_iff_not] at hbb ⊢
    have := h2.lole
    have := h3.1
    omega
   rw [this]
   rfl
 rw [hlog]
 have hput : put X.n ts none undef = ts := rfl
 have hheap : (⟨(AW.set ⟨m.heap, m.next, base, []⟩ b (some (.map es' c'))).heap, (AW.set ⟨m.heap, m.next, base, []⟩ b (some (.map es' c'))).next, X.m0.lo, (m.set b (some (.map es' c'))).log⟩ : AW) = m.set b (some (.map es' c')) := by
  simp only [AW.set, h2.lo]
 rw [hheap, hput]
 exact g1
theorem Gro.at_ {g : Gro} {n : Nat} (h : g.Ok n) (hn : 0 < n) : ∃ b, g.V n = .slice (some ⟨b, 0, none⟩) n top ∧ (g = .one b ∨ ∃ b0 old, g = .two b b0 old) := by
 cases g with
 | no => exact absurd h (by simp only [Gro.Ok]; omega)
 | emp b => exact absurd h (by simp only [Gro.Ok]; omega)
 | one b => exact ⟨b, rfl, .inl rfl⟩
 | two b b0 old => exact ⟨b, rfl, .inr ⟨b0, old, rfl⟩⟩
inductive Dro where
 | gro (g : Gro)
 | tig (b : Nat)
def Dro.H (e : TypeId) (cs : List Value) : Dro → Hp
 | .gro g => g.H e cs
 | .tig b => [(b, .cells cs e false .plain none)]
def Dro.V (n : Nat) : Dro → Value
 | .gro g => g.V n
 | .tig b => .slice (some ⟨b, 0, none⟩) n n
def Dro.Ok (n : Nat) : Dro → Prop
 | .gro g => g.Ok n
 | .tig _ => 0 < n ∧ n ≤ 4294967296
def Dro.in_ (b : Nat) : Dro → Prop
 | .gro g => g = .one b ∨ ∃ b0 old, g = .two b b0 old
 | .tig c => c = b
theorem Dro.len {d : Dro} {n : Nat} (h : d.Ok n) : ∃ a c, d.V n = .slice a n c := by
 cases d with
 | gro g => cases g with
  | no => have : n = 0 := h; subst this; exact ⟨none, 0, rfl⟩
  | emp b => have : n = 0 := h; subst this; exact ⟨_, 0, rfl⟩
  | one b => exact ⟨_, _, rfl⟩
  | two b b0 old => exact ⟨_, _, rfl⟩
 | tig b => exact ⟨_, _, rfl⟩
theorem Dro.at_ {d : Dro} {n : Nat} (h : d.Ok n) (hn : 0 < n) : ∃ b c, d.V n = .slice (some ⟨b, 0, none⟩) n c ∧ d.in_ b := by
 cases d with
 | gro g =>
  obtain ⟨b, h1, h2⟩ := Gro.at_ (g := g) h hn
  exact ⟨b, _, h1, h2⟩
 | tig b => exact ⟨b, n, rfl, rfl⟩
end
section
variable {X : Cx} {e : Env} {h : Hp} {Q : Out → Prop} {a b : Code} {β : Type}
end
end Go.Ab
namespace Go.Ab
variable [Vals]
section
variable {X : Cx} {ops : Array Oper} {e : Env} {h : Hp} {Q : Out → Prop} {o : Oper} {rest : List Oper} {t : Tmp}
end
def Gro.blk : Gro → Nat
 | .no => 0
 | .emp b => b
 | .one b => b
 | .two b _ _ => b
section
variable {X : Cx} {ops : Array Oper} {base : Nat} {rI : List Nat} {cl : Bool} {mk : List (Nat × Nat)} {e : Env} {h : Hp} {Q : Out → Prop} {o : Oper} {i : Info} {drest : List (Oper × Info)} {t : Tmp}
end
end Go.Ab
namespace Go.Ab
variable [Vals]
section
variable {X : Cx} {ops : Array Oper} {e : Env} {h : Hp} {Q : Out → Prop} {o : Oper} {rest : List Oper} {t : Tmp}
end
section
variable {X : Cx} {e : Env} {h : Hp} {Q : Out → Prop}
end
end Go.Ab
namespace Go.Ab
variable [Vals]
section
variable {X : Cx} {ops : Array Oper} {base : Nat} {rI : List Nat} {cl : Bool} {mk : List (Nat × Nat)} {e : Env} {h : Hp} {rest : List (Oper × Info)} {Q : Out → Prop} {o : Oper} {i : Info}
end
end Go.Ab