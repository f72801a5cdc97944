/-
  The engine, part 6: an interpreter over abstract memories, and the proof that the model's machine does what it reckons. Conditions: none.
-/
import Derived.Test.YtdgbgmpnjggikaaGreatDoorEng5

set_option autoImplicit true
set_option relaxedAutoImplicit true
set_option linter.unusedSectionVars false
set_option linter.unusedVariables false
set_option linter.unusedSimpArgs false
namespace Go.Ab
variable [Vals]
structure PairT (P : Program) (t e : TypeId) (k : IntKind) : Prop where
 arr : P.underlying t = some (.array 2 e)
 num : P.underlying e = some (.int k)
 size : sizeT P e = some 1
 fst : ∀ a b, partA P e [.int k a, .int k b] 0 = some (.int k a)
 snd : ∀ a b, partA P e [.int k a, .int k b] 1 = some (.int k b)
section
variable {X : Cx} {ops : Array Oper} {e : Env} {h : Hp} {Q : Out → Prop} {o : Oper} {rest : List Oper} {t : Tmp}
end
section
variable {X : Cx} {ops : Array Oper} {base : Nat} {rI : List Nat} {cl : Bool} {mk : List (Nat × Nat)} {e : Env} {h : Hp} {Q : Out → Prop} {o : Oper} {i : Info} {rest : List (Oper × Info)} {t : Tmp} {v : Value}
end
end Go.Ab
namespace Go.Ab
variable [Vals]
theorem Flat.take (h : Flat sz R l vs) (hj : j ≤ l.length) : Flat sz R (l.take j) (vs.take (j * sz)) := by
 obtain ⟨h1, h2⟩ := h
 have hle : j * sz ≤ vs.length := by
  rw [h1]
  exact Nat.mul_le_mul_right _ hj
 refine ⟨by rw [List.length_take, List.length_take, Nat.min_eq_left hle, Nat.min_eq_left hj], fun i x hx => ?_⟩
 rw [List.getElem?_take] at hx
 split at hx
 ·rename_i hlt
  have := h2 i x hx
  have h3 : i * sz + sz ≤ j * sz := by
   have := Nat.mul_le_mul_right sz (show i + 1 ≤ j by omega)
   rw [Nat.add_mul, Nat.one_mul] at this
   exact this
  rw [List.drop_take, List.take_take, Nat.min_eq_left (by omega)]
  exact this
 cases hx
section
variable {α : Type} {X : Cx} {ops : Array Oper} {base : Nat} {rI : List Nat} {cl : Bool} {mk : List (Nat × Nat)} {e : Env} {h : Hp} {Q : Out → Prop} {o : Oper} {i : Info} {rest : List Oper} {drest : List (Oper × Info)} {t : Tmp}
theorem Flat.drop (h : Flat sz R l vs) : ∀ i x, (l.drop j)[i]? = some x → R x ((vs.drop (j * sz + i * sz)).take sz) := fun i x hx => by
 rw [List.getElem?_drop] at hx
 have := h.2 _ x hx
 rwa [Nat.add_mul] at this
end
end Go.Ab
namespace Go.Ab
variable [Vals]
def mkI : Nat → List (Nat × Nat) → List Info
 | _, [] => []
 | n, (c, p) :: l => ⟨n, match c / 4 with | 0 => .l | 1 => .h | 2 => .a | _ => .p, Nat.beq (c / 2 % 2) 1, Nat.beq (c % 2) 1, p⟩ :: mkI (n + 1) l
section
variable {X : Cx} {ops : Array Oper} {base : Nat} {rI : List Nat} {cl : Bool} {mk : List (Nat × Nat)} {e : Env} {h : Hp} {Q : Out → Prop} {o : Oper} {i : Info} {rest : List Oper} {drest : List (Oper × Info)} {t : Tmp} {v : Value}
theorem Ce.D {id : Nat} (l : List (Nat × Nat)) (hi : infos X.P ops.toList = mkI 0 l) (htm : tmpsOk (ops.toList.zip (mkI 0 l)) ops.toList = true) (q : ∀ base, X.m0.next ≤ base → (∀ b o, (b, o) ∈ h → b < base) → De X ops base [] true [] e h (ops.toList.zip (mkI 0 l)) Q) : Ce X e h (.region id ops true) Q := Ce.draw _ hi htm q
theorem Ie.S {b off n : Nat} (hsz : sizeT X.P ty = some (n + 1)) (q : Ie X ops e h' rest Q) (hd : o.dst = none := by exact rfl) (hg : wantE ops e o = some true := by exact rfl) (ho : o.op = .store ty a x := by exact rfl) (ha : evE X.P e a = some (.pointer (some ⟨b, off, none⟩)) := by exact rfl) (hx : evE X.P e x = some y := by exact rfl) (hl : (cellsOfV y).length = n + 1 := by exact rfl) (hu : Upd h b (.cells cs el g md none) (.cells (putCells cs off (cellsOfV y)) el g md none) h' := by first | exact .head | exact .tail .head | exact .tail (.tail .head) | exact .tail (.tail (.tail .head))) (hw : (md.writes && Nat.ble (off + (cellsOfV y).length) cs.length && flats (cellsOfV y)) = true := by exact rfl) : Ie X ops e h (o :: rest) Q := Ie.store hd hg ho ha hx hsz hl hu hw q
theorem Ie.A {b off n : Nat} (hty : aggT X.P ty = some true) (hsz : sizeT X.P ty = some n) (hs : Sees X h b (.cells cs el g md mate)) (hc : (cs.drop off).take n = vs) (q : Ie X ops ((t, .agg ⟨vs⟩) :: e) h rest Q) (hd : o.dst = some t := by exact rfl) (ht : Nat.blt t X.n = true := by exact rfl) (hg : wantE ops e o = some true := by exact rfl) (ho : o.op = .load ty a := by exact rfl) (ha : evE X.P e a = some (.pointer (some ⟨b, off, none⟩)) := by exact rfl) (hl : off + n ≤ cs.length := by omega) : Ie X ops e h (o :: rest) Q := Ie.loadAgg hd ht hg ho ha hty hsz hs hl hc q
theorem De.P (q : De X ops base rI cl mk ((t, v) :: e) h drest Q) (hi : i.cls = .p := by exact rfl) (hd : o.dst = some t := by exact rfl) (ht : Nat.blt t X.n = true := by exact rfl) (hg : wantE ops e o = some true := by exact rfl) (hv : opE X.P e o.op = some v := by exact rfl) : De X ops base rI cl mk e h ((o, i) :: drest) Q := De.p hi hd ht hg hv q
theorem De.K {b off len cap sz j : Nat} (hu : X.P.underlying ty = some (.slice el)) (hs : sizeT X.P el = some sz) (q : De X ops base rI cl mk ((t, .pointer (some ⟨b, off + j * sz, none⟩)) :: e) h drest Q) (hi : i.cls = .p := by exact rfl) (hd : o.dst = some t := by exact rfl) (ht : Nat.blt t X.n = true := by exact rfl) (hg : wantE ops e o = some true := by exact rfl) (ho : o.op = .indexAddr ty x y := by exact rfl) (hx : evE X.P e x = some (.slice (some ⟨b, off, none⟩) len cap) := by exact rfl) (hy : evE X.P e y = some (.int k (Int.ofNat j)) := by exact rfl) (hj : j < len := by omega) : De X ops base rI cl mk e h ((o, i) :: drest) Q := De.indexAddr hi hd ht hg ho hu hs hx hy hj q
theorem De.N {b off : Nat} (hty : aggT X.P ty = some false) (hs : Sees X h b (.cells cs el g md mate)) (hc : cs[off]? = some v) (hb : b < base) (q : De X ops base (i.i :: rI) true mk ((t, v) :: e) h drest Q) (hi : i.cls = .l := by exact rfl) (hd : o.dst = some t := by exact rfl) (ht : Nat.blt t X.n = true := by exact rfl) (hg : wantE ops e o = some true := by exact rfl) (ho : o.op = .load ty a := by exact rfl) (ha : evE X.P e a = some (.pointer (some ⟨b, off, none⟩)) := by exact rfl) : De X ops base rI true mk e h ((o, i) :: drest) Q := De.loadOld hi hd ht hg ho ha hty hs hc hb q
theorem De.R {h0 : Hp} {b off : Nat} (hty : aggT X.P ty = some false) (hB : ∀ b o, (b, o) ∈ h0 → b < base) (q : De X ops base (i.i :: rI) true mk ((t, v) :: e) h drest Q) (hi : i.cls = .l := by exact rfl) (hd : o.dst = some t := by exact rfl) (ht : Nat.blt t X.n = true := by exact rfl) (hg : wantE ops e o = some true := by exact rfl) (ho : o.op = .load ty a := by exact rfl) (ha : evE X.P e a = some (.pointer (some ⟨b, off, none⟩)) := by exact rfl) (hs : Sees X h b (.cells cs el g md mate) := by repeat first | exact .head | exact .app .head | exact .base ‹_› ‹_› (by simp) | refine .tail ?_ | refine .app ?_) (hc : cs[off]? = some v := by exact rfl) (hb : ∃ o, (b, o) ∈ h0 := by first | exact ⟨_, .head _⟩ | exact ⟨_, .tail _ (.head _)⟩ | exact ⟨_, .tail _ (.tail _ (.head _))⟩ | exact ⟨_, .tail _ (.tail _ (.tail _ (.head _)))⟩ | exact ⟨_, List.mem_append_right _ (.head _)⟩ | exact ⟨_, List.mem_append_right _ (.tail _ (.head _))⟩) : De X ops base rI true mk e h ((o, i) :: drest) Q := De.loadOld hi hd ht hg ho ha hty hs hc (hb.elim fun o ho => hB b o ho) q
end
end Go.Ab
namespace Go.Ab
variable [Vals]
section
variable {X : Cx} {ops : Array Oper} {base : Nat} {rI : List Nat} {cl : Bool} {mk : List (Nat × Nat)} {e : Env} {h : Hp} {drest : List (Oper × Info)} {rest : List Oper} {Q : Out → Prop} {o : Oper} {i : Info} {t : Tmp}
theorem De.mapUpdate {κ : Type} [DecidableEq κ] {K : κ → Value} {l : List (κ × Value)} {kv : κ} {x k y : Operand} (hp : Pick h [(b, .map es c)] r) (hP : PairsK K es l) (hK : KeyOk X.P kt K) (hi : i.cls = .h) (hok : i.hok = true) (hin : allIn i.pre (mk.map Prod.fst) = true) (hri : allIn i.pre rI = true) (hd : o.dst = none) (hg : wantE ops e o = some true) (ho : o.op = .mapUpdate ty x k y) (hu : X.P.underlying ty = some (.map kt et)) (hx : evE X.P e x = some (.map (some b))) (hk : evE X.P e k = some (K kv)) (hy : evE X.P e y = some v) (q : ∀ es' c', PairsK K es' (putP kv v l) → De X ops base rI false mk e ((b, .map es' c') :: r) drest Q) : De X ops base rI cl mk e h ((o, i) :: drest) Q := fun ts m rs ws h1 h2 h3 h4 h5 => by
 obtain ⟨es', c', f1, f2⟩ := hP.put hK kv v c
 have hset := (h2.perm hp.perm).set (.head (o' := .map es' c'))
 obtain ⟨n, out, g1, g2⟩ := q es' c' f2 ts (m.set b (some (.map es' c'))) rs ((i.i, bif Nat.blt b base then [b] else []) :: ws) h1 hset h3 h4 (fun hf => by cases hf)
 refine ⟨n, out, ?_, g2⟩
 have hb : m.heap.get b = some (.map es c) := ((h2.perm hp.perm).has b (.map es c) (by simp)).1
 have e2 : doOp X.P (irun X.P n) ts o.op ⟨hideB i.pre mk m.heap, m.next, base, []⟩ = some (.val undef (AW.set ⟨m.heap, m.next, base, []⟩ b (some (.map es' c')))) := by
  rw [hideB_all _ _ _ hin, ho, doOp_h rfl]
  have : evs X.P ts [x, k, y] = some [.map (some b), K kv, v] := by
   unfold evs evs evs evs
   rw [evE_ev h1 hx, evE_ev h1 hk, evE_ev h1 hy]
   rfl
  show (match evs X.P ts [x, k, y] with | some [mp, k, x] => mapSet X.P ty mp k x _ | _ => none) = _
  rw [this]
  show mapSet X.P ty (.map (some b)) (K kv) v _ = _
  unfold mapSet
  simp only [hu, hK.ok, cond_true, hb, f1]
 have e1 : (i.hok && plainB i.pre m.heap mk) = true := by rw [hok, plainB_all _ _ _ hin]; rfl
 have e3 : ∀ w h, writeOk i.pre w h rs = true := fun w h => writeOk_in _ _ _ hri _ h4
 unfold dops
 rw [wantE_spec h1 hg]
 simp only [cond_true, hi, e1, e2, e3, showB_all _ _ _ _ hin, hd]
 have hlog : below X.m0.lo (AW.set ⟨m.heap, m.next, base, []⟩ b (some (.map es' c'))).log ++ m.log = (m.set b (some (.map es' c'))).log := by
  simp only [AW.set, h2.lo]
  cases hbb : Nat.blt b base with
  | true =>
   simp only [cond_true, below]
   cases Nat.blt b X.m0.lo <;> rfl
  | false =>
   simp only [cond_false, below, List.nil_append]
   have : Nat.blt b X.m0.lo = false := by
    rw [nblt, decide_eq_false_iff_not] at hbb ⊢
    have := h2.lole
    have := h3.1
    omega
   rw [this]
   rfl
 rw [hlog]
 have hput : put X.n ts none undef = ts := rfl
 have hheap : (⟨(AW.set ⟨m.heap, m.next, base, []⟩ b (some (.map es' c'))).heap, (AW.set ⟨m.heap, m.next, base, []⟩ b (some (.map es' c'))).next, X.m0.lo, (m.set b (some (.map es' c'))).log⟩ : AW) = m.set b (some (.map es' c')) := by
  simp only [AW.set, h2.lo]
 rw [hheap, hput]
 exact g1
theorem Gro.at_ {g : Gro} {n : Nat} (h : g.Ok n) (hn : 0 < n) : ∃ b, g.V n = .slice (some ⟨b, 0, none⟩) n top ∧ (g = .one b ∨ ∃ b0 old, g = .two b b0 old) := by
 cases g with
 | no => exact absurd h (by simp only [Gro.Ok]; omega)
 | emp b => exact absurd h (by simp only [Gro.Ok]; omega)
 | one b => exact ⟨b, rfl, .inl rfl⟩
 | two b b0 old => exact ⟨b, rfl, .inr ⟨b0, old, rfl⟩⟩
inductive Dro where
 | gro (g : Gro)
 | tig (b : Nat)
def Dro.H (e : TypeId) (cs : List Value) : Dro → Hp
 | .gro g => g.H e cs
 | .tig b => [(b, .cells cs e false .plain none)]
def Dro.V (n : Nat) : Dro → Value
 | .gro g => g.V n
 | .tig b => .slice (some ⟨b, 0, none⟩) n n
def Dro.Ok (n : Nat) : Dro → Prop
 | .gro g => g.Ok n
 | .tig _ => 0 < n ∧ n ≤ 4294967296
def Dro.in_ (b : Nat) : Dro → Prop
 | .gro g => g = .one b ∨ ∃ b0 old, g = .two b b0 old
 | .tig c => c = b
theorem Dro.len {d : Dro} {n : Nat} (h : d.Ok n) : ∃ a c, d.V n = .slice a n c := by
 cases d with
 | gro g => cases g with
  | no => have : n = 0 := h; subst this; exact ⟨none, 0, rfl⟩
  | emp b => have : n = 0 := h; subst this; exact ⟨_, 0, rfl⟩
  | one b => exact ⟨_, _, rfl⟩
  | two b b0 old => exact ⟨_, _, rfl⟩
 | tig b => exact ⟨_, _, rfl⟩
theorem Dro.at_ {d : Dro} {n : Nat} (h : d.Ok n) (hn : 0 < n) : ∃ b c, d.V n = .slice (some ⟨b, 0, none⟩) n c ∧ d.in_ b := by
 cases d with
 | gro g =>
  obtain ⟨b, h1, h2⟩ := Gro.at_ (g := g) h hn
  exact ⟨b, _, h1, h2⟩
 | tig b => exact ⟨b, n, rfl, rfl⟩
end
section
variable {X : Cx} {e : Env} {h : Hp} {Q : Out → Prop} {a b : Code} {β : Type}
end
end Go.Ab
namespace Go.Ab
variable [Vals]
def byC (l : List UInt8) : List Value := l.map fun b => .int .u8 (Int.ofNat b.toNat)
theorem flats_byC : ∀ l : List UInt8, flats (byC l) = true
 | [] => rfl
 | _ :: l => flats_byC l
theorem bytesOf_byC : ∀ l : List UInt8, bytesOf (byC l) = some l
 | [] => rfl
 | b :: l => by
  show (bytesOf (byC l)).map (UInt8.ofNat (Int.ofNat b.toNat).toNat :: ·) = _
  rw [bytesOf_byC l]
  show some (UInt8.ofNat b.toNat :: l) = _
  rw [UInt8.ofNat_toNat]
theorem byC_append (l l' : List UInt8) : byC (l ++ l') = byC l ++ byC l' := List.map_append
theorem byC_len (l : List UInt8) : (byC l).length = l.length := List.length_map ..
section
variable {X : Cx} {ops : Array Oper} {e : Env} {h : Hp} {Q : Out → Prop} {o : Oper} {rest : List Oper} {t : Tmp}
theorem Shows.str (s : ByteArray) : Shows X h 1 (.string s) s.size (byC s.data.toList) := by
 refine ⟨rfl, by rw [byC_len]; simp, flats_byC _, fun m lo lg _ => ?_⟩
 show some ((s.data.toList.take s.size).map _) = _
 rw [List.take_of_length_le (by simp)]
 rfl
theorem appendV_str {P : Program} {el : TypeId} {sz k : Nat} {x s : Value} {m : AW} {vs : List Value} (h1 : P.underlying t1 = some (.slice el)) (h2 : P.underlying t2 = some .string) (hsz : sizeT P el = some sz) (hl : lenV x = some k) (hf : firstA m sz k x = some vs) : appendV P (some t1) (some t2) s x m = valP (appendA P el m s k vs) := by
 unfold appendV
 simp only [Option.bind_some, h1, h2, hsz, hl, hf]
theorem Ie.appendStr {g : Gro} {s x : Operand} {st : ByteArray} {n : Nat} {cs : List Value} {h1 : Hp} (hp : Pick h (g.H el cs) h1) (hx : evE X.P e x = some (.string st)) (hg : g.Ok n) (hc : cs.length = n) (hn : n + st.size ≤ 4294967296) (hd : o.dst = some t) (ht : Nat.blt t X.n = true) (hgd : wantE ops e o = some true) (ho : o.op = .call { callee := .builtin .append, args := #[s, x], argTypes := #[t1, t2] }) (hu1 : X.P.underlying t1 = some (.slice el)) (hu2 : X.P.underlying t2 = some .string) (hT : AppT X.P el 1) (hs : evE X.P e s = some (g.V n))
  (q : ∀ g' : Gro, g'.Ok (n + st.size) → Ie X ops ((t, g'.V (n + st.size)) :: e) (g'.H el (cs ++ byC st.data.toList) ++ h1) rest Q) : Ie X ops e h (o :: rest) Q := fun ts m a1 a2 => by
 have hv := Shows.str (X := X) (h := h) st
 obtain ⟨g', hp', nx, tch, h3, h4, h5, _, _⟩ := appendA_gro hT (a2.perm hp.perm) hg (by rw [hc]; simp) hv.2.1 hv.2.2.1 hn
 refine Io.op (k := 0) (m' := ⟨hp', nx, m.lo, below m.lo tch ++ m.log⟩) (v := g'.V (n + st.size)) (wantE_spec a1 hgd) (by rw [ho]; rfl) ?_ ?_
 ·rw [ho, doOp_h rfl]
  have : evs X.P ts [s, x] = some [g.V n, .string st] := by
   unfold evs evs evs
   rw [evE_ev a1 hs, evE_ev a1 hx]
   rfl
  show (match evs X.P ts [s, x] with | some args => callB X.P .append args #[t1, t2] m | none => none) = _
  rw [this]
  show appendV X.P (some t1) (some t2) (g.V n) (.string st) m = _
  rw [appendV_str hu1 hu2 hT.1 hv.1 (hv.2.2.2 m m.lo m.log a2)]
  have h6 := h3 m.lo m.log
  rw [show (⟨m.heap, m.next, m.lo, m.log⟩ : AW) = m from rfl] at h6
  rw [h6]
  rfl
 rw [hd]
 exact q g' h5 _ _ (a1.put ht _) h4
theorem Ie.toUnsafe {b off sz : Nat} (hd : o.dst = some t) (ht : Nat.blt t X.n = true) (hg : wantE ops e o = some true) (ho : o.op = .convert s d x) (hs : X.P.underlying s = some (.pointer u)) (hd' : X.P.underlying d = some .unsafePointer) (hx : evE X.P e x = some (.pointer (some ⟨b, off, none⟩))) (hsz : sizeT X.P u = some (sz + 1)) (hc : Sees X h b (.cells cs el false md mate)) (hl : Nat.blt off cs.length = true) (q : Ie X ops ((t, .pointer (some ⟨b, off, none⟩)) :: e) h rest Q) : Ie X ops e h (o :: rest) Q := by
 refine Ie.val h hd ht hg (by rw [ho]; rfl) (fun ts m h1 h2 => ⟨0, m, ?_, h2⟩) q
 have hcl : cls X.P (.convert s d x) = .l := by unfold cls; simp only [hs, hd']
 rw [ho, doOp_l hcl]
 simp only [opL, evE_ev h1 hx, Option.bind_some, convL, hs, hd', Go.Ab.toUnsafe, hsz, doL, hc m h2, hl, cond_true]
theorem Ie.fromUnsafe {b off sz : Nat} (hd : o.dst = some t) (ht : Nat.blt t X.n = true) (hg : wantE ops e o = some true) (ho : o.op = .convert s d x) (hs : X.P.underlying s = some .unsafePointer) (hd' : X.P.underlying d = some (.pointer u)) (hx : evE X.P e x = some (.pointer (some ⟨b, off, none⟩))) (hsz : sizeT X.P u = some (sz + 1)) (hc : Sees X h b (.cells cs el false md mate)) (hl : liesAt X.P X.P.depth el (cs.length / X.P.cellsOf el) off u 1 = true) (q : Ie X ops ((t, .pointer (some ⟨b, off, none⟩)) :: e) h rest Q) : Ie X ops e h (o :: rest) Q := by
 refine Ie.val h hd ht hg (by rw [ho]; rfl) (fun ts m h1 h2 => ⟨0, m, ?_, h2⟩) q
 have hcl : cls X.P (.convert s d x) = .l := by unfold cls; simp only [hs, hd']
 rw [ho, doOp_l hcl]
 simp only [opL, evE_ev h1 hx, Option.bind_some, convL, hs, hd', Go.Ab.fromUnsafe, hsz, doL, hc m h2, hl, cond_true]
end
def Gro.blk : Gro → Nat
 | .no => 0
 | .emp b => b
 | .one b => b
 | .two b _ _ => b
theorem Gro.V_blk {g : Gro} {n : Nat} (h : g.Ok n) (hn : 0 < n) : g.V n = .slice (some ⟨g.blk, 0, none⟩) n top := by
 cases g with
 | no => exact absurd h (Nat.ne_of_gt hn)
 | emp b => exact absurd h (Nat.ne_of_gt hn)
 | one b => rfl
 | two b c old => rfl
theorem unsafeStr_gro {P : Program} {S : List Nat} {m0 m : AW} {el : TypeId} {out : List UInt8} {t : Option TypeId} {h : Hp} {g : Gro} (hk : Knows S m0 m (g.H el (byC out) ++ h)) (hg : g.Ok out.length) (hne : 0 < out.length) (hu : P.underlying el = some (.int .u8)) (hpe : ptrElem P t el = true) (hce : Nat.beq (P.cellsOf el) 1 = true) (hlen : Nat.ble out.length 4294967296 = true) :
  ∃ hp tch, (∀ lo lg, unsafeStr P t (.pointer (some ⟨g.blk, 0, none⟩)) (.int .i64 (Int.ofNat out.length)) ⟨m.heap, m.next, lo, lg⟩ = some (.val (.string ⟨⟨out⟩⟩) ⟨hp, m.next, lo, below lo tch ++ lg⟩)) ∧ Knows S m0 ⟨hp, m.next, m.lo, below m.lo tch ++ m.log⟩ h := by
 obtain ⟨k, hkl⟩ : ∃ k, out.length = k + 1 := ⟨out.length - 1, by omega⟩
 have hrd : ∀ md mate, rdCells (.cells (byC out) el true md mate) 0 (k + 1) = some (byC out) := fun md mate => by
  unfold rdCells
  have h1 : Nat.ble (0 + (k + 1)) (byC out).length = true := by rw [nble, byC_len, decide_eq_true_eq]; omega
  have h2 : (List.drop 0 (byC out)).take (k + 1) = byC out := by rw [List.drop_zero, List.take_of_length_le (by rw [byC_len]; omega)]
  simp only [h1, cond_true, h2]
 rw [hkl] at hlen
 cases g with
 | no => exact absurd hg (Nat.ne_of_gt hne)
 | emp b => exact absurd hg (Nat.ne_of_gt hne)
 | one b =>
  have hb := (hk.has b _ List.mem_cons_self).1
  refine ⟨m.heap.set b (some (.cells (byC out) el true .frozen none)), [b], fun lo lg => ?_, ?_⟩
  ·rw [hkl]
   show unsafeStr P t (.pointer (some ⟨b, 0, none⟩)) (.int .i64 (Int.ofNat (k + 1))) ⟨m.heap, m.next, lo, lg⟩ = _
   unfold unsafeStr
   simp only [hb, hu, hrd, bytesOf_byC, hpe, hce, hlen, decide_true, Bool.true_or, Bool.and_self, cond_true, Go.Ab.kill, AW.set, below_set]
  have k1 := hk.set (b := b) (o' := .cells (byC out) el true .frozen none) .head
  have k2 : Knows S m0 (m.set b (some (.cells (byC out) el true .frozen none))) h := k1.sub (List.sublist_cons_self _ _)
  simp only [AW.set, below_set] at k2
  exact k2
 | two b b0 old =>
  have hb := (hk.has b _ List.mem_cons_self).1
  have hk2 : Knows S m0 m ((b0, .cells old el true .plain (some b)) :: (b, .cells (byC out) el true .plain (some b0)) :: h) := hk.perm (List.Perm.swap _ _ _)
  refine ⟨(m.heap.set b0 none).set b (some (.cells (byC out) el true .frozen none)), [b, b0], fun lo lg => ?_, ?_⟩
  ·rw [hkl]
   show unsafeStr P t (.pointer (some ⟨b, 0, none⟩)) (.int .i64 (Int.ofNat (k + 1))) ⟨m.heap, m.next, lo, lg⟩ = _
   unfold unsafeStr
   simp only [hb, hu, hrd, bytesOf_byC, hpe, hce, hlen, decide_true, Bool.true_or, Bool.and_self, cond_true, Go.Ab.kill, AW.set, below_set, below_two, List.append_assoc]
  have k1 := hk2.kill
  have k2 := k1.set (b := b) (o' := .cells (byC out) el true .frozen none) .head
  have k3 : Knows S m0 ((m.set b0 none).set b (some (.cells (byC out) el true .frozen none))) h := k2.sub (List.sublist_cons_self _ _)
  simp only [AW.set, below_set] at k3
  rw [below_two, List.append_assoc]
  exact k3
section
variable {X : Cx} {ops : Array Oper} {base : Nat} {rI : List Nat} {cl : Bool} {mk : List (Nat × Nat)} {e : Env} {h : Hp} {Q : Out → Prop} {o : Oper} {i : Info} {drest : List (Oper × Info)} {t : Tmp}
theorem De.sliceData {x : Operand} {a : Addr} {n c : Nat} {ats : Array TypeId} (hi : i.cls = .p) (hd : o.dst = some t) (ht : Nat.blt t X.n = true) (hg : wantE ops e o = some true) (ho : o.op = .call { callee := .builtin .unsafeSliceData, args := #[x], argTypes := ats }) (hx : evE X.P e x = some (.slice (some a) (n + 1) (c + 1))) (q : De X ops base rI cl mk ((t, .pointer (some a)) :: e) h drest Q) : De X ops base rI cl mk e h ((o, i) :: drest) Q :=
 De.pure hi hd ht hg (fun ts H => by
  rw [ho]
  have : evs X.P ts [x] = some [.slice (some a) (n + 1) (c + 1)] := by
   unfold evs evs
   rw [evE_ev H hx]
   rfl
  refine ⟨rfl, ?_⟩
  show sliceDataA (evs X.P ts [x]) = _
  rw [this]
  rfl) q
theorem De.unsafeStr {g : Gro} {el : TypeId} {out : List UInt8} {h1 : Hp} {x y : Operand} {t1 : TypeId} (hp : Pick h (g.H el (byC out)) h1) (hg : g.Ok out.length) (hne : 0 < out.length) (hu : X.P.underlying el = some (.int .u8)) (hpe : ptrElem X.P (some t1) el = true) (hce : Nat.beq (X.P.cellsOf el) 1 = true) (hlen : Nat.ble out.length 4294967296 = true) (hi : i.cls = .h) (hok : i.hok = true) (hin : allIn i.pre (mk.map Prod.fst) = true) (hri : allIn i.pre rI = true) (hd : o.dst = some t) (ht : Nat.blt t X.n = true) (hgd : wantE ops e o = some true) (ho : o.op = .call { callee := .builtin .unsafeString, args := #[x, y], argTypes := #[t1, t2] })
  (hx : evE X.P e x = some (.pointer (some ⟨g.blk, 0, none⟩))) (hy : evE X.P e y = some (.int .i64 (Int.ofNat out.length))) (q : De X ops base rI false mk ((t, .string ⟨⟨out⟩⟩) :: e) h1 drest Q) : De X ops base rI cl mk e h ((o, i) :: drest) Q := fun ts m rs ws a1 a2 a3 a4 a5 => by
 obtain ⟨hp', tch, h3, h4⟩ := unsafeStr_gro (t := some t1) (a2.perm hp.perm) hg hne hu hpe hce hlen
 obtain ⟨j, out', g1, g2⟩ := q _ ⟨hp', m.next, m.lo, below m.lo tch ++ m.log⟩ rs ((i.i, below base tch) :: ws) (a1.put ht _) h4 a3 a4 (fun hf => by cases hf)
 refine ⟨j, out', ?_, g2⟩
 have e2' : doOp X.P (irun X.P j) ts o.op ⟨hideB i.pre mk m.heap, m.next, base, []⟩ = some (.val (.string ⟨⟨out⟩⟩) ⟨hp', m.next, base, below base tch ++ []⟩) := by
  rw [hideB_all _ _ _ hin, ho, doOp_h rfl]
  have : evs X.P ts [x, y] = some [.pointer (some ⟨g.blk, 0, none⟩), .int .i64 (Int.ofNat out.length)] := by
   unfold evs evs evs
   rw [evE_ev a1 hx, evE_ev a1 hy]
   rfl
  show (match evs X.P ts [x, y] with | some args => callB X.P .unsafeString args #[t1, t2] ⟨m.heap, m.next, base, []⟩ | none => none) = _
  rw [this]
  exact h3 base []
 have e1 : (i.hok && plainB i.pre m.heap mk) = true := by rw [hok, plainB_all _ _ _ hin]; rfl
 have e3 : ∀ w h, writeOk i.pre w h rs = true := fun w h => writeOk_in _ _ _ hri _ a4
 unfold dops
 rw [wantE_spec a1 hgd]
 have hle : X.m0.lo ≤ base := Nat.le_trans a2.lole a3.1
 simp only [cond_true, hi, e1, e2', e3, showB_all _ _ _ _ hin, hd, List.append_nil, below_below hle]
 rw [a2.lo] at g1
 exact g1
end
end Go.Ab
namespace Go.Ab
variable [Vals]
section
variable {X : Cx} {ops : Array Oper} {e : Env} {h : Hp} {Q : Out → Prop} {o : Oper} {rest : List Oper} {t : Tmp}
end
section
variable {X : Cx} {e : Env} {h : Hp} {Q : Out → Prop}
end
end Go.Ab
namespace Go.Ab
variable [Vals]
section
variable {X : Cx} {ops : Array Oper} {base : Nat} {rI : List Nat} {cl : Bool} {mk : List (Nat × Nat)} {e : Env} {h : Hp} {rest : List (Oper × Info)} {Q : Out → Prop} {o : Oper} {i : Info}
end
end Go.Ab
namespace Go.Ab
variable [Vals]
structure Lk (d : Value) (ts ts2 : Tr Value) : Prop where
 same : ∀ t, t ≠ dIx → ts2.get t = ts.get t
 at_ : ts2.get dIx = some d
theorem Lk.ev {P : Program} {d : Value} {ts ts2 : Tr Value} (h : Lk d ts ts2) (x : Operand) : ev P ts x = ev P ts2 x := by
 cases x with
 | tmp t =>
  show (bif Nat.blt t dIx then some ((ts.get t).getD undef) else none) = (bif Nat.blt t dIx then some ((ts2.get t).getD undef) else none)
  cases hb : Nat.blt t dIx with
  | false => rfl
  | true =>
   rw [nblt, decide_eq_true_eq] at hb
   rw [h.same t (by omega)]
 | _ => rfl
theorem Lk.wanted {ops : Array Oper} {d : Value} {ts ts2 : Tr Value} (h : Lk d ts ts2) (o : Oper) : wantedA ops ts o = wantedA ops ts2 o := by
 unfold wantedA
 split
 ·rfl
 split
 ·rename_i t _
  cases hb : Nat.blt t dIx with
  | false => rfl
  | true =>
   rw [nblt, decide_eq_true_eq] at hb
   rw [h.same t (by omega)]
 rfl
theorem Lk.put {d : Value} {ts ts2 : Tr Value} (h : Lk d ts ts2) (hn : n ≤ dIx) (o : Option Tmp) (v : Value) : Lk d (put n ts o v) (put n ts2 o v) := by
 cases o with
 | none => exact h
 | some t =>
  show Lk d (bif Nat.blt t n then ts.set t (some v) else ts) (bif Nat.blt t n then ts2.set t (some v) else ts2)
  cases hb : Nat.blt t n with
  | false => exact h
  | true =>
   rw [nblt, decide_eq_true_eq] at hb
   simp only [cond_true]
   refine ⟨fun u hu => ?_, ?_⟩
   ·rw [Tr.get_set, Tr.get_set]
    split
    ·rfl
    exact h.same u hu
   rw [Tr.get_set, if_neg (by omega)]
   exact h.at_
def plainOps (ops : List Oper) : Bool := ops.all fun o => match spc o.op with
 | .no => true
 | _ => false
def noD : Code → Bool
 | .seq a b => noD a && noD b
 | .region _ ops _ => plainOps ops.toList
 | .cond _ a b => noD a && noD b
 | .block _ b => noD b
 | .loop b => noD b
 | .exit _ => true
 | .ret => true
 | .skip => true
 | _ => false
section
variable {P : Program} [FactsOk P] {self : Self}
theorem iops_lk {ops : Array Oper} {q : Bool} {d : Value} (hn : n ≤ dIx) : ∀ {l : List Oper} {ts ts2 : Tr Value} {m : AW} {o : Out}, plainOps l = true → Lk d ts ts2 → iops P self n q ops l ts m = some o → ∃ ts3, iops P self n q ops l ts2 m = some ⟨o.ex, ts3, o.v, o.m⟩ ∧ Lk d o.ts ts3
 | [], ts, ts2, m, o, _, h, e => by
  cases e
  exact ⟨ts2, rfl, h⟩
 | x :: l, ts, ts2, m, o, hp, h, e => by
  unfold plainOps at hp
  rw [List.all_cons, Bool.and_eq_true] at hp
  unfold iops at e ⊢
  rw [← h.wanted x]
  cases hw : wantedA ops ts x with
  | false =>
   rw [hw] at e
   exact iops_lk hn hp.2 (h.put hn _ _) e
  | true =>
   rw [hw] at e
   simp only [cond_true] at e ⊢
   have h1 := hp.1
   split at h1
   ·rename_i hs
    rw [hs] at e ⊢
    simp only at e ⊢
    rw [← doOp_congr (ts := ts) (ts2 := ts2) fun y _ => h.ev y]
    split at e
    ·exact iops_lk hn hp.2 (h.put hn _ _) e
    ·cases e
     exact ⟨ts2, rfl, h⟩
    cases e
   cases h1
theorem dops_lk {ops : Array Oper} {base lo : Nat} {d : Value} (hn : n ≤ dIx) : ∀ {l : List (Oper × Info)} {rs : List (Nat × Rd)} {ws : List (Nat × List Nat)} {as : List (Nat × Nat)} {ts ts2 : Tr Value} {m : AW} {o : Out}, Lk d ts ts2 → dops P self n ops base lo l rs ws as ts m = some o → ∃ ts3, dops P self n ops base lo l rs ws as ts2 m = some ⟨o.ex, ts3, o.v, o.m⟩ ∧ Lk d o.ts ts3
 | [], rs, ws, as, ts, ts2, m, o, h, e => by
  simp only [dops, Option.some.injEq] at e
  subst e
  exact ⟨ts2, rfl, h⟩
 | (x, i) :: l, rs, ws, as, ts, ts2, m, o, h, e => by
  unfold dops at e ⊢
  rw [← h.wanted x]
  cases hw : wantedA ops ts x with
  | false =>
   rw [hw] at e
   exact dops_lk hn (h.put hn _ _) e
  | true =>
   rw [hw] at e
   simp only [cond_true] at e ⊢
   rw [← doOp_congr (ts := ts) (ts2 := ts2) fun y _ => h.ev y, ← opL_congr (ts := ts) (ts2 := ts2) fun y _ => h.ev y, ← doOp_congr (ts := ts) (ts2 := ts2) (m := m) fun y _ => h.ev y]
   cases hc : i.cls with
   | l =>
    rw [hc] at e
    simp only at e ⊢
    split at e
    ·exact dops_lk hn (h.put hn _ _) e
    ·split at e
     ·rename_i v hb
      revert e
      generalize (i.full && seenB _ _ _) = c1
      intro e
      cases c1 with
      | true => exact dops_lk hn (h.put hn _ _) e
      | false =>
       simp only [cond_false] at e ⊢
       obtain ⟨hc2, e⟩ := bif_some e
       rw [hc2]
       exact dops_lk hn (h.put hn _ _) e
     cases e
    cases e
   | h =>
    rw [hc] at e
    simp only at e ⊢
    obtain ⟨hc1, e⟩ := bif_some e
    rw [hc1]
    simp only [cond_true]
    split at e
    ·obtain ⟨hc2, e⟩ := bif_some e
     rw [hc2]
     exact dops_lk hn (h.put hn _ _) e
    cases e
   | a =>
    rw [hc] at e
    simp only at e ⊢
    split at e
    ·exact dops_lk hn (h.put hn _ _) e
    cases e
   | p =>
    rw [hc] at e
    simp only at e ⊢
    split at e
    ·exact dops_lk hn (h.put hn _ _) e
    cases e
theorem run_lk {d : Value} : ∀ (k : Nat) {fr : AFr} {c : Code} {m : AW} {o : Out} {ts2 : Tr Value}, noD c = true → fr.n ≤ dIx → Lk d fr.ts ts2 → irun P k fr (.code c) m = some o → ∃ ts3, irun P k (fr.with ts2) (.code c) m = some ⟨o.ex, ts3, o.v, o.m⟩ ∧ Lk d o.ts ts3
 | 0, _, _, _, _, _, _, _, _, e => by cases e
 | k + 1, fr, c, m, o, ts2, hc, hn, h, e => by
  have e : stCode P (irun P k) fr c m = some o := e
  show ∃ ts3, stCode P (irun P k) (fr.with ts2) c m = _ ∧ _
  cases c with
  | skip => cases e; exact ⟨ts2, rfl, h⟩
  | exit i => cases e; exact ⟨ts2, rfl, h⟩
  | ret => cases e; exact ⟨ts2, rfl, h⟩
  | seq a b =>
   simp only [noD, Bool.and_eq_true] at hc
   simp only [stCode, stSeq] at e ⊢
   cases h1 : irun P k fr (.code a) m with
   | none => rw [h1] at e; cases e
   | some o1 =>
    rw [h1] at e
    obtain ⟨t3, g1, g2⟩ := run_lk k hc.1 hn h h1
    rw [g1]
    obtain ⟨ex, ts1, v1, m1⟩ := o1
    cases ex with
    | normal => exact run_lk k (fr := fr.with ts1) hc.2 hn g2 e
    | _ => cases e; exact ⟨t3, rfl, g2⟩
  | cond x a b =>
   simp only [noD, Bool.and_eq_true] at hc
   simp only [stCode, stCond] at e ⊢
   rw [show ev P (fr.with ts2).ts x = ev P fr.ts x from (h.ev x).symm]
   split at e
   ·rename_i hv
    exact run_lk k hc.1 hn h e
   ·rename_i hv
    exact run_lk k hc.2 hn h e
   cases e
  | block i b =>
   simp only [noD] at hc
   simp only [stCode, stBlock] at e ⊢
   cases h1 : irun P k fr (.code b) m with
   | none => rw [h1] at e; cases e
   | some o1 =>
    rw [h1] at e
    obtain ⟨t3, g1, g2⟩ := run_lk k hc hn h h1
    rw [g1]
    obtain ⟨ex, ts1, v1, m1⟩ := o1
    cases ex with
    | exit j =>
     simp only at e ⊢
     cases hj : Nat.beq j i with
     | true => rw [hj] at e; cases e; exact ⟨t3, rfl, g2⟩
     | false => rw [hj] at e; cases e; exact ⟨t3, rfl, g2⟩
    | _ => cases e; exact ⟨t3, rfl, g2⟩
  | loop b =>
   simp only [noD] at hc
   simp only [stCode, stLoop] at e ⊢
   cases h1 : irun P k fr (.code b) m with
   | none => rw [h1] at e; cases e
   | some o1 =>
    rw [h1] at e
    obtain ⟨t3, g1, g2⟩ := run_lk k hc hn h h1
    rw [g1]
    obtain ⟨ex, ts1, v1, m1⟩ := o1
    cases ex with
    | normal => exact run_lk k (fr := fr.with ts1) (by simpa only [noD] using hc) hn g2 e
    | _ => cases e; exact ⟨t3, rfl, g2⟩
  | region id ops draw =>
   simp only [noD] at hc
   simp only [stCode] at e ⊢
   cases draw with
   | false => exact iops_lk hn hc h e
   | true =>
    simp only [cond_true, drawA] at e ⊢
    obtain ⟨hc1, e⟩ := bif_some e
    rw [hc1]
    exact dops_lk hn h e
  | _ => cases hc
theorem resA_lk {fn : Func} {d : Value} {ts ts2 : Tr Value} {m : AW} (h : Lk d ts ts2) : resA P fn ts2 m = resA P fn ts m := by
 have key : ∀ l : List ResultVar, resA.go P ts2 m l = resA.go P ts m l := by
  intro l
  induction l with
  | nil => rfl
  | cons r rs ih =>
   cases r with
   | tmp t =>
    unfold resA.go
    cases hb : Nat.blt t dIx with
    | false => rfl
    | true =>
     rw [nblt, decide_eq_true_eq] at hb
     rw [h.same t (by omega), ih]
   | cell a t =>
    unfold resA.go
    cases hb : Nat.blt a dIx with
    | false => rfl
    | true =>
     rw [nblt, decide_eq_true_eq] at hb
     rw [h.same a (by omega), ih]
 unfold resA
 rw [key]
end
def EndD (P : Program) (fn : Func) (Q : Value → AW → Prop) : Out → Prop
 | ⟨.normal, ts, _, m⟩ => ∃ k m2, runD (irun P k) (defsOf ts) m = some m2 ∧ ∃ v, resA P fn ts m2 = some v ∧ Q v m2
 | ⟨.ret, ts, _, m⟩ => ∃ k m2, runD (irun P k) (defsOf ts) m = some m2 ∧ ∃ v, resA P fn ts m2 = some v ∧ Q v m2
 | _ => False
def EndN (P : Program) (fn : Func) (dv : Value) (Q : Value → AW → Prop) : Out → Prop
 | ⟨.normal, ts, _, m⟩ => ∃ k m2, runD (irun P k) [dv] m = some m2 ∧ ∃ v, resA P fn ts m2 = some v ∧ Q v m2
 | ⟨.ret, ts, _, m⟩ => ∃ k m2, runD (irun P k) [dv] m = some m2 ∧ ∃ v, resA P fn ts m2 = some v ∧ Q v m2
 | _ => False
theorem Fc.bodyD {P : Program} {f : FuncId} {fn : Func} {c : Code} {args : List Value} {m : AW} {S : List Nat} {h0 : Hp} {Q : Value → AW → Prop} (hf : P.funcs[f]? = some fn) (hb : fn.body = some c) (hv : Vals.call f args = none) (h1 : Nat.ble args.length fn.ntmps = true) (h2 : Nat.ble fn.ntmps dIx = true) (hm : Knows S m m h0)
  (q : Ce ⟨P, f, fn.ntmps, none, S, m⟩ (argsE args 0) h0 c (EndD P fn Q)) : Fc P f args m Q := by
 obtain ⟨k, ⟨ex, ts, v, m'⟩, g1, g2⟩ := q _ m (Has.args h1 h2) hm
 have hbb : (Nat.ble args.length fn.ntmps && Nat.ble fn.ntmps dIx) = true := by rw [h1, h2]; rfl
 have main : ∀ (ex : Ex), (ex = .normal ∨ ex = .ret) → irun P k ⟨f, fn.ntmps, argsT args 0 .lf, none⟩ (.code c) m = some ⟨ex, ts, v, m'⟩ → (∃ k m2, runD (irun P k) (defsOf ts) m' = some m2 ∧ ∃ v, resA P fn ts m2 = some v ∧ Q v m2) → Fc P f args m Q := by
  intro ex hex g1 ⟨k2, m2, d1, w, d2, d3⟩
  refine ⟨(k + k2) + 1, w, m2, ?_, d3⟩
  show stFn P (irun P (k + k2)) f args m = _
  unfold stFn
  simp only [hf, hb, hv]
  unfold stFb
  simp only [hbb, cond_true]
  rw [irun_le (Nat.le_add_right k k2) _ _ _ _ g1]
  have hd : retD P (irun P (k + k2)) fn ts m' = some ⟨.ret, .lf, w, m2⟩ := by
   unfold retD
   rw [runD_le (irun_le (Nat.le_add_left k2 k)) d1]
   simp only [retFn, d2]
  rcases hex with rfl | rfl
  ·exact hd
  exact hd
 cases ex with
 | normal => exact main _ (.inl rfl) g1 g2
 | ret => exact main _ (.inr rfl) g1 g2
 | _ => exact absurd g2 (by simp [EndD])
theorem Fc.deferred {P : Program} {g : FuncId} {fn : Func} {c : Code} {first cap : List Value} {m : AW} {Q : Value → AW → Prop} (hf : P.funcs[g]? = some fn) (hb : fn.body = some c) (hv : Vals.call g (first ++ cap) = none) (h : Fc P g (first ++ cap) m Q) : ∃ k m2 v, runD (irun P k) [.func (.func g) ⟨first⟩ ⟨cap⟩] m = some m2 ∧ Q v m2 := by
 obtain ⟨k, v, m', h1, h2⟩ := h
 cases k with
 | zero => cases h1
 | succ k =>
  refine ⟨k + 1, m', v, ?_, h2⟩
  have h1 : stFn P (irun P k) g (first ++ cap) m = some ⟨.ret, .lf, v, m'⟩ := h1
  unfold stFn at h1
  simp only [hf, hb, hv] at h1
  have h3 : irun P (k + 1) noFr (.dfn g (first ++ cap)) m = some ⟨.ret, .lf, v, m'⟩ := by
   show stDfn P (irun P k) g (first ++ cap) m = _
   unfold stDfn
   simp only [hf, hb]
   exact h1
  unfold runD
  simp only [h3]
  rfl
section
variable {X : Cx} [FactsOk X.P] {ops : Array Oper} {e : Env} {h : Hp} {Q : Out → Prop} {o : Oper} {rest : List Oper} {t : Tmp} {fn : Func} {dv : Value} {Qv : Value → AW → Prop}
theorem Re.endN (hr : fn.results.toList = rs) (hv : ResH X e h rs vs) (hD : ∀ m, Knows X.S X.m0 m h → ∃ k m2, runD (irun X.P k) [dv] m = some m2 ∧ Knows X.S X.m0 m2 h) (q : ∀ m, Knows X.S X.m0 m h → Qv (tupV vs) m) : Re X e h (EndN X.P fn dv Qv) := fun ts m h1 h2 => by
 obtain ⟨k, m2, e1, e2⟩ := hD m h2
 exact ⟨k, m2, e1, tupV vs, by unfold resA; rw [hr, hv.spec h1 e2]; unfold tupV; rfl, q m2 e2⟩
theorem Ie.recover (hX : X.r = none) (hd : o.dst = some t) (ht : Nat.blt t X.n = true) (hg : wantE ops e o = some true) (hs : spc o.op = .recover) (q : Ie X ops ((t, .nilIface) :: e) h rest Q) : Ie X ops e h (o :: rest) Q := fun ts m h1 h2 => by
 obtain ⟨k, out, g1, g2⟩ := q _ m (h1.put ht .nilIface) h2
 refine ⟨k, out, ?_, g2⟩
 unfold iops
 rw [wantE_spec h1 hg, hs, hd]
 rw [hX] at g1 ⊢
 exact g1
theorem Ce.dfr {o1 o2 : Oper} {id : Nat} {C : Code} {g : FuncId} {first cap : List Value} {fo : Operand} {ats : Array TypeId} (hops : ops.toList = [o1, o2]) (hX : X.r = none) (hno : noD C = true) (hd1 : o1.dst = some t) (ht1 : Nat.blt t X.n = true) (hg1 : wantE ops e o1 = some true) (hv : opE X.P e o1.op = some fv) (hg2 : wantE ops ((t, fv) :: e) o2 = some true) (ho2 : o2.op = .defer { callee := .value fo, args := #[], argTypes := ats }) (hd2 : o2.dst = none) (hf : evE X.P ((t, fv) :: e) fo = some (.func (.func g) ⟨first⟩ ⟨cap⟩))
  (q : Ce X ((t, fv) :: e) h C (EndN X.P fn (.func (.func g) ⟨first⟩ ⟨cap⟩) Qv)) : Ce X e h (.seq (.region id ops false) C) (EndD X.P fn Qv) := fun ts m h1 h2 => by
 obtain ⟨c1, c2, c3⟩ := opE_spec h1 hv
 have H1 : Has X.n (put X.n ts (some t) fv) ((t, fv) :: e) := h1.put ht1 fv
 obtain ⟨k, out, g1, g2⟩ := q _ m H1 h2
 obtain ⟨ts1, hts1⟩ : ∃ ts1, ts1 = put X.n ts (some t) fv := ⟨_, rfl⟩
 rw [← hts1] at H1 g1
 have hds : defsOf ts1 = [] := by unfold defsOf; rw [H1.defs]
 have hL : Lk (.tuple ⟨[.func (.func g) ⟨first⟩ ⟨cap⟩]⟩) ts1 (pushD ts1 (.func (.func g) ⟨first⟩ ⟨cap⟩)) := by
  unfold pushD
  rw [hds]
  exact ⟨fun u hu => by rw [Tr.get_set, if_neg hu], by rw [Tr.get_set, if_pos rfl]⟩
 obtain ⟨ts3, g3, g4⟩ := run_lk k (fr := ⟨X.f, X.n, ts1, X.r⟩) hno H1.few hL g1
 have hreg : irun X.P (k + 1) ⟨X.f, X.n, ts, X.r⟩ (.code (.region id ops false)) m = some ⟨.normal, pushD ts1 (.func (.func g) ⟨first⟩ ⟨cap⟩), undef, m⟩ := by
  show iops X.P (irun X.P k) X.n X.r.isNone ops ops.toList ts m = _
  rw [hops, hX]
  unfold iops
  rw [wantE_spec h1 hg1, c2]
  simp only [cond_true]
  have hdo : doOp X.P (irun X.P k) ts o1.op m = some (.val fv m) := by unfold doOp; rw [c1]; simp only [doP, c3]
  rw [hdo, hd1]
  simp only
  rw [← hts1]
  unfold iops
  rw [wantE_spec H1 hg2, ho2]
  simp only [cond_true, spc]
  have hdf : dfrA X.P ts1 { callee := .value fo, args := #[], argTypes := ats } = some (.func (.func g) ⟨first⟩ ⟨cap⟩) := by
   unfold dfrA
   simp only [evE_ev H1 hf, evs, List.append_nil]
  rw [hdf, hd2]
  rfl
 refine ⟨k + 2, ⟨out.ex, ts3, out.v, out.m⟩, ?_, ?_⟩
 ·show stSeq (irun X.P (k + 1)) ⟨X.f, X.n, ts, X.r⟩ (.region id ops false) C m = _
  unfold stSeq
  rw [hreg]
  exact irun_le (Nat.le_succ k) _ _ _ _ g3
 have hd3 : defsOf ts3 = [.func (.func g) ⟨first⟩ ⟨cap⟩] := by unfold defsOf; rw [g4.at_]
 obtain ⟨ex, t9, v9, m9⟩ := out
 cases ex with
 | normal =>
  obtain ⟨k2, m2, e1, v, e2, e3⟩ := g2
  exact ⟨k2, m2, by rw [hd3]; exact e1, v, by rw [resA_lk g4]; exact e2, e3⟩
 | ret =>
  obtain ⟨k2, m2, e1, v, e2, e3⟩ := g2
  exact ⟨k2, m2, by rw [hd3]; exact e1, v, by rw [resA_lk g4]; exact e2, e3⟩
 | _ => exact absurd g2 (by simp [EndN])
end
end Go.Ab
namespace Go.Ab
variable [Vals]
theorem writeOk_same {pre : Nat} {w : List Nat} {h : Tr AObj} : ∀ {rs : List (Nat × Rd)}, (∀ p, p ∈ rs → sameR h p.2 = true) → writeOk pre w h rs = true
 | [], _ => rfl
 | (i, r) :: rs, hs => by
  unfold writeOk
  rw [hs (i, r) List.mem_cons_self, Bool.or_true, Bool.or_true]
  exact writeOk_same fun p hp => hs p (List.mem_cons_of_mem _ hp)
theorem sameV_slice (b n c : Nat) : sameV (.slice (some ⟨b, 0, none⟩) n c) (.slice (some ⟨b, 0, none⟩) n c) = true := by
 unfold sameV sameA
 simp [nbeq]
theorem sameV_slice0 (n c : Nat) : sameV (.slice none n c) (.slice none n c) = true := by
 unfold sameV sameA
 simp [nbeq]
theorem Gro.same (g : Gro) (n : Nat) : sameV (g.V n) (g.V n) = true := by
 cases g with
 | no => exact sameV_slice0 0 0
 | emp b => exact sameV_slice b 0 0
 | one b => exact sameV_slice b n _
 | two b c o => exact sameV_slice b n _
def DeV (X : Cx) (ops : Array Oper) (base : Nat) (RV : List (Nat × Rd)) (as : List (Nat × Nat)) (e : Env) (h : Hp) (l : List (Oper × Info)) (Q : Out → Prop) : Prop :=
 ∀ ts m rs ws, Has X.n ts e → Knows X.S X.m0 m h → X.m0.next ≤ base ∧ base ≤ m.next → (∀ p ∈ rs, p ∈ RV) → (∀ p ∈ ws, p.2 = []) → Do X.P X.n ops base X.m0.lo l rs ws as ts m Q
section
variable {X : Cx} {ops : Array Oper} {base : Nat} {RV : List (Nat × Rd)} {mk : List (Nat × Nat)} {e : Env} {h : Hp} {drest : List (Oper × Info)} {Q : Out → Prop} {o : Oper} {i : Info} {t : Tmp} {v : Value}
theorem DeV.start (q : DeV X ops base [] mk e h drest Q) : De X ops base [] true mk e h drest Q := fun ts m rs ws h1 h2 h3 h4 h5 => q ts m rs ws h1 h2 h3 (fun p hp => absurd (h4 p hp) (by simp)) (h5 rfl)
theorem DeV.p (hi : i.cls = .p) (hd : o.dst = some t) (ht : Nat.blt t X.n = true) (hg : wantE ops e o = some true) (hv : opE X.P e o.op = some v) (q : DeV X ops base RV mk ((t, v) :: e) h drest Q) : DeV X ops base RV mk e h ((o, i) :: drest) Q := fun ts m rs ws h1 h2 h3 h4 h5 => by
 obtain ⟨k, out, g1, g2⟩ := q _ m rs ws (h1.put ht v) h2 h3 h4 h5
 obtain ⟨c1, _, c2⟩ := opE_spec h1 hv
 refine ⟨k, out, ?_, g2⟩
 unfold dops
 rw [wantE_spec h1 hg]
 simp only [cond_true, hi, doOp_p c1, doP, c2, hd]
 exact g1
theorem DeV.fieldAddr {j b off k : Nat} (hi : i.cls = .p) (hd : o.dst = some t) (ht : Nat.blt t X.n = true) (hg : wantE ops e o = some true) (ho : o.op = .fieldAddr s x j) (hx : evE X.P e x = some (.pointer (some ⟨b, off, none⟩))) (hf : ∀ b off, fieldAddrA X.P s (.pointer (some ⟨b, off, none⟩)) j = some (.pointer (some ⟨b, off + k, none⟩))) (q : DeV X ops base RV mk ((t, .pointer (some ⟨b, off + k, none⟩)) :: e) h drest Q) : DeV X ops base RV mk e h ((o, i) :: drest) Q :=
 DeV.p hi hd ht hg (by rw [ho]; simp only [opE, hx, hf]) q
abbrev cellAt (off : Nat) : AObj → Option Value := fun o => match o with
 | .cells cs _ _ _ _ => cs[off]?
 | _ => none
theorem DeV.load {b off : Nat} (hi : i.cls = .l) (hd : o.dst = some t) (ht : Nat.blt t X.n = true) (hg : wantE ops e o = some true) (ho : o.op = .load ty a) (ha : evE X.P e a = some (.pointer (some ⟨b, off, none⟩))) (hty : aggT X.P ty = some false) (hs : Sees X h b (.cells cs el g md mate)) (hc : cs[off]? = some v) (hb : b < base) (q : DeV X ops base ((i.i, b, cellAt off, v) :: RV) mk ((t, v) :: e) h drest Q) : DeV X ops base RV mk e h ((o, i) :: drest) Q := fun ts m rs ws h1 h2 h3 h4 h5 => by
 have hv : opL X.P ts o.op = some (.rd b (cellAt off)) := by
  rw [ho]
  simp only [opL, evE_ev h1 ha, Option.bind_some]
  exact loadA_false hty
 have hr : (m.heap.get b).bind (cellAt off) = some v := by rw [hs m h2]; exact hc
 cases hfull : (i.full && seenB i.pre b mk) with
 | true =>
  obtain ⟨k, out, g1, g2⟩ := q _ m rs ws (h1.put ht v) h2 h3 (fun p hp => List.mem_cons_of_mem _ (h4 p hp)) h5
  refine ⟨k, out, ?_, g2⟩
  unfold dops
  rw [wantE_spec h1 hg]
  simp only [cond_true, hi, hv, hd, hr, hfull]
  exact g1
 | false =>
  obtain ⟨k, out, g1, g2⟩ := q _ m ((i.i, b, cellAt off, v) :: rs) ws (h1.put ht v) h2 h3 (fun p hp => by
   rcases List.mem_cons.1 hp with rfl | hp
   ·exact List.mem_cons_self
   exact List.mem_cons_of_mem _ (h4 p hp)) h5
  refine ⟨k, out, ?_, g2⟩
  unfold dops
  rw [wantE_spec h1 hg]
  have : (Nat.blt b base && readOk i.pre b ws) = true := by
   rw [readOk_nil _ _ _ h5, nblt, decide_eq_true hb]
   rfl
  simp only [cond_true, hi, hv, hd, hr, hfull, cond_false, this]
  exact g1
theorem DeV.calln (A : α → Prop) (V : α → Value) (N : α → Hp) (hi : i.cls = .h) (hok : i.hok = true) (hin : allIn i.pre (mk.map Prod.fst) = true) (hd : o.dst = some t) (ht : Nat.blt t X.n = true) (hg : wantE ops e o = some true) (ho : o.op = .call { callee := .value fo, args := ag, argTypes := ats }) (ha : evsE X.P e ag.toList = some vs) (hf : evE X.P e fo = some (.func (.func g) ⟨first⟩ ⟨cap⟩))
  (hc : ∀ m, KR X.S X.m0 m h → Fc X.P g (first ++ vs ++ cap) m fun v m' => ∃ x, A x ∧ v = V x ∧ Ext m m' ∧ News m m' (N x)) (q : ∀ x, A x → DeV X ops base RV mk ((t, V x) :: e) (N x ++ h) drest Q) : DeV X ops base RV mk e h ((o, i) :: drest) Q := fun ts m rs ws h1 h2 h3 h4 h5 => by
 have hkr : KR X.S X.m0 ⟨m.heap, m.next, base, []⟩ h := ⟨h3.2, h2.next, h2.keep, fun b o hb => ⟨(h2.has b o hb).1, (h2.has b o hb).2.1⟩⟩
 obtain ⟨k, v, m', g1, x, hA, rfl, hx, hn⟩ := hc _ hkr
 have hlog : m'.log = [] := hx.log
 have hext : Ext m ⟨m'.heap, m'.next, X.m0.lo, m.log⟩ := ⟨hx.next, h2.lo.symm, rfl, hx.keep⟩
 have hnew : News m ⟨m'.heap, m'.next, X.m0.lo, m.log⟩ (N x) := ⟨hn.has, hn.apart⟩
 obtain ⟨j, out, g2, g3⟩ := q x hA _ ⟨m'.heap, m'.next, X.m0.lo, m.log⟩ rs ((i.i, []) :: ws) (h1.put ht (V x)) (h2.of_news hext hnew) ⟨h3.1, Nat.le_trans h3.2 hx.next⟩ h4 (fun p hp => by
  rcases List.mem_cons.1 hp with rfl | hp
  ·rfl
  exact h5 p hp)
 refine ⟨k + j, out, ?_, g3⟩
 unfold dops
 rw [wantE_spec h1 hg]
 have e1 : (i.hok && plainB i.pre m.heap mk) = true := by rw [hok, plainB_all _ _ _ hin]; rfl
 have e2 : doOp X.P (irun X.P (k + j)) ts o.op ⟨hideB i.pre mk m.heap, m.next, base, []⟩ = some (.val (V x) m') := by
  rw [hideB_all _ _ _ hin, ho, doOp_h rfl]
  have g1' : irun X.P k noFr (.fn g (first ++ vs ++ cap)) ⟨m.heap, m.next, base, []⟩ = some ⟨.ret, .lf, V x, m'⟩ := g1
  simp only [opH, callH, evsE_evs h1 ha, evE_ev h1 hf, callV, callA, irun_le (Nat.le_add_right k j) _ _ _ _ g1']
 simp only [cond_true, hi, e1, e2, hlog, writeOk_nil, showB_all _ _ _ _ hin, below, List.nil_append, hd]
 exact dops_le (irun_le (Nat.le_add_left j k)) g2
theorem DeV.callc (A : β → Prop) (V : β → Value) (N : β → Hp) (hp : Pick h l r) (hi : i.cls = .h) (hok : i.hok = true) (hin : allIn i.pre (mk.map Prod.fst) = true) (hrv : ∀ x, A x → ∀ p, p ∈ RV → ∃ o, (p.2.1, o) ∈ N x ++ r ∧ p.2.2.1 o = some p.2.2.2 ∧ sameV p.2.2.2 p.2.2.2 = true) (hd : o.dst = some t) (ht : Nat.blt t X.n = true) (hg : wantE ops e o = some true) (ho : o.op = .call { callee := .value fo, args := ag, argTypes := ats }) (ha : evsE X.P e ag.toList = some vs) (hf : evE X.P e fo = some (.func (.func g) ⟨first⟩ ⟨cap⟩))
  (hc : ∀ m, m.lo ≤ m.next → Knows (l.map Prod.fst) m m l → (∀ b o, Off X.S X.m0 b o → Off (l.map Prod.fst) m b o) → (∀ b o, (b, o) ∈ r → Off (l.map Prod.fst) m b o) → Fc X.P g (first ++ vs ++ cap) m fun v m' => ∃ x, A x ∧ v = V x ∧ Knows (l.map Prod.fst) m m' (N x)) (q : ∀ x, A x → DeW X ops base (RV.map Prod.fst) (l.map Prod.fst) mk ((t, V x) :: e) (N x ++ r) drest Q) : DeV X ops base RV mk e h ((o, i) :: drest) Q := fun ts m rs ws h1 h2 h3 h4 h5 => by
 have hk := h2.perm hp.perm
 have hap := hk.apart
 rw [List.map_append, List.nodup_append] at hap
 have hnot : ∀ b o, Off X.S X.m0 b o → b ∉ l.map Prod.fst := fun b o ⟨e1, e2, e3⟩ hb => by
  obtain ⟨⟨c, o'⟩, g1, rfl⟩ := List.mem_map.1 hb
  rcases (hk.has c o' (List.mem_append_left _ g1)).2.2 with h | h
  ·simp only at e1; omega
  exact e2 h
 let M : AW := ⟨m.heap, m.next, base, []⟩
 have hself : Knows (l.map Prod.fst) M M l := by
  have := hk.self
  exact ⟨h3.2, Nat.le_refl _, rfl, fun _ h => .inl h, fun _ => rfl, fun _ _ _ => rfl, fun b o hb => ⟨(hk.has b o (List.mem_append_left _ hb)).1, (hk.has b o (List.mem_append_left _ hb)).2.1, .inr (List.mem_map.2 ⟨_, hb, rfl⟩)⟩, hap.1⟩
 obtain ⟨k, v, m', g1, x, hA, rfl, hx⟩ := hc M h3.2 hself (fun b o hb => ⟨Nat.lt_of_lt_of_le hb.1 h2.next, hnot b o hb, (h2.keep b hb.1 hb.2.1).trans hb.2.2⟩) (fun b o hb => ⟨(hk.has b o (List.mem_append_right _ hb)).2.1, fun h => hap.2.2 b h b (List.mem_map.2 ⟨_, hb, rfl⟩) rfl, (hk.has b o (List.mem_append_right _ hb)).1⟩)
 have hlog : ∀ b, b ∈ m'.log → b ∈ l.map Prod.fst := fun b hb => by
  rcases hx.log b hb with h | h
  ·cases h
  exact h.1
 have hM2 : Knows (l.map Prod.fst) m ⟨m'.heap, m'.next, X.m0.lo, below X.m0.lo m'.log ++ m.log⟩ (N x) := by
  refine ⟨h2.lole', hx.next, h2.lo.symm, fun b hb => ?_, fun hs => ?_, hx.keep, fun b o hb => hx.has b o hb, hx.apart⟩
  ·rcases List.mem_append.1 hb with hb | hb
   ·obtain ⟨e1, e2⟩ := below_mem hb
    exact .inr ⟨hlog b e1, by rw [h2.lo]; exact e2⟩
   exact .inl hb
  show below X.m0.lo m'.log ++ m.log = m.log
  have hz : below X.m0.lo m'.log = [] := below_nil fun b hb => (h2.lo ▸ hs b (hlog b hb) : X.m0.lo ≤ b)
  rw [hz]
  rfl
 have hk2 := hk.step hM2
 obtain ⟨j, out, g2, g3⟩ := q x hA _ ⟨m'.heap, m'.next, X.m0.lo, below X.m0.lo m'.log ++ m.log⟩ rs ((i.i, m'.log) :: ws) (h1.put ht (V x)) hk2 ⟨h3.1, Nat.le_trans h3.2 hx.next⟩ (fun p hp => List.mem_map.2 ⟨p, h4 p hp, rfl⟩) (fun p hp b hb => by
  rcases List.mem_cons.1 hp with rfl | hp
  ·exact hlog b hb
  rw [h5 p hp] at hb
  cases hb)
 refine ⟨k + j, out, ?_, g3⟩
 unfold dops
 rw [wantE_spec h1 hg]
 have e1 : (i.hok && plainB i.pre m.heap mk) = true := by rw [hok, plainB_all _ _ _ hin]; rfl
 have e2 : doOp X.P (irun X.P (k + j)) ts o.op ⟨hideB i.pre mk m.heap, m.next, base, []⟩ = some (.val (V x) m') := by
  rw [hideB_all _ _ _ hin, ho, doOp_h rfl]
  have g1' : irun X.P k noFr (.fn g (first ++ vs ++ cap)) ⟨m.heap, m.next, base, []⟩ = some ⟨.ret, .lf, V x, m'⟩ := g1
  simp only [opH, callH, evsE_evs h1 ha, evE_ev h1 hf, callV, callA, irun_le (Nat.le_add_right k j) _ _ _ _ g1']
 have e3 : writeOk i.pre m'.log m'.heap rs = true := writeOk_same fun p hp => by
  obtain ⟨ob, q1, q2, q3⟩ := hrv x hA p (h4 p hp)
  have hb : m'.heap.get p.2.1 = some ob := (hk2.has _ _ q1).1
  unfold sameR
  rw [hb, Option.bind_some, q2]
  exact q3
 simp only [cond_true, hi, e1, e2, showB_all _ _ _ _ hin, e3, hd]
 exact dops_le (irun_le (Nat.le_add_left j k)) g2
end
end Go.Ab
namespace Go.Ab
variable [Vals]
section
variable {X : Cx} [FactsOk X.P] {ops : Array Oper} {e : Env} {h : Hp} {Q : Out → Prop} {o : Oper} {rest : List Oper} {t : Tmp}
theorem Ie.rangeStr {s : ByteArray} (hd : o.dst = some t) (ht : Nat.blt t X.n = true) (hg : wantE ops e o = some true) (ho : o.op = .range ty x) (hu : X.P.underlying ty = some .string) (hx : evE X.P e x = some (.string s)) (q : ∀ b, X.m0.next ≤ b → Ie X ops ((t, .pointer (some ⟨b, 0, none⟩)) :: e) ((b, .siter s 0) :: h) rest Q) : Ie X ops e h (o :: rest) Q := fun ts m h1 h2 => by
 refine Io.op (k := 0) (m' := m.new (.siter s 0)) (v := .pointer (some ⟨m.next, 0, none⟩)) (wantE_spec h1 hg) (by rw [ho]; rfl) ?_ ?_
 ·rw [ho, doOp_h rfl]
  show (match ev X.P ts x with | some x => rangeA X.P ty x m | none => none) = _
  rw [evE_ev h1 hx]
  show rangeA X.P ty (.string s) m = _
  unfold rangeA
  simp only [hu]
 rw [hd]
 exact q m.next h2.next _ _ (h1.put ht _) (h2.new _)
theorem Ie.nextStr {s : ByteArray} {p r n : Nat} {hr : Hp} (hp : Pick h [(b, .siter s p)] hr) (hd : o.dst = some t) (ht : Nat.blt t X.n = true) (hg : wantE ops e o = some true) (ho : o.op = .next x true) (hx : evE X.P e x = some (.pointer (some ⟨b, 0, none⟩))) (hlt : p < s.size) (hdec : Utf8.decode s p = (r, n)) (q : Ie X ops ((t, .tuple ⟨[.bool true, .int .i64 (Int.ofNat p), .int .i32 (Int.ofNat r)]⟩) :: e) ((b, .siter s (p + n)) :: hr) rest Q) : Ie X ops e h (o :: rest) Q := by
 refine Ie.val ((b, .siter s (p + n)) :: hr) hd ht hg (by rw [ho]; rfl) (fun ts m h1 h2 => ⟨0, m.set b (some (.siter s (p + n))), ?_, (h2.perm hp.perm).set .head⟩) q
 rw [ho, doOp_h rfl]
 have hm := ((h2.perm hp.perm).has b (.siter s p) (by simp)).1
 show (match ev X.P ts x with | some it => nextA it true m | none => none) = _
 rw [evE_ev h1 hx]
 show nextA (.pointer (some ⟨b, 0, none⟩)) true m = _
 have hb : Nat.blt p s.size = true := by rw [nblt]; exact decide_eq_true hlt
 unfold nextA
 simp only [hm, cond_true, hb, hdec]
 rfl
theorem Ie.nextEnd {s : ByteArray} {p : Nat} {hr : Hp} (hp : Pick h [(b, .siter s p)] hr) (hd : o.dst = some t) (ht : Nat.blt t X.n = true) (hg : wantE ops e o = some true) (ho : o.op = .next x true) (hx : evE X.P e x = some (.pointer (some ⟨b, 0, none⟩))) (hlt : ¬ p < s.size) (q : Ie X ops ((t, .tuple ⟨[.bool false]⟩) :: e) h rest Q) : Ie X ops e h (o :: rest) Q := by
 refine Ie.val h hd ht hg (by rw [ho]; rfl) (fun ts m h1 h2 => ⟨0, m, ?_, h2⟩) q
 rw [ho, doOp_h rfl]
 have hm := ((h2.perm hp.perm).has b (.siter s p) (by simp)).1
 show (match ev X.P ts x with | some it => nextA it true m | none => none) = _
 rw [evE_ev h1 hx]
 show nextA (.pointer (some ⟨b, 0, none⟩)) true m = _
 have hb : Nat.blt p s.size = false := by rw [nblt]; exact decide_eq_false hlt
 unfold nextA
 simp only [hm, cond_true, hb, cond_false]
theorem Ie.runesStr {b off n c : Nat} {l : List UInt8} {k : IntKind} (hd : o.dst = some t) (ht : Nat.blt t X.n = true) (hg : wantE ops e o = some true) (ho : o.op = .convert s d x) (hcl : cls X.P (.convert s d x) = .l) (hs : X.P.underlying s = some (.slice el)) (hd' : X.P.underlying d = some .string) (he : X.P.underlying el = some (.int k)) (hx : evE X.P e x = some (.slice (some ⟨b, off, none⟩) n c)) (hb : Sees X h b (.cells cs el' g md mate)) (hle : off + n ≤ cs.length) (hr : (k = .i32 ∧ runesOf ((cs.drop off).take n) = some l) ∨ (k = .u8 ∧ bytesOf ((cs.drop off).take n) = some l)) (q : Ie X ops ((t, .string ⟨⟨l⟩⟩) :: e) h rest Q) : Ie X ops e h (o :: rest) Q := by
 refine Ie.val h hd ht hg (by rw [ho]; rfl) (fun ts m h1 h2 => ⟨0, m, ?_, h2⟩) q
 rw [ho, doOp_l hcl]
 have hrd : rdCells (.cells cs el' g md mate) off n = some ((cs.drop off).take n) := by
  unfold rdCells
  simp only [nble, decide_eq_true hle, cond_true]
 simp only [opL, evE_ev h1 hx, Option.bind_some]
 unfold convL
 simp only [hs, hd']
 unfold bytesStr
 rcases hr with ⟨rfl, hr⟩ | ⟨rfl, hr⟩
 ·simp only [he, doL, hb m h2, hrd, Option.bind_some, hr, Option.map_some]
 simp only [he, doL, hb m h2, hrd, Option.bind_some, hr, Option.map_some]
theorem Ie.runesGro {g : Gro} {n : Nat} {l : List UInt8} {ce : TypeId} (hr : runesOf cs = some l) (hn : cs.length = n) (hO : g.Ok n) (hin : ∀ p, p ∈ g.H ce cs → p ∈ h) (hd : o.dst = some t) (ht : Nat.blt t X.n = true) (hg : wantE ops e o = some true) (ho : o.op = .convert s d x) (hcl : cls X.P (.convert s d x) = .l) (hs : X.P.underlying s = some (.slice el)) (hd' : X.P.underlying d = some .string) (he : X.P.underlying el = some (.int .i32)) (hx : evE X.P e x = some (g.V n)) (q : Ie X ops ((t, .string ⟨⟨l⟩⟩) :: e) h rest Q) : Ie X ops e h (o :: rest) Q := by
 have top_ : ∀ b, (b, AObj.cells cs ce true .plain none) ∈ h ∨ (∃ c, (b, AObj.cells cs ce true .plain (some c)) ∈ h) → evE X.P e x = some (.slice (some ⟨b, 0, none⟩) n top) → Ie X ops e h (o :: rest) Q := fun b hb hx' => by
  have hr' : runesOf ((cs.drop 0).take n) = some l := by rw [List.drop_zero, List.take_of_length_le (Nat.le_of_eq hn), hr]
  rcases hb with hb | ⟨c, hb⟩
  ·exact Ie.runesStr hd ht hg ho hcl hs hd' he hx' (fun m h2 => (h2.has b _ hb).1) (by omega) (.inl ⟨rfl, hr'⟩) q
  exact Ie.runesStr hd ht hg ho hcl hs hd' he hx' (fun m h2 => (h2.has b _ hb).1) (by omega) (.inl ⟨rfl, hr'⟩) q
 have nil_ : n = 0 → l = [] := fun h0 => by
  have : cs = [] := List.eq_nil_of_length_eq_zero (by omega)
  subst this
  cases hr
  rfl
 cases g with
 | no =>
  have h0 : n = 0 := hO
  have hl := nil_ h0
  subst hl
  refine Ie.val h hd ht hg (by rw [ho]; rfl) (fun ts m h1 h2 => ⟨0, m, ?_, h2⟩) q
  rw [ho, doOp_l hcl]
  simp only [opL, evE_ev h1 hx, Option.bind_some]
  unfold convL
  simp only [hs, hd']
  show doL (bytesStr X.P el (.slice none 0 0)) m = _
  unfold bytesStr
  simp only [he, doL]
  rfl
 | emp b =>
  have h0 : n = 0 := hO
  have hl := nil_ h0
  subst hl
  exact Ie.runesStr (b := b) (off := 0) (n := 0) hd ht hg ho hcl hs hd' he hx (fun m h2 => (h2.has b (.cells [] ce false .plain none) (hin _ (.head _))).1) (Nat.le_refl _) (.inl ⟨rfl, rfl⟩) q
 | one b => exact top_ b (.inl (hin _ (.head _))) hx
 | two b b0 old => exact top_ b (.inr ⟨_, hin _ (.head _)⟩) hx
theorem De.strOf {base : Nat} {rI : List Nat} {cl : Bool} {as : List (Nat × Nat)} {drest : List (Oper × Info)} {i : Info} {b off n c : Nat} {l : List UInt8} (hi : i.cls = .l) (hfl : i.full = true) (hin : allIn i.pre (as.map Prod.fst) = true) (hd : o.dst = some t) (ht : Nat.blt t X.n = true) (hg : wantE ops e o = some true) (ho : o.op = .convert s d x) (hs : X.P.underlying s = some (.slice el)) (hd' : X.P.underlying d = some .string) (he : X.P.underlying el = some (.int .u8)) (hx : evE X.P e x = some (.slice (some ⟨b, off, none⟩) n c)) (hb : Sees X h b (.cells cs el' g md mate)) (hle : off + n ≤ cs.length) (hr : bytesOf ((cs.drop off).take n) = some l) (q : De X ops base rI cl as ((t, .string ⟨⟨l⟩⟩) :: e) h drest Q) : De X ops base rI cl as e h ((o, i) :: drest) Q :=
 De.rdFull (f := fun o => (rdCells o off n).bind fun cs => (bytesOf cs).map fun l => Value.string ⟨⟨l⟩⟩) hi hfl hin hd ht hg (fun ts H => by
  rw [ho]
  simp only [opL, evE_ev H hx, Option.bind_some]
  unfold convL
  simp only [hs, hd']
  unfold bytesStr
  simp only [he]) hb (by
  have hrd : rdCells (.cells cs el' g md mate) off n = some ((cs.drop off).take n) := by
   unfold rdCells
   simp only [nble, decide_eq_true hle, cond_true]
  simp only [hrd, Option.bind_some, hr, Option.map_some]) q
theorem Ie.insert {κ : Type} [DecidableEq κ] {K : κ → Value} {ty kt et : TypeId} {x k y : Operand} {b : Nat} {es : List MapEntry} {c : Nat} {l : List (κ × Value)} {kv : κ} {v : Value} {r : Hp} (hp : Pick h [(b, .map es c)] r) (hP : PairsK K es l) (hK : KeyOk X.P kt K) (hd : o.dst = none) (hg : wantE ops e o = some true) (ho : o.op = .insert ty x k y) (hu : X.P.underlying ty = some (.map kt et)) (hx : evE X.P e x = some (.map (some b))) (hk : evE X.P e k = some (K kv)) (hy : evE X.P e y = some v) (q : ∀ es' c', PairsK K es' (putP kv v l) → Ie X ops e ((b, .map es' c') :: r) rest Q) : Ie X ops e h (o :: rest) Q := by
 obtain ⟨es', c', g1, g2⟩ := hP.put hK kv v c
 refine Ie.val_ (v := undef) ((b, .map es' c') :: r) hd hg (by rw [ho]; rfl) (fun ts m h1 h2 => ⟨0, m.set b (some (.map es' c')), ?_, (h2.perm hp.perm).set .head⟩) (q es' c' g2)
 rw [ho, doOp_h rfl]
 have hm := ((h2.perm hp.perm).has b (.map es c) (by simp)).1
 have : evs X.P ts [x, k, y] = some [.map (some b), K kv, v] := by
  unfold evs evs evs evs
  rw [evE_ev h1 hx, evE_ev h1 hk, evE_ev h1 hy]
  rfl
 show (match evs X.P ts [x, k, y] with | some [mp, k, x] => mapSet X.P ty mp k x m | _ => none) = _
 rw [this]
 show mapSet X.P ty (.map (some b)) (K kv) v m = _
 unfold mapSet
 simp only [hu, hK.ok, cond_true, hm, g1]
end
end Go.Ab