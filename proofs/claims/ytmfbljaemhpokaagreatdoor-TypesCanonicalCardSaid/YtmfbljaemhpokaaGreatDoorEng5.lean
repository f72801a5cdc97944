/-
  The engine, part 5: an interpreter over abstract memories, and the proof that the model's machine does what it reckons. Conditions: none.
-/
import Derived.Test.YtmfbljaemhpokaaGreatDoorEng4

set_option autoImplicit true
set_option relaxedAutoImplicit true
set_option linter.unusedSectionVars false
set_option linter.unusedVariables false
set_option linter.unusedSimpArgs false
namespace Go.Ab
variable [Vals]
section
variable {S : List Nat} {m0 m m' : AW} {h : Hp}
theorem Knows.perm (k : Knows S m0 m h) (p : h.Perm h') : Knows S m0 m h' :=
 ⟨k.lole, k.next, k.lo, k.log, k.none_, k.keep, fun b o hb => k.has b o (p.mem_iff.2 hb), (p.map Prod.fst).nodup_iff.1 k.apart⟩
theorem Knows.kill (k : Knows S m0 m ((b, o) :: h)) : Knows S m0 (m.set b none) h := by
 obtain ⟨g1, g2, g3⟩ := k.has b o List.mem_cons_self
 have hlog : ∀ c, c ∈ (m.set b none).log → c ∈ m.log ∨ (c = b ∧ b < m.lo) := by
  intro c hc
  simp only [AW.set] at hc
  cases hb : Nat.blt b m.lo with
  | true =>
   rw [hb] at hc
   rw [nblt, decide_eq_true_eq] at hb
   rcases List.mem_cons.1 hc with hc | hc
   ·exact .inr ⟨hc, hb⟩
   exact .inl hc
  | false =>
   rw [hb] at hc
   exact .inl hc
 have hap := k.apart
 simp only [List.map_cons, List.nodup_cons] at hap
 refine ⟨k.lole, k.next, k.lo, fun c hc => ?_, fun hs => ?_, fun c hc hs => ?_, fun c x hc => ?_, hap.2⟩
 ·rcases hlog c hc with h | ⟨rfl, h⟩
  ·exact k.log c h
  rcases g3 with g3 | g3
  ·have := k.lole
   have := k.lo
   omega
  exact .inr ⟨g3, by rw [← k.lo]; exact h⟩
 ·have : Nat.blt b m.lo = false := by
   rw [nblt, decide_eq_false_iff_not]
   rcases g3 with g3 | g3
   ·have := k.lole
    have := k.lo
    omega
   have := hs b g3
   have := k.lo
   omega
  simp only [AW.set, this]
  exact k.none_ hs
 ·simp only [AW.set, Tr.get_set]
  rw [if_neg]
  ·exact k.keep c hc hs
  rintro rfl
  rcases g3 with g3 | g3
  ·omega
  exact hs g3
 simp only [AW.set, Tr.get_set]
 have hne : c ≠ b := by
  rintro rfl
  exact hap.1 (List.mem_map.2 ⟨_, hc, rfl⟩)
 rw [if_neg hne]
 exact k.has c x (List.mem_cons_of_mem _ hc)
end
inductive Gro where
 | no
 | emp (b : Nat)
 | one (b : Nat)
 | two (b b0 : Nat) (old : List Value)
def Gro.H (e : TypeId) (cs : List Value) : Gro → Hp
 | .no => []
 | .emp b => [(b, .cells [] e false .plain none)]
 | .one b => [(b, .cells cs e true .plain none)]
 | .two b b0 old => [(b, .cells cs e true .plain (some b0)), (b0, .cells old e true .plain (some b))]
def Gro.V (n : Nat) : Gro → Value
 | .no => .slice none 0 0
 | .emp b => .slice (some ⟨b, 0, none⟩) 0 0
 | .one b => .slice (some ⟨b, 0, none⟩) n top
 | .two b _ _ => .slice (some ⟨b, 0, none⟩) n top
def Gro.Ok (n : Nat) : Gro → Prop
 | .no => n = 0
 | .emp _ => n = 0
 | _ => 0 < n
def AppT (P : Program) (e : TypeId) (sz : Nat) : Prop := sizeT P e = some sz ∧ ∃ i, P.info? e = some i ∧ (zeroFits P e sz && (Nat.ble i.bytes 1024 && (Nat.ble 1 i.bytes && Nat.ble 1 sz))) = true
theorem below_set (lo b : Nat) (lg : List Nat) : (bif Nat.blt b lo then b :: lg else lg) = below lo [b] ++ lg := by
 simp only [below]
 cases Nat.blt b lo <;> rfl
theorem below_two (lo b c : Nat) : below lo [b, c] = below lo [b] ++ below lo [c] := by
 simp only [below]
 cases Nat.blt b lo <;> rfl
theorem below_below {lo base : Nat} (h : lo ≤ base) : ∀ l : List Nat, below lo (below base l) = below lo l
 | [] => rfl
 | b :: l => by
  have ih := below_below h l
  simp only [below]
  cases hb : Nat.blt b base with
  | true => simp only [cond_true, below, ih]
  | false =>
   have : Nat.blt b lo = false := by
    rw [nblt, decide_eq_false_iff_not] at hb ⊢
    omega
   simp only [cond_false, this, ih]
theorem appendA_gro (ht : AppT P e sz) {g : Gro} (hk : Knows S m0 m (g.H e cs ++ h)) (hg : g.Ok n) (hc : cs.length = n * sz) (hv : vs.length = k * sz) (hf : flats vs = true) (hn : n + k ≤ 4294967296) :
  ∃ g' hp nx tch, (∀ lo lg, appendA P e ⟨m.heap, m.next, lo, lg⟩ (g.V n) k vs = some (Gro.V (n + k) g', ⟨hp, nx, lo, below lo tch ++ lg⟩)) ∧ Knows S m0 ⟨hp, nx, m.lo, below m.lo tch ++ m.log⟩ (g'.H e (cs ++ vs) ++ h) ∧ g'.Ok (n + k) ∧ m.next ≤ nx ∧ (g = .no ∨ (∃ b, g = .emp b) → tch = []) := by
 obtain ⟨hsz, i, hi, hb⟩ := ht
 simp only [Bool.and_eq_true] at hb
 obtain ⟨hz, hb1, hb2, hb3⟩ := hb
 cases k with
 | zero =>
  have hvs : vs = [] := List.eq_nil_of_length_eq_zero (by rw [hv]; omega)
  subst hvs
  refine ⟨g, m.heap, m.next, [], ?_, by simpa [below] using hk, hg, Nat.le_refl _, fun _ => rfl⟩
  intro lo lg
  cases g with
  | no => rfl
  | emp b => rfl
  | one b =>
   show (bif Nat.ble n top then _ else _) = _
   rw [nble, decide_eq_true (by unfold top; omega)]
   rfl
  | two b b0 old =>
   show (bif Nat.ble n top then _ else _) = _
   rw [nble, decide_eq_true (by unfold top; omega)]
   rfl
 | succ k =>
  have hsz1 : 1 ≤ sz := Nat.le_of_ble_eq_true hb3
  have hcond : ∀ len, len = n → (!(zeroFits P e sz && Nat.beq vs.length ((k + 1) * sz) && flats vs && Nat.ble (len + (k + 1)) 4294967296 && Nat.ble i.bytes 1024 && Nat.ble 1 i.bytes && Nat.ble 1 sz)) = false := by
   intro len e1
   subst e1
   have e1 : Nat.beq vs.length ((k + 1) * sz) = true := by rw [nbeq, hv]; simp
   have e2 : Nat.ble (len + (k + 1)) 4294967296 = true := by rw [nble]; simpa using hn
   rw [hz, e1, hf, e2, hb1, hb2, hb3]
   rfl
  have hcs0 : cs.take (n * sz) = cs := by rw [← hc, List.take_length]
  cases g with
  | no =>
   have hn0 : n = 0 := hg
   subst hn0
   have hcs : cs = [] := List.eq_nil_of_length_eq_zero (by rw [hc]; omega)
   subst hcs
   refine ⟨.one m.next, m.heap.set m.next (some (.cells ([] ++ vs) e true .plain none)), m.next + 1, [], fun lo lg => ?_, hk.new (.cells ([] ++ vs) e true .plain none), (by show 0 < _; omega), Nat.le_succ _, fun _ => rfl⟩
   show appendA P e _ (.slice none 0 0) (k + 1) vs = _
   unfold appendA
   simp only [hsz, hi, hcond 0 rfl]
   rfl
  | emp b =>
   have hn0 : n = 0 := hg
   subst hn0
   have hcs : cs = [] := List.eq_nil_of_length_eq_zero (by rw [hc]; omega)
   subst hcs
   have hk2 := hk.sub (h' := h) (List.sublist_append_right _ _)
   refine ⟨.one m.next, m.heap.set m.next (some (.cells ([] ++ vs) e true .plain none)), m.next + 1, [], fun lo lg => ?_, hk2.new (.cells ([] ++ vs) e true .plain none), (by show 0 < _; omega), Nat.le_succ _, fun _ => rfl⟩
   have hbk := (hk.has b (.cells [] e false .plain none) (by simp [Gro.H])).1
   show appendA P e _ (.slice (some ⟨b, 0, none⟩) 0 0) (k + 1) vs = _
   unfold appendA
   simp only [hsz, hi, hcond 0 rfl, hbk]
   have e1 : Nat.blt 0 big = true := rfl
   have e2 : Nat.ble (0 + (k + 1)) 0 = false := by rw [nble]; simp
   simp only [e1, e2, cond_true, cond_false]
   have e3 : rdCells (.cells [] e false .plain none) 0 (0 * sz) = some [] := by
    rw [Nat.zero_mul]
    rfl
   rw [e3]
   rfl
  | one b =>
   have hk1 : Knows S m0 m ((b, .cells cs e true .plain none) :: h) := hk
   have hbk := (hk1.has b _ List.mem_cons_self).1
   have hk2 := hk1.set (o' := .cells cs e true .plain (some m.next)) .head
   have hk3 := hk2.new (.cells (cs ++ vs) e true .plain (some b))
   refine ⟨.two m.next b cs, (m.heap.set b (some (.cells cs e true .plain (some m.next)))).set m.next (some (.cells (cs ++ vs) e true .plain (some b))), m.next + 1, [b], fun lo lg => ?_, by
    simp only [AW.new, AW.set, below_set] at hk3
    exact hk3, (by show 0 < _; omega), Nat.le_succ _, fun h => by rcases h with h | ⟨_, h⟩ <;> cases h⟩
   show appendA P e _ (.slice (some ⟨b, 0, none⟩) n top) (k + 1) vs = _
   unfold appendA
   simp only [hsz, hi, hcond n rfl, hbk]
   have e1 : Nat.blt top big = false := rfl
   have e4 : Nat.beq e e = true := by rw [nbeq]; simp
   have e5 : Nat.beq 0 ((top - top) * sz) = true := by rw [nbeq]; simp
   have e6 : Nat.ble (n * sz) cs.length = true := by rw [nble]; simp [hc]
   have e7 : Nat.beq (n * sz) cs.length = true := by rw [nbeq]; simp [hc]
   simp only [Nat.zero_add, e1, e4, e5, e6, e7, cond_true, cond_false, hcs0, List.drop_zero, ← below_set]
   rfl
  | two b b0 old =>
   have hk0 : Knows S m0 m ((b, .cells cs e true .plain (some b0)) :: (b0, .cells old e true .plain (some b)) :: h) := hk
   have hbk := (hk0.has b _ List.mem_cons_self).1
   have hk1 : Knows S m0 (m.set b0 none) ((b, .cells cs e true .plain (some b0)) :: h) := (hk0.perm (List.Perm.swap _ _ _)).kill
   have hk2 := hk1.set (o' := .cells cs e true .plain (some m.next)) .head
   have hk3 := hk2.new (.cells (cs ++ vs) e true .plain (some b))
   refine ⟨.two m.next b cs, ((m.heap.set b0 none).set b (some (.cells cs e true .plain (some m.next)))).set m.next (some (.cells (cs ++ vs) e true .plain (some b))), m.next + 1, [b, b0], fun lo lg => ?_, by
    simp only [AW.new, AW.set, below_set] at hk3
    rw [below_two, List.append_assoc]
    exact hk3, (by show 0 < _; omega), Nat.le_succ _, fun h => by rcases h with h | ⟨_, h⟩ <;> cases h⟩
   show appendA P e _ (.slice (some ⟨b, 0, none⟩) n top) (k + 1) vs = _
   unfold appendA
   simp only [hsz, hi, hcond n rfl, hbk]
   have e1 : Nat.blt top big = false := rfl
   have e4 : Nat.beq e e = true := by rw [nbeq]; simp
   have e5 : Nat.beq 0 ((top - top) * sz) = true := by rw [nbeq]; simp
   have e6 : Nat.ble (n * sz) cs.length = true := by rw [nble]; simp [hc]
   have e7 : Nat.beq (n * sz) cs.length = true := by rw [nbeq]; simp [hc]
   have hl : below lo [b, b0] ++ lg = (bif Nat.blt b lo then b :: (bif Nat.blt b0 lo then b0 :: lg else lg) else (bif Nat.blt b0 lo then b0 :: lg else lg)) := by
    rw [below_two, List.append_assoc, below_set, below_set]
   simp only [Nat.zero_add, e1, e4, e5, e6, e7, cond_true, cond_false, hcs0, List.drop_zero, hl]
   rfl
def Shows (X : Cx) (h : Hp) (sz : Nat) (v : Value) (k : Nat) (vs : List Value) : Prop := lenV v = some k ∧ vs.length = k * sz ∧ flats vs = true ∧ ∀ m lo lg, Knows X.S X.m0 m h → firstA ⟨m.heap, m.next, lo, lg⟩ sz k v = some vs
theorem Shows.slice {sz b off n c : Nat} (hs : Sees X h b (.cells cs el g md mate)) (hl : off + n * sz ≤ cs.length) (hv : (cs.drop off).take (n * sz) = vs) (hf : flats vs = true) : Shows X h sz (.slice (some ⟨b, off, none⟩) n c) n vs := by
 refine ⟨rfl, ?_, hf, fun m lo lg hk => ?_⟩
 ·rw [← hv, List.length_take, List.length_drop]
  omega
 show (bif Nat.beq n 0 then some [] else (m.heap.get b).bind fun o => rdCells o off (n * sz)) = some vs
 cases hb : Nat.beq n 0 with
 | true =>
  rw [nbeq, decide_eq_true_eq] at hb
  subst hb
  rw [← hv]
  simp
 | false =>
  rw [hs m hk]
  simp only [cond_false, Option.bind_some]
  exact rdCells_take hl hv
theorem Shows.nil (ha : a = none ∨ ∃ b off, a = some ⟨b, off, none⟩) : Shows X h sz (.slice a 0 c) 0 [] := by
 refine ⟨rfl, by simp, rfl, fun m lo lg hk => ?_⟩
 rcases ha with rfl | ⟨b, off, rfl⟩ <;> rfl
theorem appendV_gro (h1 : P.underlying t1 = some (.slice e)) (h2 : P.underlying t2 = some (.slice e2)) (hsz : sizeT P e = some sz) (hl : lenV x = some k) (hf : firstA m sz k x = some vs) : appendV P (some t1) (some t2) s x m = valP (appendA P e m s k vs) := by
 unfold appendV
 simp only [Option.bind_some, h1, h2, hsz, hl, hf]
section
variable {X : Cx} {ops : Array Oper} {base : Nat} {rI : List Nat} {cl : Bool} {mk : List (Nat × Nat)} {e : Env} {h : Hp} {Q : Out → Prop} {o : Oper} {i : Info} {rest : List Oper} {drest : List (Oper × Info)} {t : Tmp}
theorem Ie.append {g : Gro} (hp : h.Perm (g.H el cs ++ h1)) (hx : evE X.P e x = some xv) (hv : Shows X h sz xv k vs) (hg : g.Ok n) (hc : cs.length = n * sz) (hn : n + k ≤ 4294967296) (hd : o.dst = some t) (ht : Nat.blt t X.n = true) (hgd : wantE ops e o = some true) (ho : o.op = .call { callee := .builtin .append, args := #[s, x], argTypes := #[t1, t2] }) (hu1 : X.P.underlying t1 = some (.slice el)) (hu2 : X.P.underlying t2 = some (.slice e2)) (hT : AppT X.P el sz) (hs : evE X.P e s = some (g.V n))
  (q : ∀ g' : Gro, g'.Ok (n + k) → Ie X ops ((t, g'.V (n + k)) :: e) (g'.H el (cs ++ vs) ++ h1) rest Q) : Ie X ops e h (o :: rest) Q := fun ts m a1 a2 => by
 obtain ⟨g', hp', nx, tch, h3, h4, h5, _, _⟩ := appendA_gro hT (a2.perm hp) hg hc hv.2.1 hv.2.2.1 hn
 refine Io.op (k := 0) (m' := ⟨hp', nx, m.lo, below m.lo tch ++ m.log⟩) (v := g'.V (n + k)) (wantE_spec a1 hgd) (by rw [ho]; rfl) ?_ ?_
 ·rw [ho, doOp_h rfl]
  have : evs X.P ts [s, x] = some [g.V n, xv] := by
   unfold evs evs evs
   rw [evE_ev a1 hs, evE_ev a1 hx]
   rfl
  show (match evs X.P ts [s, x] with | some args => callB X.P .append args #[t1, t2] m | none => none) = _
  rw [this]
  show appendV X.P (some t1) (some t2) (g.V n) xv m = _
  rw [appendV_gro hu1 hu2 hT.1 hv.1 (hv.2.2.2 m m.lo m.log a2)]
  have h6 := h3 m.lo m.log
  rw [show (⟨m.heap, m.next, m.lo, m.log⟩ : AW) = m from rfl] at h6
  rw [h6]
  rfl
 rw [hd]
 exact q g' h5 _ _ (a1.put ht _) h4
theorem De.append {g : Gro} (hp : h.Perm (g.H el cs ++ h1)) (hx : evE X.P e x = some xv) (hv : Shows X h sz xv k vs) (hg : g.Ok n) (hc : cs.length = n * sz) (hn : n + k ≤ 4294967296) (hi : i.cls = .h) (hok : i.hok = true) (hin : allIn i.pre (mk.map Prod.fst) = true) (hri : allIn i.pre rI = true) (hd : o.dst = some t) (ht : Nat.blt t X.n = true) (hgd : wantE ops e o = some true) (ho : o.op = .call { callee := .builtin .append, args := #[s, x], argTypes := #[t1, t2] }) (hu1 : X.P.underlying t1 = some (.slice el)) (hu2 : X.P.underlying t2 = some (.slice e2)) (hT : AppT X.P el sz) (hs : evE X.P e s = some (g.V n))
  (q : ∀ g' : Gro, g'.Ok (n + k) → De X ops base rI false mk ((t, g'.V (n + k)) :: e) (g'.H el (cs ++ vs) ++ h1) drest Q) : De X ops base rI cl mk e h ((o, i) :: drest) Q := fun ts m rs ws a1 a2 a3 a4 a5 => by
 obtain ⟨g', hp', nx, tch, h3, h4, h5, h6, _⟩ := appendA_gro hT (a2.perm hp) hg hc hv.2.1 hv.2.2.1 hn
 obtain ⟨j, out, g1, g2⟩ := q g' h5 _ ⟨hp', nx, m.lo, below m.lo tch ++ m.log⟩ rs ((i.i, below base tch) :: ws) (a1.put ht _) h4 ⟨a3.1, Nat.le_trans a3.2 h6⟩ a4 (fun hf => by cases hf)
 refine ⟨j, out, ?_, g2⟩
 have e2' : doOp X.P (irun X.P j) ts o.op ⟨hideB i.pre mk m.heap, m.next, base, []⟩ = some (.val (g'.V (n + k)) ⟨hp', nx, base, below base tch ++ []⟩) := by
  rw [hideB_all _ _ _ hin, ho, doOp_h rfl]
  have : evs X.P ts [s, x] = some [g.V n, xv] := by
   unfold evs evs evs
   rw [evE_ev a1 hs, evE_ev a1 hx]
   rfl
  show (match evs X.P ts [s, x] with | some args => callB X.P .append args #[t1, t2] ⟨m.heap, m.next, base, []⟩ | none => none) = _
  rw [this]
  show appendV X.P (some t1) (some t2) (g.V n) xv _ = _
  rw [appendV_gro hu1 hu2 hT.1 hv.1 (hv.2.2.2 m base [] a2), h3 base []]
  rfl
 have e1 : (i.hok && plainB i.pre m.heap mk) = true := by rw [hok, plainB_all _ _ _ hin]; rfl
 have e3 : ∀ w, writeOk i.pre w rs = true := fun w => writeOk_in _ _ _ hri _ a4
 unfold dops
 rw [wantE_spec a1 hgd]
 have hle : X.m0.lo ≤ base := Nat.le_trans a2.lole a3.1
 simp only [cond_true, hi, e1, e2', e3, showB_all _ _ _ _ hin, hd, List.append_nil, below_below hle]
 rw [a2.lo] at g1
 exact g1
theorem De.appendNew {g : Gro} (hp : h.Perm (g.H el cs ++ h1)) (hx : evE X.P e x = some xv) (hv : Shows X h sz xv k vs) (hg : g.Ok n) (hc : cs.length = n * sz) (hn : n + k ≤ 4294967296) (hne : g = .no ∨ ∃ b, g = .emp b) (hi : i.cls = .h) (hok : i.hok = true) (hin : allIn i.pre (mk.map Prod.fst) = true) (hd : o.dst = some t) (ht : Nat.blt t X.n = true) (hgd : wantE ops e o = some true) (ho : o.op = .call { callee := .builtin .append, args := #[s, x], argTypes := #[t1, t2] }) (hu1 : X.P.underlying t1 = some (.slice el)) (hu2 : X.P.underlying t2 = some (.slice e2)) (hT : AppT X.P el sz) (hs : evE X.P e s = some (g.V n))
  (q : ∀ g' : Gro, g'.Ok (n + k) → De X ops base rI cl mk ((t, g'.V (n + k)) :: e) (g'.H el (cs ++ vs) ++ h1) drest Q) : De X ops base rI cl mk e h ((o, i) :: drest) Q := fun ts m rs ws a1 a2 a3 a4 a5 => by
 obtain ⟨g', hp', nx, tch, h3, h4, h5, h6, h7⟩ := appendA_gro hT (a2.perm hp) hg hc hv.2.1 hv.2.2.1 hn
 have htch := h7 hne
 subst htch
 obtain ⟨j, out, g1, g2⟩ := q g' h5 _ ⟨hp', nx, m.lo, below m.lo [] ++ m.log⟩ rs ((i.i, []) :: ws) (a1.put ht _) h4 ⟨a3.1, Nat.le_trans a3.2 h6⟩ a4 (fun hcl p hp => by
  rcases List.mem_cons.1 hp with rfl | hp
  ·rfl
  exact a5 hcl p hp)
 refine ⟨j, out, ?_, g2⟩
 have e2' : doOp X.P (irun X.P j) ts o.op ⟨hideB i.pre mk m.heap, m.next, base, []⟩ = some (.val (g'.V (n + k)) ⟨hp', nx, base, below base [] ++ []⟩) := by
  rw [hideB_all _ _ _ hin, ho, doOp_h rfl]
  have : evs X.P ts [s, x] = some [g.V n, xv] := by
   unfold evs evs evs
   rw [evE_ev a1 hs, evE_ev a1 hx]
   rfl
  show (match evs X.P ts [s, x] with | some args => callB X.P .append args #[t1, t2] ⟨m.heap, m.next, base, []⟩ | none => none) = _
  rw [this]
  show appendV X.P (some t1) (some t2) (g.V n) xv _ = _
  rw [appendV_gro hu1 hu2 hT.1 hv.1 (hv.2.2.2 m base [] a2), h3 base []]
  rfl
 have e1 : (i.hok && plainB i.pre m.heap mk) = true := by rw [hok, plainB_all _ _ _ hin]; rfl
 unfold dops
 rw [wantE_spec a1 hgd]
 simp only [cond_true, hi, e1, e2', below, List.append_nil, writeOk_nil, showB_all _ _ _ _ hin, hd, List.nil_append]
 simp only [below, List.nil_append, a2.lo] at g1
 exact g1
end
end Go.Ab
namespace Go.Ab
variable [Vals]
inductive Pick : Hp → Hp → Hp → Prop where
 | all {l : Hp} : Pick l l []
 | here {l r : Hp} : Pick (l ++ r) l r
 | one {p : Nat × AObj} {r : Hp} : Pick (p :: r) [p] r
 | tail {p : Nat × AObj} {h l r : Hp} (k : Pick h l r) : Pick (p :: h) l (p :: r)
 | over {h0 h l r : Hp} (k : Pick h l r) : Pick (h0 ++ h) l (h0 ++ r)
theorem Pick.perm {h l r : Hp} (k : Pick h l r) : h.Perm (l ++ r) := by
 induction k with
 | all => rw [List.append_nil]
 | here => exact .refl _
 | one => exact .refl _
 | @tail p h l r k ih => exact (ih.cons p).trans List.perm_middle.symm
 | @over h0 h l r k ih =>
  refine (ih.append_left h0).trans ?_
  rw [← List.append_assoc, ← List.append_assoc]
  exact List.perm_append_comm.append_right r
section
variable {κ : Type} [DecidableEq κ]
def findP (k : κ) : List (κ × Value) → Nat → Option (Nat × Value)
 | [], _ => none
 | (a, v) :: l, i => if k = a then some (i, v) else findP k l (i + 1)
def getP (k : κ) : List (κ × Value) → Option Value
 | [] => none
 | (a, v) :: l => if k = a then some v else getP k l
def putP (k : κ) (x : Value) : List (κ × Value) → List (κ × Value)
 | [] => [(k, x)]
 | (a, v) :: l => if k = a then (k, x) :: l else (a, v) :: putP k x l
theorem findP_get (k : κ) : ∀ (l : List (κ × Value)) (i : Nat), (findP k l i).map Prod.snd = getP k l
 | [], _ => rfl
 | (a, v) :: l, i => by
  unfold findP getP
  split
  ·rfl
  exact findP_get k l (i + 1)
theorem getP_put (k : κ) (x : Value) (j : κ) : ∀ l : List (κ × Value), getP j (putP k x l) = if j = k then some x else getP j l
 | [] => by
  unfold putP getP
  rfl
 | (a, v) :: l => by
  unfold putP
  split
  ·rename_i h
   subst h
   unfold getP
   split <;> rfl
  rename_i h
  unfold getP
  rw [getP_put k x j l]
  split
  ·rename_i h2
   subst h2
   rw [if_neg (fun e => h e.symm)]
  rfl
def PairsK (K : κ → Value) : List MapEntry → List (κ × Value) → Prop
 | [], [] => True
 | e :: es, (a, v) :: l => e.key = K a ∧ e.val = v ∧ PairsK K es l
 | _, _ => False
structure KeyOk (P : Program) (t : TypeId) (K : κ → Value) : Prop where
 eq : ∀ a b, eqA P 10000 t (K a) (K b) = some (decide (a = b))
 ok : ∀ a, (keyV P 20 t (K a) && ground (K a)) = true
 same : ∀ a, sameKey 20 (K a) (K a) = true
theorem findA_pairs {P : Program} {t : TypeId} {K : κ → Value} (hK : KeyOk P t K) (k : κ) : ∀ (es : List MapEntry) (l : List (κ × Value)) (i : Nat), PairsK K es l → findA P t (K k) es i = some (findP k l i)
 | [], [], i, _ => rfl
 | e :: es, (a, v) :: l, i, h => by
  obtain ⟨h1, h2, h3⟩ := h
  unfold findA findP
  rw [h1, hK.eq]
  by_cases hk : k = a
  ·subst hk
   simp [h2]
  simp only [hk, decide_false, if_false]
  exact findA_pairs hK k es l (i + 1) h3
 | [], _ :: _, _, h => h.elim
 | _ :: _, [], _, h => h.elim
theorem PairsK.put {P : Program} {t : TypeId} {K : κ → Value} (hK : KeyOk P t K) (k : κ) (x : Value) (c : Nat) : ∀ (es : List MapEntry) (l : List (κ × Value)), PairsK K es l → ∃ es' c', mapPut P t es c (K k) x = some (.map es' c') ∧ PairsK K es' (putP k x l) := by
 have happ : ∀ (es : List MapEntry) (l : List (κ × Value)), PairsK K es l → findP k l 0 = none → ∀ i, findP k l i = none := by
  intro es l h hf i
  have := findP_get k l 0
  rw [hf] at this
  have h2 := findP_get k l i
  rw [← this] at h2
  cases hx : findP k l i with
  | none => rfl
  | some y => rw [hx] at h2; cases h2
 intro es l h
 unfold mapPut
 rw [findA_pairs hK k es l 0 h]
 cases hf : findP k l 0 with
 | none =>
  refine ⟨_, _, rfl, ?_⟩
  have hn := happ es l h hf
  clear hf happ
  induction l generalizing es with
  | nil =>
   cases es with
   | nil => exact ⟨rfl, rfl, trivial⟩
   | cons e es => exact h.elim
  | cons p l ih =>
   obtain ⟨a, v⟩ := p
   cases es with
   | nil => exact h.elim
   | cons e es =>
    obtain ⟨h1, h2, h3⟩ := h
    have h4 := hn 0
    unfold findP at h4
    split at h4
    ·cases h4
    rename_i hne
    unfold putP
    rw [if_neg hne]
    refine ⟨h1, h2, ih es h3 fun i => ?_⟩
    cases i with
    | zero =>
     have := hn 0
     unfold findP at this
     rw [if_neg hne] at this
     have e1 := findP_get k l 1
     rw [this] at e1
     have e2 := findP_get k l 0
     rw [← e1] at e2
     cases hx : findP k l 0 with
     | none => rfl
     | some y => rw [hx] at e2; cases e2
    | succ i =>
     have := hn i
     unfold findP at this
     rw [if_neg hne] at this
     exact this
 | some y =>
  obtain ⟨j, v⟩ := y
  have key : ∀ (es : List MapEntry) (l : List (κ × Value)) (i j : Nat) (v : Value), PairsK K es l → findP k l i = some (j, v) → i ≤ j ∧ sameKeyAt es (j - i) (K k) = true ∧ PairsK K (es.modify (j - i) fun e => { e with key := K k, val := x }) (putP k x l) := by
   intro es
   induction es with
   | nil =>
    intro l i j v h hf
    cases l with
    | nil => cases hf
    | cons p l => exact h.elim
   | cons e es ih =>
    intro l i j v h hf
    cases l with
    | nil => exact h.elim
    | cons p l =>
     obtain ⟨a, w⟩ := p
     obtain ⟨h1, h2, h3⟩ := h
     unfold findP at hf
     unfold putP
     split at hf
     ·rename_i hk
      subst hk
      cases hf
      rw [if_pos rfl, Nat.sub_self]
      refine ⟨Nat.le_refl _, ?_, ?_⟩
      ·unfold sameKeyAt
       simp only [List.getElem?_cons_zero, h1]
       exact hK.same k
      exact ⟨rfl, rfl, h3⟩
     rename_i hk
     rw [if_neg hk]
     obtain ⟨g1, g2, g3⟩ := ih l (i + 1) j v h3 hf
     have hj : j - i = (j - (i + 1)) + 1 := by omega
     rw [hj]
     refine ⟨by omega, ?_, ?_⟩
     ·unfold sameKeyAt at g2 ⊢
      simpa using g2
     exact ⟨h1, h2, g3⟩
  obtain ⟨_, g2, g3⟩ := key es l 0 j v h hf
  rw [Nat.sub_zero] at g2 g3
  simp only [g2, cond_true]
  exact ⟨_, _, rfl, g3⟩
end
theorem eqBytes_same (a : List UInt8) : eqBytes a a = true := by rw [eqBytes_eq]; simp
theorem KeyOk.string {P : Program} {t : TypeId} (hu : P.underlying t = some .string) : KeyOk P t Value.string where
 eq := fun a b => by
  have : eqA P (9999 + 1) t (.string a) (.string b) = some (decide (a = b)) := by
   unfold eqA
   simp only [hu, eqBase, eqBytes_eq]
   congr 1
   rw [decide_eq_decide]
   constructor
   ·intro h
    cases a with | mk a => cases b with | mk b =>
     cases a with | mk a => cases b with | mk b => cases h; rfl
   rintro rfl; rfl
  exact this
 ok := fun a => by
  have : keyV P (19 + 1) t (.string a) = true := by
   unfold keyV
   simp only [hu]
  rw [show (20 : Nat) = 19 + 1 from rfl, this]
  rfl
 same := fun a => by
  show sameKey (19 + 1) (.string a) (.string a) = true
  unfold sameKey
  exact eqBytes_same _
theorem KeyOk.int {P : Program} {t : TypeId} {k : IntKind} (hu : P.underlying t = some (.int k)) : KeyOk P t (Value.int k) where
 eq := fun a b => by
  have : eqA P (9999 + 1) t (.int k a) (.int k b) = some (decide (a = b)) := by
   unfold eqA
   simp only [hu, eqBase]
   rw [eqI_eq]
   simp
  exact this
 ok := fun a => by
  have : keyV P (19 + 1) t (.int k a) = true := by
   unfold keyV
   simp only [hu]
  rw [show (20 : Nat) = 19 + 1 from rfl, this]
  rfl
 same := fun a => by
  show sameKey (19 + 1) (.int k a) (.int k a) = true
  unfold sameKey
  simp [eqI_eq]
section
variable {X : Cx} {ops : Array Oper} {e : Env} {h : Hp} {Q : Out → Prop} {o : Oper} {rest : List Oper} {t : Tmp}
theorem Ie.lookup {κ : Type} [DecidableEq κ] {K : κ → Value} {ty kt et : TypeId} {x k : Operand} {b : Nat} {es : List MapEntry} {c : Nat} {l : List (κ × Value)} {kv : κ} {z v : Value} {r : Hp} (hp : Pick h [(b, .map es c)] r) (hP : PairsK K es l) (hK : KeyOk X.P kt K) (hd : o.dst = some t) (ht : Nat.blt t X.n = true) (hg : wantE ops e o = some true) (ho : o.op = .lookup ty x k false) (hu : X.P.underlying ty = some (.map kt et)) (hz : zeroT X.P et = some z) (hx : evE X.P e x = some (.map (some b))) (hk : evE X.P e k = some (K kv)) (hv : (getP kv l).getD z = v) (q : Ie X ops ((t, v) :: e) h rest Q) : Ie X ops e h (o :: rest) Q := by
 refine Ie.val h hd ht hg (by rw [ho]; rfl) (fun ts m h1 h2 => ⟨0, m, ?_, h2⟩) q
 rw [ho, doOp_l rfl]
 have hm := ((h2.perm hp.perm).has b (.map es c) (by simp)).1
 have hf := findA_pairs hK kv es l 0 hP
 have hgt := findP_get kv l 0
 show doL (lookup1 X.P ts ty x k false) m = _
 unfold lookup1
 rw [evE_ev h1 hx, evE_ev h1 hk]
 show doL (lookupA X.P ty (.map (some b)) (K kv) false) m = _
 unfold lookupA
 simp only [hu, hK.ok, cond_true, doL, hm, Option.bind_some, hf]
 cases hff : findP kv l 0 with
 | none =>
  rw [hff] at hgt
  rw [← hgt] at hv
  simp only [hz, Option.map_some, Bool.false_eq_true, if_false]
  rw [← hv]
  rfl
 | some y =>
  obtain ⟨j, w⟩ := y
  rw [hff] at hgt
  rw [← hgt] at hv
  simp only [Bool.false_eq_true, if_false]
  rw [← hv]
  rfl
theorem Ie.lookupOk {κ : Type} [DecidableEq κ] {K : κ → Value} {ty kt et : TypeId} {x k : Operand} {b : Nat} {es : List MapEntry} {c : Nat} {l : List (κ × Value)} {kv : κ} {z v : Value} {r : Hp} (hp : Pick h [(b, .map es c)] r) (hP : PairsK K es l) (hK : KeyOk X.P kt K) (hd : o.dst = some t) (ht : Nat.blt t X.n = true) (hg : wantE ops e o = some true) (ho : o.op = .lookup ty x k true) (hu : X.P.underlying ty = some (.map kt et)) (hz : zeroT X.P et = some z) (hx : evE X.P e x = some (.map (some b))) (hk : evE X.P e k = some (K kv)) (hv : (match getP kv l with | some v => Value.tuple #[v, .bool true] | none => .tuple #[z, .bool false]) = v) (q : Ie X ops ((t, v) :: e) h rest Q) : Ie X ops e h (o :: rest) Q := by
 refine Ie.val h hd ht hg (by rw [ho]; rfl) (fun ts m h1 h2 => ⟨0, m, ?_, h2⟩) q
 rw [ho, doOp_l rfl]
 have hm := ((h2.perm hp.perm).has b (.map es c) (by simp)).1
 have hf := findA_pairs hK kv es l 0 hP
 have hgt := findP_get kv l 0
 show doL (lookup1 X.P ts ty x k true) m = _
 unfold lookup1
 rw [evE_ev h1 hx, evE_ev h1 hk]
 show doL (lookupA X.P ty (.map (some b)) (K kv) true) m = _
 unfold lookupA
 simp only [hu, hK.ok, cond_true, doL, hm, Option.bind_some, hf]
 cases hff : findP kv l 0 with
 | none =>
  rw [hff] at hgt
  rw [← hgt] at hv
  simp only [hz, Option.map_some, if_true]
  rw [← hv]
  rfl
 | some y =>
  obtain ⟨j, w⟩ := y
  rw [hff] at hgt
  rw [← hgt] at hv
  simp only [if_true]
  rw [← hv]
  rfl
theorem Ie.mapUpdate {κ : Type} [DecidableEq κ] {K : κ → Value} {ty kt et : TypeId} {x k y : Operand} {b : Nat} {es : List MapEntry} {c : Nat} {l : List (κ × Value)} {kv : κ} {v : Value} {r : Hp} (hp : Pick h [(b, .map es c)] r) (hP : PairsK K es l) (hK : KeyOk X.P kt K) (hd : o.dst = none) (hg : wantE ops e o = some true) (ho : o.op = .mapUpdate ty x k y) (hu : X.P.underlying ty = some (.map kt et)) (hx : evE X.P e x = some (.map (some b))) (hk : evE X.P e k = some (K kv)) (hy : evE X.P e y = some v) (q : ∀ es' c', PairsK K es' (putP kv v l) → Ie X ops e ((b, .map es' c') :: r) rest Q) : Ie X ops e h (o :: rest) Q := by
 obtain ⟨es', c', g1, g2⟩ := hP.put hK kv v c
 refine Ie.val_ (v := undef) ((b, .map es' c') :: r) hd hg (by rw [ho]; rfl) (fun ts m h1 h2 => ⟨0, m.set b (some (.map es' c')), ?_, (h2.perm hp.perm).set .head⟩) (q es' c' g2)
 rw [ho, doOp_h rfl]
 have hm := ((h2.perm hp.perm).has b (.map es c) (by simp)).1
 have : evs X.P ts [x, k, y] = some [.map (some b), K kv, v] := by
  unfold evs evs evs evs
  rw [evE_ev h1 hx, evE_ev h1 hk, evE_ev h1 hy]
  rfl
 show (match evs X.P ts [x, k, y] with | some [mp, k, x] => mapSet X.P ty mp k x m | _ => none) = _
 rw [this]
 show mapSet X.P ty (.map (some b)) (K kv) v m = _
 unfold mapSet
 simp only [hu, hK.ok, cond_true, hm, g1]
theorem makeSliceA_n {P : Program} {ty el : TypeId} {n : Nat} {z : Value} {i : TypeInfo} (hu : P.underlying ty = some (.slice el)) (hs : sizeT P el = some 1) (hi : P.info? el = some i) (hz : zeroT P el = some z) (hc : cellsOfV z = [z]) (hb : Nat.ble i.bytes 65536 = true) (hn : n ≤ 16777216) : makeSliceA P ty (some (Int.ofNat n)) (some (Int.ofNat n)) = some (newCells (List.replicate n z) el, sliceTo n n) := by
 unfold makeSliceA
 simp only [hu, hs, hi]
 have e1 : (Nat.ble n n && Nat.ble n 16777216 && Nat.ble i.bytes 65536) = true := by
  rw [hb, nble, nble, decide_eq_true (Nat.le_refl n), decide_eq_true hn]
  rfl
 have e2 : zerosT P el 1 n = some (List.replicate n z) := by
  unfold zerosT
  cases hb0 : Nat.beq (n * 1) 0 with
  | true =>
   rw [nbeq, decide_eq_true_eq] at hb0
   have : n = 0 := by omega
   subst this
   rfl
  | false =>
   simp only [cond_false, hz, hc]
   have e3 : Nat.beq [z].length 1 = true := rfl
   rw [e3]
   have : ∀ n, replicateL [z] n = List.replicate n z := by
    intro n
    induction n with
    | zero => rfl
    | succ n ih => rw [List.replicate_succ, ← ih]; rfl
   rw [this]
   rfl
 rw [e1, e2]
 rfl
theorem Ie.makeSlice {ty el : TypeId} {x y : Operand} {n : Nat} {k : IntKind} {ob : AObj} {fv : Nat → Value} (hv : makeSliceA X.P ty (some (Int.ofNat n)) (some (Int.ofNat n)) = some (ob, fv)) (hd : o.dst = some t) (ht : Nat.blt t X.n = true) (hg : wantE ops e o = some true) (ho : o.op = .makeSlice ty x y) (hx : evE X.P e x = some (.int k (Int.ofNat n))) (hy : evE X.P e y = some (.int k (Int.ofNat n))) (q : ∀ b, X.m0.next ≤ b → Ie X ops ((t, fv b) :: e) ((b, ob) :: h) rest Q) : Ie X ops e h (o :: rest) Q :=
 Ie.made hd ht hg (by rw [ho]; rfl) (by rw [ho]; rfl) (fun ts H => by
  rw [ho]
  show makeSliceA X.P ty ((ev X.P ts x).bind asInt?) ((ev X.P ts y).bind asInt?) = _
  rw [evE_ev H hx, evE_ev H hy]
  exact hv) q
theorem Ie.buildSlice {ty : TypeId} {n : Nat} {parts : Array (Nat × Operand)} {ps : List (Nat × Value)} {ob : AObj} {fv : Nat → Value} (hd : o.dst = some t) (ht : Nat.blt t X.n = true) (hg : wantE ops e o = some true) (ho : o.op = .buildSlice ty n parts) (hx : evPartsE X.P e parts.toList = some ps) (hv : buildSliceA X.P ty n ps = some (ob, fv)) (q : ∀ b, X.m0.next ≤ b → Ie X ops ((t, fv b) :: e) ((b, ob) :: h) rest Q) : Ie X ops e h (o :: rest) Q :=
 Ie.made hd ht hg (by rw [ho]; rfl) (by rw [ho]; rfl) (fun ts H => by
  rw [ho]
  show (evParts X.P ts parts.toList).bind (buildSliceA X.P ty n) = _
  rw [evPartsE_spec H hx]
  exact hv) q
theorem Ie.min {x y : Operand} {k k' : IntKind} {a b : Int} {ats : Array TypeId} (hd : o.dst = some t) (ht : Nat.blt t X.n = true) (hg : wantE ops e o = some true) (ho : o.op = .call { callee := .builtin .min, args := #[x, y], argTypes := ats }) (hx : evE X.P e x = some (.int k a)) (hy : evE X.P e y = some (.int k' b)) (q : Ie X ops ((t, .int k (if b < a then b else a)) :: e) h rest Q) : Ie X ops e h (o :: rest) Q := by
 refine Ie.val h hd ht hg (by rw [ho]; rfl) (fun ts m h1 h2 => ⟨0, m, ?_, h2⟩) q
 rw [ho, doOp_p rfl]
 have : evs X.P ts [x, y] = some [.int k a, .int k' b] := by
  unfold evs evs evs
  rw [evE_ev h1 hx, evE_ev h1 hy]
  rfl
 show doP (minMax1 true (evs X.P ts [x, y])) m = _
 rw [this]
 rfl
end
section
variable {X : Cx} {ops : Array Oper} {base : Nat} {rI : List Nat} {cl : Bool} {mk : List (Nat × Nat)} {e : Env} {h : Hp} {Q : Out → Prop} {o : Oper} {i : Info} {rest : List (Oper × Info)} {t : Tmp}
theorem De.buildSlice {ty : TypeId} {n : Nat} {parts : Array (Nat × Operand)} {ps : List (Nat × Value)} {ob : AObj} {fv : Nat → Value} (hi : i.cls = .a) (hd : o.dst = some t) (ht : Nat.blt t X.n = true) (hg : wantE ops e o = some true) (ho : o.op = .buildSlice ty n parts) (hx : evPartsE X.P e parts.toList = some ps) (hv : buildSliceA X.P ty n ps = some (ob, fv)) (q : ∀ b, base ≤ b → X.m0.next ≤ b → De X ops base rI cl ((i.i, b) :: mk) ((t, fv b) :: e) ((b, ob) :: h) rest Q) : De X ops base rI cl mk e h ((o, i) :: rest) Q :=
 De.made hi hd ht hg (by rw [ho]; rfl) (fun ts H => by
  rw [ho]
  show (evParts X.P ts parts.toList).bind (buildSliceA X.P ty n) = _
  rw [evPartsE_spec H hx]
  exact hv) q
theorem De.min {x y : Operand} {k k' : IntKind} {a b : Int} {ats : Array TypeId} (hi : i.cls = .p) (hd : o.dst = some t) (ht : Nat.blt t X.n = true) (hg : wantE ops e o = some true) (ho : o.op = .call { callee := .builtin .min, args := #[x, y], argTypes := ats }) (hx : evE X.P e x = some (.int k a)) (hy : evE X.P e y = some (.int k' b)) (q : De X ops base rI cl mk ((t, .int k (if b < a then b else a)) :: e) h rest Q) : De X ops base rI cl mk e h ((o, i) :: rest) Q :=
 De.pure hi hd ht hg (fun ts H => by
  rw [ho]
  have : evs X.P ts [x, y] = some [.int k a, .int k' b] := by
   unfold evs evs evs
   rw [evE_ev H hx, evE_ev H hy]
   rfl
  refine ⟨rfl, ?_⟩
  show minMax1 true (evs X.P ts [x, y]) = _
  rw [this]
  rfl) q
end
end Go.Ab
namespace Go.Ab
variable [Vals]
section
variable {S : List Nat} {m0 m m' : AW}
theorem Knows.step {l l' r : Hp} (k : Knows S m0 m (l ++ r)) (k2 : Knows (l.map Prod.fst) m m' l') : Knows S m0 m' (l' ++ r) := by
 have hC : ∀ b, b ∈ l.map Prod.fst → m0.next ≤ b ∨ b ∈ S := fun b hb => by
  obtain ⟨⟨c, o⟩, h1, rfl⟩ := List.mem_map.1 hb
  exact (k.has c o (List.mem_append_left _ h1)).2.2
 have hap := k.apart
 rw [List.map_append, List.nodup_append] at hap
 obtain ⟨_, hap2, hap3⟩ := hap
 refine ⟨k.lole, Nat.le_trans k.next k2.next, k2.lo.trans k.lo, fun b hb => ?_, fun hs => ?_, fun b hb hs => ?_, fun b o hb => ?_, ?_⟩
 ·rcases k2.log b hb with h | ⟨h1, h2⟩
  ·exact k.log b h
  rw [k.lo] at h2
  rcases hC b h1 with h | h
  ·have := k.lole; omega
  exact .inr ⟨h, h2⟩
 ·rw [← k.none_ hs]
  refine k2.none_ fun b hb => ?_
  rw [k.lo]
  rcases hC b hb with h | h
  ·exact Nat.le_trans k.lole h
  exact hs b h
 ·rw [← k.keep b hb hs]
  refine k2.keep b (Nat.lt_of_lt_of_le hb k.next) fun h => ?_
  rcases hC b h with h | h
  ·omega
  exact hs h
 ·rcases List.mem_append.1 hb with hb | hb
  ·obtain ⟨h1, h2, h3⟩ := k2.has b o hb
   refine ⟨h1, h2, ?_⟩
   rcases h3 with h3 | h3
   ·exact .inl (Nat.le_trans k.next h3)
   exact hC b h3
  obtain ⟨h1, h2, h3⟩ := k.has b o (List.mem_append_right _ hb)
  refine ⟨(k2.keep b h2 fun h => ?_).trans h1, Nat.lt_of_lt_of_le h2 k2.next, h3⟩
  exact hap3 b h b (List.mem_map.2 ⟨_, hb, rfl⟩) rfl
 rw [List.map_append, List.nodup_append]
 refine ⟨k2.apart, hap2, fun a ha b hb => ?_⟩
 rintro rfl
 obtain ⟨⟨c, o⟩, h1, rfl⟩ := List.mem_map.1 ha
 obtain ⟨⟨c', o'⟩, h2, e⟩ := List.mem_map.1 hb
 simp only at e
 subst e
 rcases (k2.has c' o h1).2.2 with h3 | h3
 ·have := (k.has c' o' (List.mem_append_right _ h2)).2.1
  omega
 exact hap3 c' h3 c' (List.mem_map.2 ⟨_, h2, rfl⟩) rfl
theorem Knows.self {h : Hp} (k : Knows S m0 m h) : Knows (h.map Prod.fst) m m h :=
 ⟨k.lole', Nat.le_refl _, rfl, fun _ h => .inl h, fun _ => rfl, fun _ _ _ => rfl, fun b o hb => by
  obtain ⟨g1, g2, _⟩ := k.has b o hb
  exact ⟨g1, g2, .inr (List.mem_map.2 ⟨_, hb, rfl⟩)⟩, k.apart⟩
end
theorem Fc.bodyS {P : Program} {f : FuncId} {fn : Func} {c : Code} {args : List Value} {m : AW} {S : List Nat} {h0 : Hp} {Q : Value → AW → Prop} (hf : P.funcs[f]? = some fn) (hb : fn.body = some c) (hv : Vals.call f args = none) (h1 : Nat.ble args.length fn.ntmps = true) (h2 : Nat.ble fn.ntmps dIx = true) (hm : Knows S m m h0)
  (q : Ce ⟨P, f, fn.ntmps, none, S, m⟩ (argsE args 0) h0 c (End P fn Q)) : Fc P f args m Q := by
 obtain ⟨k, ⟨ex, ts, v, m'⟩, g1, g2⟩ := q _ m (Has.args h1 h2) hm
 have hbb : (Nat.ble args.length fn.ntmps && Nat.ble fn.ntmps dIx) = true := by rw [h1, h2]; rfl
 have key : ∃ v m', stFn P (irun P k) f args m = some ⟨.ret, .lf, v, m'⟩ ∧ Q v m' := by
  unfold stFn
  simp only [hf, hb, hv]
  unfold stFb
  simp only [hbb, cond_true]
  simp only at g1
  rw [g1]
  have hd : ∀ (ts : Tr Value) (m : AW) (v : Value), ts.get dIx = none → resA P fn ts m = some v → retD P (irun P k) fn ts m = some ⟨.ret, .lf, v, m⟩ := by
   intro ts m v e1 e2
   unfold retD defsOf
   rw [e1]
   simp only [runD, retFn, e2]
  cases ex with
  | normal =>
   obtain ⟨e0, w, e1, e2⟩ := g2
   exact ⟨w, m', hd _ _ _ e0 e1, e2⟩
  | ret =>
   obtain ⟨e0, w, e1, e2⟩ := g2
   exact ⟨w, m', hd _ _ _ e0 e1, e2⟩
  | _ => exact absurd g2 (by simp [End])
 obtain ⟨w, m2, e1, e2⟩ := key
 exact ⟨k + 1, w, m2, e1, e2⟩
section
variable {X : Cx} {ops : Array Oper} {e : Env} {h : Hp} {Q : Out → Prop} {o : Oper} {rest : List Oper} {t : Tmp}
theorem Ie.callc {α : Type} {fo : Operand} {as : Array Operand} {ats : Array TypeId} {vs first cap : List Value} {g : FuncId} {l r : Hp} (A : α → Prop) (V : α → Value) (H : α → Hp) (hp : Pick h l r) (hd : o.dst = some t) (ht : Nat.blt t X.n = true) (hg : wantE ops e o = some true) (ho : o.op = .call { callee := .value fo, args := as, argTypes := ats }) (ha : evsE X.P e as.toList = some vs) (hf : evE X.P e fo = some (.func (.func g) ⟨first⟩ ⟨cap⟩))
  (hc : ∀ m, Knows X.S X.m0 m (l ++ r) → Knows (l.map Prod.fst) m m l → Fc X.P g (first ++ vs ++ cap) m fun v m' => ∃ x, A x ∧ v = V x ∧ Knows (l.map Prod.fst) m m' (H x)) (q : ∀ x, A x → Ie X ops ((t, V x) :: e) (H x ++ r) rest Q) : Ie X ops e h (o :: rest) Q :=
 Ie.callx A V (fun x => H x ++ r) hd ht hg ho ha hf (fun m hm => by
  have h1 := hm.perm hp.perm
  exact (hc m h1 (h1.sub (List.sublist_append_left _ _)).self).mono fun v m' ⟨x, e1, e2, e3⟩ => ⟨x, e1, e2, h1.step e3⟩) q
def Yc (P : Program) (l : Nat) (args : List Value) (m : AW) (Q : Value → AW → Prop) : Prop := ∃ k v m', irun P k noFr (.yield l args) m = some ⟨.ret, .lf, v, m'⟩ ∧ Q v m'
def Iterates (P : Program) (g : FuncId) (first cap : List Value) (vs : List (List Value)) (D : Nat → Prop) (m : AW) : Prop :=
 ∀ (α : Type) (l : Nat) (C : List Nat) (A : Nat → α → Prop) (B : α → Prop) (H : α → Hp) (x0 : α),
  (∀ x, (H x).map Prod.fst = C) → (∀ b, D b → b ∉ C) → A 0 x0 → Knows C m m (H x0) →
  (∀ i x v, vs[i]? = some v → A i x → ∀ m', Knows C m m' (H x) → Yc P l v m' fun r m'' => ∃ x', Knows C m' m'' (H x') ∧ (r = .bool true ∧ A (i + 1) x' ∨ r = .bool false ∧ B x')) →
  Fc P g (first ++ [.func (.yield l) ⟨[]⟩ ⟨[]⟩] ++ cap) m fun _ m' => ∃ x', Knows C m m' (H x') ∧ (A vs.length x' ∨ B x')
theorem Ie.yield {α : Type} {fo : Operand} {as : Array Operand} {ats : Array TypeId} {vs : List Value} {j : Nat} {l r : Hp} (A : α → Prop) (V : α → Value) (H : α → Hp) (hp : Pick h l r) (hd : o.dst = some t) (ht : Nat.blt t X.n = true) (hg : wantE ops e o = some true) (ho : o.op = .call { callee := .value fo, args := as, argTypes := ats }) (ha : evsE X.P e as.toList = some vs) (hf : evE X.P e fo = some (.func (.yield j) ⟨[]⟩ ⟨[]⟩))
  (hc : ∀ m, Knows X.S X.m0 m (l ++ r) → Yc X.P j vs m fun v m' => ∃ x, A x ∧ v = V x ∧ Knows (l.map Prod.fst) m m' (H x)) (q : ∀ x, A x → Ie X ops ((t, V x) :: e) (H x ++ r) rest Q) : Ie X ops e h (o :: rest) Q := fun ts m h1 h2 => by
 have h3 := h2.perm hp.perm
 obtain ⟨k, v, m', g1, x, hA, rfl, hk⟩ := hc m h3
 refine Io.op (k := k) (m' := m') (v := V x) (wantE_spec h1 hg) (by rw [ho]; rfl) ?_ ?_
 ·rw [ho, doOp_h rfl]
  simp only [opH, callH, evsE_evs h1 ha, evE_ev h1 hf, callV, g1]
 rw [hd]
 exact q x hA _ m' (h1.put ht _) (h3.step hk)
theorem Ie.yieldI {α : Type} {fo : Operand} {as : Array Operand} {ats : Array TypeId} {l : Nat} {C : List Nat} {A : Nat → α → Prop} {B : α → Prop} {H : α → Hp} {vs : List (List Value)} {m1 : AW} (hstep : ∀ i x v, vs[i]? = some v → A i x → ∀ m', Knows C m1 m' (H x) → Yc X.P l v m' fun r m'' => ∃ x', Knows C m' m'' (H x') ∧ (r = .bool true ∧ A (i + 1) x' ∨ r = .bool false ∧ B x')) (hS : X.S = C) (hm1 : X.m0 = m1) (hK : ∀ x, (H x).map Prod.fst = C) {i : Nat} {x : α} {v : List Value} {r : Hp} (hv : vs[i]? = some v) (hA : A i x) (hp : Pick h (H x) r) (hd : o.dst = some t) (ht : Nat.blt t X.n = true) (hg : wantE ops e o = some true) (ho : o.op = .call { callee := .value fo, args := as, argTypes := ats }) (ha : evsE X.P e as.toList = some v) (hf : evE X.P e fo = some (.func (.yield l) ⟨[]⟩ ⟨[]⟩))
  (q1 : ∀ x', A (i + 1) x' → Ie X ops ((t, .bool true) :: e) (H x' ++ r) rest Q) (q2 : ∀ x', B x' → Ie X ops ((t, .bool false) :: e) (H x' ++ r) rest Q) : Ie X ops e h (o :: rest) Q := by
 subst hS hm1
 refine Ie.yield (α := Bool × α) (fun y => y.1 = true ∧ A (i + 1) y.2 ∨ y.1 = false ∧ B y.2) (fun y => .bool y.1) (fun y => H y.2) hp hd ht hg ho ha hf (fun m hm => ?_) ?_
 ·obtain ⟨k, w, m', g1, x', g2, g3⟩ := hstep i x v hv hA m (hm.sub (List.sublist_append_left _ _))
  rcases g3 with ⟨rfl, g3⟩ | ⟨rfl, g3⟩
  ·exact ⟨k, _, m', g1, (true, x'), .inl ⟨rfl, g3⟩, rfl, by rw [hK x]; exact g2⟩
  exact ⟨k, _, m', g1, (false, x'), .inr ⟨rfl, g3⟩, rfl, by rw [hK x]; exact g2⟩
 rintro ⟨b, x'⟩ (⟨rfl, hA'⟩ | ⟨rfl, hB'⟩)
 ·exact q1 x' hA'
 exact q2 x' hB'
end
def Asg (X : Cx) (l : Nat) (ready busy : AObj) (body : Code) (Q : Out → Prop) : Out → Prop
 | ⟨.normal, ts, _, m⟩ => m.heap.get l = some ready ∧ Ru X.P ⟨X.f, X.n, ts, some l⟩ (.code body) (m.set l (some busy)) Q
 | _ => False
def Rnd {α : Type} (X : Cx) (l : Nat) (busy : AObj) (H : α → Hp) (A R : α → Prop) : Out → Prop
 | ⟨.normal, _, _, m⟩ => ∃ x, A x ∧ Knows X.S X.m0 m ((l, busy) :: H x)
 | ⟨.ret, _, _, m⟩ => ∃ x, R x ∧ Knows X.S X.m0 m ((l, busy) :: H x)
 | _ => False
section
variable {X : Cx} {e : Env} {h : Hp} {Q : Out → Prop}
theorem Ne.asg {l : Nat} {ready busy : AObj} {body : Code} (hr : X.r = some l) (q : Ce X e ((l, busy) :: h) body Q) : Ne X e ((l, ready) :: h) (Asg X l ready busy body Q) := fun ts m h1 h2 => by
 refine ⟨(h2.has l ready List.mem_cons_self).1, ?_⟩
 have := q ts (m.set l (some busy)) h1 (h2.set .head)
 rw [hr] at this
 exact this
theorem Ne.rnd {α : Type} {l : Nat} {busy : AObj} {H : α → Hp} {A R : α → Prop} (x : α) (hA : A x) (hs : ((l, busy) :: H x).Sublist h) : Ne X e h (Rnd X l busy H A R) := fun _ _ _ h2 => ⟨x, hA, h2.sub hs⟩
theorem Re.rnd {α : Type} {l : Nat} {busy : AObj} {H : α → Hp} {A R : α → Prop} (x : α) (hA : R x) (hs : ((l, busy) :: H x).Sublist h) : Re X e h (Rnd X l busy H A R) := fun _ _ _ h2 => ⟨x, hA, h2.sub hs⟩
def parE : List (Tmp × Value) → Env → Env
 | [], e => e
 | (t, v) :: l, e => parE l ((t, v) :: e)
theorem Has.par {n : Nat} : ∀ {l : List (Tmp × Value)} {ts : Tr Value} {e : Env}, Has n ts e → (l.all fun x => Nat.blt x.1 n) = true → Has n (l.foldl (fun ts x => Ab.put n ts (some x.1) x.2) ts) (parE l e)
 | [], _, _, h, _ => h
 | (t, v) :: l, ts, e, h, hl => by
  simp only [List.all_cons, Bool.and_eq_true] at hl
  exact Has.par (l := l) (h.put hl.1 v) hl.2
theorem Ce.rangeFunc {α : Type} {fo : Operand} {ps : Array Tmp} {assign body : Code} {g : FuncId} {first cap : List Value} {vs : List (List Value)} {K : List Nat} (A : Nat → α → Prop) (R : α → Prop) (H : α → Hp) (x0 : α) (hr : X.r = none) (hf : evE X.P e fo = some (.func (.func g) ⟨first⟩ ⟨cap⟩)) (hK : ∀ x, (H x).map Prod.fst = K) (h0 : A 0 x0) (hs : (H x0).Sublist h) (hps : ∀ v, v ∈ vs → v.length = ps.size ∧ ((ps.toList.zip v).all fun x => Nat.blt x.1 X.n) = true)
  (D : Nat → Prop) (hit : ∀ m, Knows X.S X.m0 m h → Iterates X.P g first cap vs D m ∧ ∀ b, D b → b < m.next ∧ b ∉ K)
  (step : ∀ i x v, vs[i]? = some v → A i x → ∀ l m' ready busy, X.m0.next ≤ l → Knows X.S X.m0 m' ((l, ready) :: H x) → Ce { X with m0 := m', S := l :: K, r := some l } (parE (ps.toList.zip v) e) ((l, ready) :: H x) assign (Asg { X with m0 := m', S := l :: K, r := some l } l ready busy body (Rnd { X with m0 := m', S := l :: K, r := some l } l busy H (A (i + 1)) R)))
  (qn : ∀ x, A vs.length x → Ne X e (H x) Q) (qr : ∀ x, R x → Re X e (H x) Q) : Ce X e h (.rangeFunc fo ps assign body) Q := fun ts m h1 h2 => by
 -- the two blocks of the loop
 let rd : AObj := .loop .ready none X.f X.n ts ps.toList assign body m.next
 let bz : AObj := .loop .busy none X.f X.n ts ps.toList assign body m.next
 let fin : AObj := .loop .done (some .ret) X.f X.n ts ps.toList assign body m.next
 let l := m.next + 1
 let m2 : AW := (m.new .deferred).new rd
 have hX2 : Knows X.S X.m0 m2 ((l, rd) :: (m.next, .deferred) :: h) := (h2.new .deferred).new rd
 have hsub : Knows X.S X.m0 m2 ((l, rd) :: H x0) := hX2.sub (.cons_cons _ (.cons _ hs))
 have hKR : Knows X.S X.m0 m2 h := hX2.sub (.cons _ (.cons _ (.refl _)))
 have hkeys : ((l, rd) :: H x0).map Prod.fst = l :: K := by simp [hK]
 have hk0 : Knows (l :: K) m2 m2 ((l, rd) :: H x0) := by
  have := hsub.self
  rw [hkeys] at this
  exact this
 have hDl : ∀ b, D b → b ∉ l :: K := fun b hb => by
  obtain ⟨e1, e2⟩ := (hit m h2).2 b hb
  intro h
  rcases List.mem_cons.1 h with rfl | h
  ·exact absurd e1 (by show ¬ (m.next + 1 < m.next); omega)
  exact e2 h
 have hiter := (hit m2 hKR).1 (α × Bool) l (l :: K) (fun i x => A i x.1 ∧ x.2 = true) (fun x => R x.1 ∧ x.2 = false) (fun x => (l, if x.2 then rd else fin) :: H x.1) (x0, true) (fun x => by simp [hK]) hDl ⟨h0, rfl⟩ (by simpa using hk0) ?_
 ·obtain ⟨k, v, m3, g1, x', g2, g3⟩ := hiter
  have hl3 := g2.has l (if x'.2 then rd else fin) List.mem_cons_self
  have hK3 : Knows X.S X.m0 m3 ((l, if x'.2 then rd else fin) :: H x'.1) := by
   have := Knows.step (r := []) (l := (l, rd) :: H x0) (l' := (l, if x'.2 then rd else fin) :: H x'.1) (by simpa using hsub) (by rw [hkeys]; exact g2)
   simpa using this
  have hst : ∀ out, endRF ⟨X.f, X.n, ts, X.r⟩ l m3 = some out → Q out → Ru X.P ⟨X.f, X.n, ts, X.r⟩ (.code (.rangeFunc fo ps assign body)) m Q := by
   intro out e1 e2
   refine Ru.step (k := k) ?_ e2
   show stRF X.P (irun X.P k) ⟨X.f, X.n, ts, X.r⟩ fo ps.toList assign body m = _
   unfold stRF
   simp only [evE_ev h1 hf, beginRF, hr]
   simp only [hr] at e1
   have : irun X.P k noFr (.fn g (first ++ [.func (.yield (m.next + 1)) ⟨[]⟩ ⟨[]⟩] ++ cap)) ((m.new .deferred).new (.loop .ready none X.f X.n ts ps.toList assign body m.next)) = some ⟨.ret, .lf, v, m3⟩ := g1
   simp only [this]
   exact e1
  rcases g3 with ⟨g3, g4⟩ | ⟨g3, g4⟩
  ·rw [g4] at hl3 hK3
   simp only [if_true] at hl3 hK3
   have e1 : endRF ⟨X.f, X.n, ts, X.r⟩ l m3 = some ⟨.normal, ts, undef, m3.set l (some (.loop .exhausted none X.f X.n ts ps.toList assign body m.next))⟩ := by
    unfold endRF
    simp only [hl3.1, rd]
   exact hst _ e1 (qn x'.1 g3 ts _ h1 ((hK3.set (o' := .loop .exhausted none X.f X.n ts ps.toList assign body m.next) .head).sub (.cons _ (.refl _))))
  rw [g4] at hl3 hK3
  simp only [Bool.false_eq_true, if_false] at hl3 hK3
  have e1 : endRF ⟨X.f, X.n, ts, X.r⟩ l m3 = some ⟨.ret, ts, undef, m3.set l (some (.loop .exhausted (some .ret) X.f X.n ts ps.toList assign body m.next))⟩ := by
   unfold endRF
   simp only [hl3.1, fin]
  exact hst _ e1 (qr x'.1 g3 ts _ h1 ((hK3.set (o' := .loop .exhausted (some .ret) X.f X.n ts ps.toList assign body m.next) .head).sub (.cons _ (.refl _))))
 rintro i ⟨x, b⟩ v hv ⟨hA, hb⟩ m' hm'
 simp only at hA hb hm'
 subst hb
 simp only [if_true] at hm'
 have hXm' : Knows X.S X.m0 m' ((l, rd) :: H x) := by
  have := Knows.step (r := []) (l := (l, rd) :: H x0) (l' := (l, rd) :: H x) (by simpa using hsub) (by rw [hkeys]; exact hm')
  simpa using this
 have hself : Knows (l :: K) m' m' ((l, rd) :: H x) := by
  have := hXm'.self
  rw [show ((l, rd) :: H x).map Prod.fst = l :: K by simp [hK]] at this
  exact this
 obtain ⟨hp1, hp2⟩ := hps v (List.mem_of_getElem? hv)
 have hln : X.m0.next ≤ l := Nat.le_succ_of_le h2.next
 obtain ⟨k1, ⟨ex, ts1, v1, m1⟩, a1, a2⟩ := step i x v hv hA l m' rd bz hln hXm' _ m' (h1.par hp2) hself
 cases ex with
 | normal =>
  obtain ⟨b1, k2, ⟨ex2, ts2, v2, m4⟩, c1, c2⟩ := a2
  have hy : ∀ (r : Value) (m5 : AW), endRound X.P X.f l (some ⟨ex2, ts2, v2, m4⟩) = some ⟨.ret, .lf, r, m5⟩ → irun X.P (k1 + k2 + 1) noFr (.yield l v) m' = some ⟨.ret, .lf, r, m5⟩ := by
   intro r m5 hend
   show stYield X.P (irun X.P (k1 + k2)) l v m' = _
   unfold stYield
   have hrd := (hm'.has l rd List.mem_cons_self).1
   simp only [hrd, rd]
   have hlen : Nat.beq v.length ps.toList.length = true := by rw [nbeq]; simp [hp1]
   rw [hlen]
   have e1 := irun_le (P := X.P) (Nat.le_add_right k1 k2) _ _ _ _ a1
   simp only [cond_true] at e1 ⊢
   rw [e1]
   simp only
   unfold stBody
   simp only [b1, rd]
   have e2 := irun_le (P := X.P) (Nat.le_add_left k2 k1) _ _ _ _ c1
   simp only [bz] at e2
   rw [e2]
   exact hend
  cases ex2 with
  | normal =>
   obtain ⟨x', d1, d2⟩ := c2
   have hb4 := (d2.has l bz List.mem_cons_self).1
   refine ⟨k1 + k2 + 1, .bool true, m4.set l (some rd), hy _ _ ?_, (x', true), ?_, .inl ⟨rfl, d1, rfl⟩⟩
   ·show outOf (.bool true) (setLoop m4 l .ready none) = _
    unfold setLoop
    simp only [hb4, bz]
    rfl
   simp only [if_true]
   exact d2.set .head
  | ret =>
   obtain ⟨x', d1, d2⟩ := c2
   have hb4 := (d2.has l bz List.mem_cons_self).1
   refine ⟨k1 + k2 + 1, .bool false, m4.set l (some fin), hy _ _ ?_, (x', false), ?_, .inr ⟨rfl, d1, rfl⟩⟩
   ·show outOf (.bool false) (setLoop m4 l .done (some .ret)) = _
    unfold setLoop
    simp only [hb4, bz]
    rfl
   simp only [Bool.false_eq_true, if_false]
   exact d2.set .head
  | _ => exact absurd c2 (by simp [Rnd])
 | _ => exact absurd a2 (by simp [Asg])
end
end Go.Ab
namespace Go.Ab
variable [Vals]
theorem nrm_lt (a b : Int) : (ltI a b = true) = (a < b) := by rw [ltI_eq, decide_eq_true_eq]
theorem nrm_nlt (a b : Int) : (ltI a b = false) = (b ≤ a) := by rw [ltI_eq, decide_eq_false_iff_not, Int.not_lt]
theorem nrm_eq (a b : Int) : (eqI a b = true) = (a = b) := by rw [eqI_eq, decide_eq_true_eq]
theorem nrm_neq (a b : Int) : (eqI a b = false) = (a ≠ b) := by rw [eqI_eq, decide_eq_false_iff_not]
theorem bytes_ext {a b : ByteArray} (h : a.data.toList = b.data.toList) : a = b := by
 cases a with | mk a => cases b with | mk b =>
  cases a with | mk a => cases b with | mk b => cases h; rfl
theorem nrm_seq (a b : ByteArray) : (eqBytes a.data.toList b.data.toList = true) = (a = b) := by
 rw [eqBytes_eq, decide_eq_true_eq]
 exact propext ⟨bytes_ext, fun h => by rw [h]⟩
theorem nrm_sneq (a b : ByteArray) : (eqBytes a.data.toList b.data.toList = false) = (a ≠ b) := by
 rw [eqBytes_eq, decide_eq_false_iff_not]
 exact propext ⟨fun h e => h (by rw [e]), fun h e => h (bytes_ext e)⟩
theorem nrm_sempty (a : ByteArray) : (eqBytes a.data.toList [] = true) = (a.size = 0) := by
 rw [eqBytes_eq, decide_eq_true_eq]
 cases a with | mk a => cases a with | mk a =>
  show (a = []) = (a.length = 0)
  rw [List.length_eq_zero_iff]
theorem nrm_snempty (a : ByteArray) : (eqBytes a.data.toList [] = false) = (a.size ≠ 0) := by
 rw [eqBytes_eq, decide_eq_false_iff_not]
 cases a with | mk a => cases a with | mk a =>
  show (¬ a = []) = (a.length ≠ 0)
  exact propext (not_congr List.length_eq_zero_iff.symm)
theorem nrm_ofNat (n : Nat) : Int.ofNat n = (n : Int) := rfl
theorem size_eq (a : ByteArray) : a.data.toList.length = a.size := by
 cases a with | mk a => cases a with | mk a => rfl
section
variable {X : Cx} {e : Env} {h : Hp} {Q : Out → Prop} {a b : Code}
def JnQ (X : Cx) (F : Prop) (e : Env) (h : Hp) (Q : Out → Prop) : Out → Prop
 | ⟨.normal, ts, _, m⟩ => F ∧ Has X.n ts e ∧ Knows X.S X.m0 m h
 | o => Q o
theorem Ce.join (F : Prop) (e' : Env) (h' : Hp) (q1 : Ce X e h a (JnQ X F e' h' Q)) (q2 : F → Ce X e' h' b Q) : Ce X e h (.seq a b) Q := Ce.seq fun ts m h1 h2 => (q1 ts m h1 h2).mono fun o ho => by
 obtain ⟨ex, ts1, v1, m1⟩ := o
 cases ex with
 | normal => exact q2 ho.1 ts1 m1 ho.2.1 ho.2.2
 | _ => exact ho
theorem Re.jn (q : Re X e h Q) : Re X e h (JnQ X F e' h' Q) := q
theorem Xe.jn (q : Xe X e h i Q) : Xe X e h i (JnQ X F e' h' Q) := q
theorem Ne.as (u : Nat) (w' : Value) (hl : look e u = some w) (hw : w = w') (q : Ne X ((u, w') :: e) h Q) : Ne X e h Q := fun ts m h1 h2 => q ts m (has_as u hl hw h1) h2
def SubX : List Nat → Env → Env → Prop
 | _, [], _ => True
 | seen, (t, v) :: e', e => bif seen.any (Nat.beq t) then SubX seen e' e else (look e t = some v ∧ SubX (t :: seen) e' e)
theorem SubX.look {e : Env} : ∀ {e' : Env} {seen : List Nat}, SubX seen e' e → ∀ t v, seen.any (Nat.beq t) = false → look e' t = some v → look e t = some v
 | [], _, _, _, _, _, hl => by cases hl
 | (u, w) :: e', seen, hs, t, v, hn, hl => by
  unfold SubX at hs
  unfold Ab.look at hl
  cases hb : Nat.beq u t with
  | true =>
   rw [hb] at hl
   cases hl
   rw [nbeq, decide_eq_true_eq] at hb
   subst hb
   rw [hn] at hs
   exact hs.1
  | false =>
   rw [hb] at hl
   cases hx : seen.any (Nat.beq u) with
   | true =>
    rw [hx] at hs
    exact SubX.look hs t v hn hl
   | false =>
    rw [hx] at hs
    refine SubX.look hs.2 t v ?_ hl
    rw [List.any_cons, hn, Bool.or_false]
    rw [nbeq, decide_eq_false_iff_not] at hb ⊢
    exact fun e => hb e.symm
theorem Has.subX (h : Has n ts e) (hs : SubX [] e' e) : Has n ts e' := ⟨h.few, h.defs, fun t v hl => h.at_ t v (hs.look t v rfl hl)⟩
theorem Ce.joinA (F : Prop) (l : Env) (q1 : Ce X e h a (JnQ X F (l ++ e) h Q)) (q2 : F → Ce X (l ++ e) h b Q) : Ce X e h (.seq a b) Q := Ce.join F _ _ q1 q2
theorem Ne.jnx (hF : F) (he : SubX [] e' e) (hh : h'.Sublist h) : Ne X e h (JnQ X F e' h' Q) := fun _ _ h1 h2 => ⟨hF, h1.subX he, h2.sub hh⟩
theorem Ce.as (u : Nat) (w' : Value) (hl : look e u = some w) (hw : w = w') (q : Ce X ((u, w') :: e) h c Q) : Ce X e h c Q := fun ts m h1 h2 => q ts m (has_as u hl hw h1) h2
variable {ops : Array Oper} {o : Oper} {rest : List Oper} {t : Tmp}
theorem indexA_str (hu : P.underlying ty = some .string) (hc : s.data.toList[j]? = some c) : indexA P ty (.string s) (.int k (Int.ofNat j)) = some (.int .u8 (Int.ofNat c.toNat)) := by
 unfold indexA
 simp only [asInt?, hu, hc, Option.map_some]
theorem Ie.indexStr (hd : o.dst = some t) (ht : Nat.blt t X.n = true) (hg : wantE ops e o = some true) (ho : o.op = .index ty x i) (hu : X.P.underlying ty = some .string) (hx : evE X.P e x = some (.string s)) (hi : evE X.P e i = some (.int k (Int.ofNat j))) (hc : s.data.toList[j]? = some c) (q : Ie X ops ((t, .int .u8 (Int.ofNat c.toNat)) :: e) h rest Q) : Ie X ops e h (o :: rest) Q :=
 Ie.p hd ht hg (by rw [ho]; simp only [opE, hx, hi]; exact indexA_str hu hc) q
theorem Ie.toBytes (hy : y.size ≤ 4294967296) (hd : o.dst = some t) (ht : Nat.blt t X.n = true) (hg : wantE ops e o = some true) (ho : o.op = .convert s d x) (hcl : cls X.P (.convert s d x) = .a) (hs : X.P.underlying s = some .string) (hd' : X.P.underlying d = some (.slice el)) (he : X.P.underlying el = some (.int .u8)) (hz : sizeT X.P el = some 1) (hx : evE X.P e x = some (.string y)) (q : ∀ b, X.m0.next ≤ b → Ie X ops ((t, .slice (some ⟨b, 0, none⟩) y.size top) :: e) ((b, .cells (y.data.toList.map fun b => .int .u8 (Int.ofNat b.toNat)) el true .strish none) :: h) rest Q) : Ie X ops e h (o :: rest) Q :=
 Ie.made (fv := sliceTo y.size top) hd ht hg (by rw [ho]; rfl) (by rw [ho]; exact hcl) (fun ts H => by
  rw [ho]
  show (ev X.P ts x).bind (strBytes X.P s d) = _
  rw [evE_ev H hx]
  show strBytes X.P s d (.string y) = _
  unfold strBytes
  have : Nat.ble y.size 4294967296 = true := by rw [nble]; simpa using hy
  simp only [hs, hd', he, hz, this, cond_true]) q
end
end Go.Ab
namespace Go.Ab
variable [Vals]
abbrev Kn := Nat → AObj → Prop
def Mem (m : AW) : Kn := fun b o => b < m.next ∧ m.heap.get b = some o
def InH (h : Hp) : Kn := fun b o => (b, o) ∈ h
def MemD (D : Nat → Prop) (m : AW) : Kn := fun b o => D b ∧ b < m.next ∧ m.heap.get b = some o
theorem Mem.ext (h : Ext m m') : ∀ b o, Mem m b o → Mem m' b o := fun b _ ⟨h1, h2⟩ => ⟨Nat.lt_of_lt_of_le h1 h.next, (h.keep b h1).trans h2⟩
theorem Mem.kr (k : KR [] m m' h) : ∀ b o, Mem m b o → Mem m' b o := fun b _ ⟨h1, h2⟩ => ⟨Nat.lt_of_lt_of_le h1 k.next, (k.keep b h1 (by simp)).trans h2⟩
theorem InH.kr (k : KR S m m' h) (hs : ∀ p, p ∈ l → p ∈ h) : ∀ b o, InH l b o → Mem m' b o := fun b o hb => ⟨(k.has b o (hs _ hb)).2, (k.has b o (hs _ hb)).1⟩
theorem InH.sees (hs : ∀ p, p ∈ l → p ∈ h) : ∀ b o, InH l b o → Sees X h b o := fun b o hb _ k => (k.has b o (hs _ hb)).1
theorem Sees.app (s : Sees X h b o) : Sees X (l ++ h) b o := fun m k => s m (k.sub (List.sublist_append_right _ _))
theorem Mem.sees (hm : X.m0 = m) (hS : X.S = []) : ∀ b o, Mem m b o → Sees X h b o := fun _ _ ⟨h1, h2⟩ => Sees.base (by rw [hm]; exact h2) (by rw [hm]; exact h1) (by rw [hS]; simp)
theorem rf_base {K : List Nat} (k : Knows [] m m1 ((bt, o) :: h)) (hs : ∀ b, b ∈ K → b ∈ h.map Prod.fst) : ∀ b, (b = bt ∨ b < m.next) → b < m1.next ∧ b ∉ K := by
 have hap := k.apart
 simp only [List.map_cons, List.nodup_cons] at hap
 intro b hb
 rcases hb with rfl | hb
 ·exact ⟨(k.has b o List.mem_cons_self).2.1, fun h => hap.1 (hs _ h)⟩
 refine ⟨Nat.lt_of_lt_of_le hb k.next, fun hK => ?_⟩
 obtain ⟨⟨c, o'⟩, h1, rfl⟩ := List.mem_map.1 (hs _ hK)
 rcases (k.has c o' (List.mem_cons_of_mem _ h1)).2.2 with h2 | h2
 ·simp only at hb
  omega
 cases h2
theorem rf_mem (k : Knows [] m m1 h) : ∀ b o, Mem m b o → MemD (fun b => b = bt ∨ b < m.next) m1 b o := fun b o ⟨h1, h2⟩ => ⟨.inr h1, Nat.lt_of_lt_of_le h1 k.next, (k.keep b h1 (by simp)).trans h2⟩
theorem rf_new (k : Knows [] m m1 ((bt, o) :: h)) : MemD (fun b => b = bt ∨ b < m.next) m1 bt o := ⟨.inl rfl, (k.has bt o List.mem_cons_self).2.1, (k.has bt o List.mem_cons_self).1⟩
theorem Mem.kr2 (k : Knows [] m m1 h1) (k2 : KR S m1 m2 h2) (hS : ∀ b, b ∈ S → b ∈ h1.map Prod.fst) : ∀ b o, Mem m b o → Mem m2 b o := fun b o ⟨e1, e2⟩ => by
 have hlt := Nat.lt_of_lt_of_le e1 k.next
 refine ⟨Nat.lt_of_lt_of_le hlt k2.next, (k2.keep b hlt fun hb => ?_).trans ((k.keep b e1 (by simp)).trans e2)⟩
 obtain ⟨⟨c, o'⟩, g1, rfl⟩ := List.mem_map.1 (hS b hb)
 rcases (k.has c o' g1).2.2 with h | h
 ·simp only at e1
  omega
 cases h
def Off (S : List Nat) (m : AW) : Kn := fun b o => b < m.next ∧ b ∉ S ∧ m.heap.get b = some o
theorem Off.sees (hm : X.m0 = m) (hS : X.S = S) : ∀ b o, Off S m b o → Sees X h b o := fun _ _ ⟨h1, h2, h3⟩ => Sees.base (by rw [hm]; exact h3) (by rw [hm]; exact h1) (by rw [hS]; exact h2)
theorem Off.kr (k : KR S m m' h) : ∀ b o, Off S m b o → Off S m' b o := fun b _ ⟨h1, h2, h3⟩ => ⟨Nat.lt_of_lt_of_le h1 k.next, h2, (k.keep b h1 h2).trans h3⟩
theorem Off.mem : ∀ b o, Off S m b o → Mem m b o := fun _ _ ⟨h1, _, h3⟩ => ⟨h1, h3⟩
theorem rf_baseS {K : List Nat} (k : Knows S m m1 ((bt, o) :: h)) (hs : ∀ b, b ∈ K → b ∈ h.map Prod.fst) : ∀ b, (b = bt ∨ b < m.next ∧ b ∉ S) → b < m1.next ∧ b ∉ K := by
 have hap := k.apart
 simp only [List.map_cons, List.nodup_cons] at hap
 intro b hb
 rcases hb with rfl | ⟨hb, hbS⟩
 ·exact ⟨(k.has b o List.mem_cons_self).2.1, fun h => hap.1 (hs _ h)⟩
 refine ⟨Nat.lt_of_lt_of_le hb k.next, fun hK => ?_⟩
 obtain ⟨⟨c, o'⟩, h1, rfl⟩ := List.mem_map.1 (hs _ hK)
 rcases (k.has c o' (List.mem_cons_of_mem _ h1)).2.2 with h2 | h2
 ·simp only at hb
  omega
 exact hbS h2
theorem rf_memS (k : Knows S m m1 h) : ∀ b o, Off S m b o → MemD (fun b => b = bt ∨ b < m.next ∧ b ∉ S) m1 b o := fun b o ⟨h1, h2, h3⟩ => ⟨.inr ⟨h1, h2⟩, Nat.lt_of_lt_of_le h1 k.next, (k.keep b h1 h2).trans h3⟩
theorem rf_newS (k : Knows S m m1 ((bt, o) :: h)) : MemD (fun b => b = bt ∨ b < m.next ∧ b ∉ S) m1 bt o := ⟨.inl rfl, (k.has bt o List.mem_cons_self).2.1, (k.has bt o List.mem_cons_self).1⟩
theorem Off.kr2 (k : Knows S m m1 h1) (k2 : KR S2 m1 m2 h2) (hS : ∀ b, b ∈ S2 → b ∈ h1.map Prod.fst) : ∀ b o, Off S m b o → Off S m2 b o := fun b o ⟨e1, e2, e3⟩ => by
 have hlt := Nat.lt_of_lt_of_le e1 k.next
 refine ⟨Nat.lt_of_lt_of_le hlt k2.next, e2, (k2.keep b hlt fun hb => ?_).trans ((k.keep b e1 e2).trans e3)⟩
 obtain ⟨⟨c, o'⟩, g1, rfl⟩ := List.mem_map.1 (hS b hb)
 rcases (k.has c o' g1).2.2 with h | h
 ·simp only at e1
  omega
 exact e2 h
def Sl {α : Type} (K : Kn) (sz : Nat) (R : α → List Value → Prop) (l : List α) (v : Value) : Prop :=
 ∃ a cap, v = .slice a l.length cap ∧ (l.length ≤ 9223372036854775807 ∧ l.length ≤ cap) ∧ (l = [] ∧ (a = none ∨ ∃ b off, a = some ⟨b, off, none⟩) ∨ ∃ b off cs el g md mate, a = some ⟨b, off, none⟩ ∧ K b (.cells cs el g md mate) ∧ off + l.length * sz ≤ cs.length ∧ ∀ i x, l[i]? = some x → R x ((cs.drop (off + i * sz)).take sz))
theorem Sl.mono (h : Sl K sz R l v) (k : ∀ b o, K b o → K' b o) (hR : ∀ x cs, R x cs → R' x cs) : Sl K' sz R' l v := by
 obtain ⟨a, cap, rfl, hn, hl⟩ := h
 refine ⟨a, cap, rfl, hn, ?_⟩
 rcases hl with hl | ⟨b, off, cs, el, g, md, mate, rfl, hb, hle, hc⟩
 ·exact .inl hl
 exact .inr ⟨b, off, cs, el, g, md, mate, rfl, k _ _ hb, hle, fun i x hx => hR _ _ (hc i x hx)⟩
theorem cell_of_take {cs l : List Value} (h : (cs.drop o).take n = l) (hk : l[k]? = some v) : cs[o + k]? = some v := by
 rw [← h, List.getElem?_take] at hk
 split at hk
 ·rw [List.getElem?_drop] at hk
  exact hk
 cases hk
def Flat {α : Type} (sz : Nat) (R : α → List Value → Prop) (l : List α) (vs : List Value) : Prop := vs.length = l.length * sz ∧ ∀ i x, l[i]? = some x → R x ((vs.drop (i * sz)).take sz)
theorem Flat.nil : Flat sz R [] [] := ⟨by simp, fun i x h => by simp at h⟩
theorem Flat.one (h : R x vs) (hl : vs.length = sz) : Flat sz R [x] vs := ⟨by simp [hl], fun i y hy => by
 cases i with
 | zero =>
  simp only [List.getElem?_cons_zero, Option.some.injEq] at hy
  subst hy
  rw [Nat.zero_mul, List.drop_zero, ← hl, List.take_length]
  exact h
 | succ i => simp at hy⟩
theorem Flat.append (h : Flat sz R l vs) (h' : Flat sz R l' vs') : Flat sz R (l ++ l') (vs ++ vs') := by
 refine ⟨by rw [List.length_append, List.length_append, h.1, h'.1, Nat.add_mul], fun i x hx => ?_⟩
 by_cases hi : i < l.length
 ·rw [List.getElem?_append_left hi] at hx
  have h1 := h.2 i x hx
  have h2 : (i + 1) * sz ≤ l.length * sz := Nat.mul_le_mul_right _ hi
  rw [Nat.add_mul, Nat.one_mul] at h2
  rw [List.drop_append_of_le_length (by rw [h.1]; omega), List.take_append_of_le_length (by rw [List.length_drop, h.1]; omega)]
  exact h1
 rw [List.getElem?_append_right (by omega)] at hx
 have h1 := h'.2 _ x hx
 have h2 : i * sz = vs.length + (i - l.length) * sz := by
  rw [h.1, ← Nat.add_mul]
  congr 1
  omega
 rw [h2, List.drop_append, List.drop_eq_nil_of_le (by omega), List.nil_append, show vs.length + (i - l.length) * sz - vs.length = (i - l.length) * sz by omega]
 exact h1
theorem Flat.flats (hs : 0 < sz) (hR : ∀ x cs, R x cs → flats cs = true) (h : Flat sz R l vs) : flats vs = true := by
 unfold Ab.flats
 rw [List.all_eq_true]
 intro v hv
 obtain ⟨p, hp⟩ := List.getElem?_of_mem hv
 have hlt : p < vs.length := (List.getElem?_eq_some_iff.1 hp).1
 have hi : p / sz < l.length := by
  rw [Nat.div_lt_iff_lt_mul hs, ← h.1]
  exact hlt
 have h1 := hR _ _ (h.2 (p / sz) _ (List.getElem?_eq_getElem hi))
 unfold Ab.flats at h1
 rw [List.all_eq_true] at h1
 refine h1 v (List.mem_of_getElem? (i := p % sz) ?_)
 rw [List.getElem?_take, if_pos (Nat.mod_lt _ hs), List.getElem?_drop, Nat.mul_comm, Nat.div_add_mod]
 exact hp
theorem Sl.shows (hs : 0 < sz) (hR : ∀ x cs, R x cs → flats cs = true) (hl : Sl K sz R l v) (hK : ∀ b o, K b o → Sees X h b o) : ∃ vs, Shows X h sz v l.length vs ∧ Flat sz R l vs := by
 obtain ⟨a, cap, rfl, hn, hl⟩ := hl
 rcases hl with ⟨rfl, ha⟩ | ⟨b, off, cs, el, g, md, mate, rfl, hb, hle, hc⟩
 ·exact ⟨[], Shows.nil ha, Flat.nil⟩
 have hF : Flat sz R l ((cs.drop off).take (l.length * sz)) := by
  refine ⟨by rw [List.length_take, List.length_drop]; omega, fun i x hx => ?_⟩
  have hi : i < l.length := (List.getElem?_eq_some_iff.1 hx).1
  have h1 := hc i x hx
  have h2 : (i + 1) * sz ≤ l.length * sz := Nat.mul_le_mul_right _ hi
  rw [Nat.add_mul, Nat.one_mul] at h2
  rw [List.drop_take, List.take_take, Nat.min_eq_left (by omega), List.drop_drop]
  exact h1
 exact ⟨_, Shows.slice (hK _ _ hb) hle rfl (hF.flats hs hR), hF⟩
theorem Gro.sl {R : α → List Value → Prop} {l : List α} {g : Gro} (hF : Flat sz R l cs) (hg : g.Ok l.length) (hn : l.length ≤ 9223372036854775807) : Sl (InH (g.H el cs)) sz R l (g.V l.length) := by
 cases g with
 | no =>
  have h0 : l.length = 0 := hg
  have : l = [] := List.eq_nil_of_length_eq_zero h0
  subst this
  exact ⟨none, 0, rfl, by simp, .inl ⟨rfl, .inl rfl⟩⟩
 | emp b =>
  have h0 : l.length = 0 := hg
  have : l = [] := List.eq_nil_of_length_eq_zero h0
  subst this
  exact ⟨some ⟨b, 0, none⟩, 0, rfl, by simp, .inl ⟨rfl, .inr ⟨b, 0, rfl⟩⟩⟩
 | one b => exact ⟨some ⟨b, 0, none⟩, top, rfl, ⟨hn, by unfold top; omega⟩, .inr ⟨b, 0, cs, el, true, .plain, none, rfl, List.mem_cons_self, by rw [hF.1]; omega, fun i x hx => by rw [Nat.zero_add]; exact hF.2 i x hx⟩⟩
 | two b b0 old => exact ⟨some ⟨b, 0, none⟩, top, rfl, ⟨hn, by unfold top; omega⟩, .inr ⟨b, 0, cs, el, true, .plain, some b0, rfl, List.mem_cons_self, by rw [hF.1]; omega, fun i x hx => by rw [Nat.zero_add]; exact hF.2 i x hx⟩⟩
theorem Sl.single (h : R x vs) (hl : vs.length = sz) (hc : 1 ≤ c := by decide) : Sl (InH [(b, .cells vs el g md mate)]) sz R [x] (.slice (some ⟨b, 0, none⟩) 1 c) :=
 ⟨some ⟨b, 0, none⟩, c, rfl, ⟨by simp, hc⟩, .inr ⟨b, 0, vs, el, g, md, mate, rfl, List.mem_cons_self, by simp [hl], fun i y hy => by
  have := (Flat.one h hl).2 i y hy
  rwa [Nat.zero_add]⟩⟩
def AppC (P : Program) (e : TypeId) (sz : Nat) : Bool := match sizeT P e, P.info? e with
 | some s, some i => Nat.beq s sz && (zeroFits P e sz && (Nat.ble i.bytes 1024 && (Nat.ble 1 i.bytes && Nat.ble 1 sz)))
 | _, _ => false
theorem AppT.of (h : AppC P e sz = true) : AppT P e sz := by
 unfold AppC at h
 split at h
 ·rename_i s i h1 h2
  rw [Bool.and_eq_true, nbeq, decide_eq_true_eq] at h
  obtain ⟨rfl, h3⟩ := h
  exact ⟨h1, i, h2, h3⟩
 cases h
section
variable {α : Type} {X : Cx} {ops : Array Oper} {base : Nat} {rI : List Nat} {cl : Bool} {mk : List (Nat × Nat)} {e : Env} {h : Hp} {Q : Out → Prop} {o : Oper} {i : Info} {rest : List Oper} {drest : List (Oper × Info)} {t : Tmp}
theorem Ie.appendSl {g : Gro} (hL : l0 ++ l = L) (hp : Pick h (g.H el cs) h1) (hF : Flat sz R l0 cs) (hg : g.Ok l0.length) (hl : Sl K sz R l xv) (hK : ∀ b o, K b o → Sees X h b o) (hR : ∀ x cs, R x cs → flats cs = true) (hn : l0.length + l.length ≤ 4294967296) (hd : o.dst = some t) (ht : Nat.blt t X.n = true) (hgd : wantE ops e o = some true) (ho : o.op = .call { callee := .builtin .append, args := #[s, x], argTypes := #[t1, t2] }) (hu1 : X.P.underlying t1 = some (.slice el)) (hu2 : X.P.underlying t2 = some (.slice e2)) (hT : AppC X.P el sz = true) (hs : evE X.P e s = some (g.V l0.length)) (hx : evE X.P e x = some xv)
  (q : ∀ (g' : Gro) (cs' : List Value), Flat sz R L cs' → g'.Ok L.length → Ie X ops ((t, g'.V L.length) :: e) (g'.H el cs' ++ h1) rest Q) : Ie X ops e h (o :: rest) Q := by
 subst hL
 have hA := AppT.of hT
 have hs0 : 0 < sz := by
  obtain ⟨_, i, _, hb⟩ := hA
  simp only [Bool.and_eq_true] at hb
  exact Nat.le_of_ble_eq_true hb.2.2.2
 obtain ⟨vs, hv, hf⟩ := hl.shows hs0 hR hK
 have hlen : (l0 ++ l).length = l0.length + l.length := List.length_append
 refine Ie.append hp.perm hx hv hg hF.1 hn hd ht hgd ho hu1 hu2 hA hs fun g' hg' => ?_
 rw [← hlen] at hg' ⊢
 exact q g' _ (hF.append hf) hg'
theorem De.appendSl {g : Gro} (hL : l0 ++ l = L) (hp : Pick h (g.H el cs) h1) (hF : Flat sz R l0 cs) (hg : g.Ok l0.length) (hl : Sl K sz R l xv) (hK : ∀ b o, K b o → Sees X h b o) (hR : ∀ x cs, R x cs → flats cs = true) (hn : l0.length + l.length ≤ 4294967296) (hi : i.cls = .h) (hok : i.hok = true) (hin : allIn i.pre (mk.map Prod.fst) = true) (hri : allIn i.pre rI = true) (hd : o.dst = some t) (ht : Nat.blt t X.n = true) (hgd : wantE ops e o = some true) (ho : o.op = .call { callee := .builtin .append, args := #[s, x], argTypes := #[t1, t2] }) (hu1 : X.P.underlying t1 = some (.slice el)) (hu2 : X.P.underlying t2 = some (.slice e2)) (hT : AppC X.P el sz = true) (hs : evE X.P e s = some (g.V l0.length)) (hx : evE X.P e x = some xv)
  (q : ∀ (g' : Gro) (cs' : List Value), Flat sz R L cs' → g'.Ok L.length → De X ops base rI false mk ((t, g'.V L.length) :: e) (g'.H el cs' ++ h1) drest Q) : De X ops base rI cl mk e h ((o, i) :: drest) Q := by
 subst hL
 have hA := AppT.of hT
 have hs0 : 0 < sz := by
  obtain ⟨_, i, _, hb⟩ := hA
  simp only [Bool.and_eq_true] at hb
  exact Nat.le_of_ble_eq_true hb.2.2.2
 obtain ⟨vs, hv, hf⟩ := hl.shows hs0 hR hK
 have hlen : (l0 ++ l).length = l0.length + l.length := List.length_append
 refine De.append hp.perm hx hv hg hF.1 hn hi hok hin hri hd ht hgd ho hu1 hu2 hA hs fun g' hg' => ?_
 rw [← hlen] at hg' ⊢
 exact q g' _ (hF.append hf) hg'
theorem De.appendNewSl {g : Gro} (hne : g = .no ∨ ∃ b, g = .emp b) (hL : l0 ++ l = L) (hp : Pick h (g.H el cs) h1) (hF : Flat sz R l0 cs) (hg : g.Ok l0.length) (hl : Sl K sz R l xv) (hK : ∀ b o, K b o → Sees X h b o) (hR : ∀ x cs, R x cs → flats cs = true) (hn : l0.length + l.length ≤ 4294967296) (hi : i.cls = .h) (hok : i.hok = true) (hin : allIn i.pre (mk.map Prod.fst) = true) (hd : o.dst = some t) (ht : Nat.blt t X.n = true) (hgd : wantE ops e o = some true) (ho : o.op = .call { callee := .builtin .append, args := #[s, x], argTypes := #[t1, t2] }) (hu1 : X.P.underlying t1 = some (.slice el)) (hu2 : X.P.underlying t2 = some (.slice e2)) (hT : AppC X.P el sz = true) (hs : evE X.P e s = some (g.V l0.length)) (hx : evE X.P e x = some xv)
  (q : ∀ (g' : Gro) (cs' : List Value), Flat sz R L cs' → g'.Ok L.length → De X ops base rI cl mk ((t, g'.V L.length) :: e) (g'.H el cs' ++ h1) drest Q) : De X ops base rI cl mk e h ((o, i) :: drest) Q := by
 subst hL
 have hA := AppT.of hT
 have hs0 : 0 < sz := by
  obtain ⟨_, i, _, hb⟩ := hA
  simp only [Bool.and_eq_true] at hb
  exact Nat.le_of_ble_eq_true hb.2.2.2
 obtain ⟨vs, hv, hf⟩ := hl.shows hs0 hR hK
 have hlen : (l0 ++ l).length = l0.length + l.length := List.length_append
 refine De.appendNew hp.perm hx hv hg hF.1 hn hne hi hok hin hd ht hgd ho hu1 hu2 hA hs fun g' hg' => ?_
 rw [← hlen] at hg' ⊢
 exact q g' _ (hF.append hf) hg'
end
end Go.Ab
namespace Go.Ab
variable [Vals]
theorem putCells_set {v : Value} : ∀ (cs : List Value) (i : Nat), i < cs.length → putCells cs i [v] = cs.set i v
 | [], _, h => absurd h (Nat.not_lt_zero _)
 | c :: cs, 0, _ => by
  unfold putCells
  simp
 | c :: cs, i + 1, h => by
  unfold putCells
  rw [putCells_set cs i (by simpa using h)]
  rfl
section
variable {α : Type} {X : Cx} {ops : Array Oper} {e : Env} {h : Hp} {Q : Out → Prop} {o : Oper} {rest : List Oper} {t : Tmp}
theorem Ie.storeAt (hF : ∀ x, cellsOfV (F x) = [F x] ∧ flat (F x) = true) {st : List α} (hi : i < st.length) (hp : Pick h [(b, .cells (st.map F) el g md none)] r) (hmd : md.writes = true) (hd : o.dst = none) (hg : wantE ops e o = some true) (ho : o.op = .store ty a y) (hsz : sizeT X.P ty = some 1) (ha : evE X.P e a = some (.pointer (some ⟨b, 0 + i * 1, none⟩))) (hx : evE X.P e y = some (F x)) (q : Ie X ops e ((b, .cells ((st.set i x).map F) el g md none) :: r) rest Q) : Ie X ops e h (o :: rest) Q := by
 refine Ie.val_ (v := undef) ((b, .cells ((st.set i x).map F) el g md none) :: r) hd hg (by rw [ho]; rfl) (fun ts m h1 h2 => ⟨0, m.set b (some (.cells ((st.set i x).map F) el g md none)), ?_, (h2.perm hp.perm).set .head⟩) q
 rw [ho, doOp_h rfl]
 have h3 : m.heap.get b = some (.cells (st.map F) el g md none) := ((h2.perm hp.perm).has b _ (by simp)).1
 have hoff : 0 + i * 1 = i := by omega
 have h4 : storeA m b (0 + i * 1) [F x] = some (m.set b (some (.cells ((st.set i x).map F) el g md none))) := by
  unfold storeA
  have hw : (md.writes && Nat.ble (0 + i * 1 + [F x].length) (st.map F).length && flats [F x]) = true := by
   rw [hmd, nble, decide_eq_true (by simp; omega)]
   simp [flats, (hF x).2]
  simp only [h3, hw, kill, cond_true]
  rw [hoff, putCells_set _ _ (by simpa using hi), List.map_set]
 have h5 : Nat.beq (cellsOfV (F x)).length 1 = true := by rw [(hF x).1]; rfl
 simp only [opH, evE_ev h1 ha, evE_ev h1 hx, storeV, hsz, h5, cond_true, (hF x).1, h4, valM]
 rfl
theorem int_plain : ∀ x, cellsOfV (Value.int k x) = [Value.int k x] ∧ flat (Value.int k x) = true := fun _ => ⟨rfl, rfl⟩
end
end Go.Ab
namespace Go.Ab
variable [Vals]
section
variable {α : Type} {X : Cx} {ops : Array Oper} {e : Env} {h : Hp} {Q : Out → Prop} {o : Oper} {rest : List Oper} {t : Tmp}
theorem Off.into (k : Knows S m m1 h1) (hS : ∀ b, b ∈ S2 → b ∈ h1.map Prod.fst) : ∀ b o, Off S m b o → Off S2 m1 b o := fun b o ⟨e1, e2, e3⟩ => by
 refine ⟨Nat.lt_of_lt_of_le e1 k.next, fun hb => ?_, (k.keep b e1 e2).trans e3⟩
 obtain ⟨⟨c, o'⟩, g1, rfl⟩ := List.mem_map.1 (hS b hb)
 rcases (k.has c o' g1).2.2 with h | h
 ·simp only at e1
  omega
 exact e2 h
theorem Off.known (k : Knows S m0 m (l ++ r)) (hb : (b, x) ∈ r) : Off (l.map Prod.fst) m b x := by
 obtain ⟨h1, h2, _⟩ := k.has b x (List.mem_append_right _ hb)
 have hap := k.apart
 rw [List.map_append, List.nodup_append] at hap
 exact ⟨h2, fun h => hap.2.2 b h b (List.mem_map.2 ⟨_, hb, rfl⟩) rfl, h1⟩
theorem Off.old (k : Knows [] m m2 (l ++ r)) : ∀ b o, Mem m b o → Off (l.map Prod.fst) m2 b o := fun b o ⟨e1, e2⟩ => by
 refine ⟨Nat.lt_of_lt_of_le e1 k.next, fun hb => ?_, (k.keep b e1 (by simp)).trans e2⟩
 obtain ⟨⟨c, o'⟩, g1, rfl⟩ := List.mem_map.1 hb
 rcases (k.has c o' (List.mem_append_left _ g1)).2.2 with h | h
 ·simp only at e1
  omega
 cases h
theorem Re.swap (p : h.Perm h') (q : Re X e h' Q) : Re X e h Q := fun ts m h1 h2 => q ts m h1 (h2.perm p)
theorem Ne.swap (p : h.Perm h') (q : Ne X e h' Q) : Ne X e h Q := fun ts m h1 h2 => q ts m h1 (h2.perm p)
theorem Ce.swap (p : h.Perm h') (q : Ce X e h' c Q) : Ce X e h c Q := fun ts m h1 h2 => q ts m h1 (h2.perm p)
theorem Ie.swap (p : h.Perm h') (q : Ie X ops e h' ops' Q) : Ie X ops e h ops' Q := fun ts m h1 h2 => q ts m h1 (h2.perm p)
end
end Go.Ab
namespace Go.Ab
variable [Vals]
structure ArgB where
 s : Spot
 t : TypeId
 cs : List Value
def ArgB.o (b : ArgB) : AObj := .cells b.cs b.t true .ro none
def argR (ρ : Ren) (L : List ArgB) : Ren := fun i => if i < laidEnd then ρ i else (L[i - laidEnd]?).map ArgB.s
def argN (L : List ArgB) : Nat → Tr AObj
 | 0 => .lf
 | j + 1 => match L[j]? with
  | some b => (argN L j).set (laidEnd + j) (some b.o)
  | none => argN L j
theorem argN_get {L : List ArgB} {i : Nat} {o : AObj} : ∀ {k : Nat}, (argN L k).get i = some o → ∃ j b, j < k ∧ i = laidEnd + j ∧ L[j]? = some b ∧ o = b.o
 | 0, h => by cases h
 | k + 1, h => by
  unfold argN at h
  cases hk : L[k]? with
  | none =>
   rw [hk] at h
   obtain ⟨j, b, h1, h2⟩ := argN_get h
   exact ⟨j, b, by omega, h2⟩
  | some b =>
   rw [hk] at h
   simp only [Tr.get_set] at h
   split at h
   ·rename_i e
    cases h
    exact ⟨k, b, Nat.lt_succ_self _, e, hk, rfl⟩
   obtain ⟨j, b, h1, h2⟩ := argN_get h
   exact ⟨j, b, by omega, h2⟩
theorem argN_has {L : List ArgB} {j : Nat} {b : ArgB} (h : L[j]? = some b) : ∀ {k : Nat}, j < k → (argN L k).get (laidEnd + j) = some b.o
 | 0, hk => absurd hk (Nat.not_lt_zero _)
 | k + 1, hk => by
  unfold argN
  by_cases e : j = k
  ·subst e
   rw [h]
   simp only [Tr.get_set, if_true]
  have ih := argN_has h (k := k) (by omega)
  cases hk2 : L[k]? with
  | none => exact ih
  | some b' =>
   simp only [Tr.get_set]
   rw [if_neg (by omega)]
   exact ih
def KA (L : List ArgB) : Kn := fun i o => ∃ j b, i = laidEnd + j ∧ L[j]? = some b ∧ o = b.o
theorem pre_get {L L' : List α} (h : L <+: L') {j : Nat} {b : α} (hb : L[j]? = some b) : L'[j]? = some b := by
 obtain ⟨M, rfl⟩ := h
 rw [List.getElem?_append_left (List.getElem?_eq_some_iff.1 hb).1]
 exact hb
theorem KA.mono (h : L <+: L') : ∀ b o, KA L b o → KA L' b o := fun _ _ ⟨j, b, h1, h2, h3⟩ => ⟨j, b, h1, pre_get h h2, h3⟩
theorem argR_le (h : L <+: L') : (argR ρ L).le (argR ρ L') := fun i s hi => by
 unfold argR at hi ⊢
 split
 ·rename_i hlt
  rw [if_pos hlt] at hi
  exact hi
 rename_i hlt
 rw [if_neg hlt] at hi
 cases hL : L[i - laidEnd]? with
 | none => rw [hL] at hi; cases hi
 | some b =>
  rw [hL] at hi
  rw [pre_get h hL]
  exact hi
theorem argR_at (h : L[j]? = some b) : argR ρ L (laidEnd + j) = some b.s := by
 unfold argR
 rw [if_neg (by omega), show laidEnd + j - laidEnd = j by omega, h]
 rfl
def ArgB.Ok (W : World) (ρ : Ren) (b : ArgB) : Prop := ∃ c fr, W.heap[b.s.blk]? = some (.cells c b.t fr) ∧ b.s.off + b.cs.length ≤ c.size ∧ b.s.cap = 0 ∧ ∀ (i : Nat) v, b.cs[i]? = some v → ∃ v', c[b.s.off + i]? = some v' ∧ VRel ρ v v'
theorem ArgB.Ok.mono {b : ArgB} (h : b.Ok W ρ) (hρ : ρ.le ρ') : b.Ok W ρ' := by
 obtain ⟨c, fr, h1, h2, h3, h4⟩ := h
 exact ⟨c, fr, h1, h2, h3, fun i v hi => let ⟨v', a, b⟩ := h4 i v hi; ⟨v', a, b.mono hρ⟩⟩
def ArgOk (W : World) (ρ : Ren) (L : List ArgB) : Prop := ∀ (j : Nat) b, L[j]? = some b → b.Ok W (argR ρ L)
theorem ArgOk.nil : ArgOk W ρ [] := fun j b h => by cases h
theorem ArgOk.push (h : ArgOk W ρ L) (hb : b.Ok W (argR ρ L)) : ArgOk W ρ (L ++ [b]) := fun j x hx => by
 have hle : (argR ρ L).le (argR ρ (L ++ [b])) := argR_le (List.prefix_append _ _)
 by_cases hj : j < L.length
 ·rw [List.getElem?_append_left hj] at hx
  exact (h j x hx).mono hle
 rw [List.getElem?_append_right (by omega)] at hx
 cases e : j - L.length with
 | zero =>
  rw [e] at hx
  cases hx
  exact hb.mono hle
 | succ n =>
  rw [e] at hx
  simp at hx
def argM (L : List ArgB) : AW := ⟨argN L L.length, laidEnd + L.length, 0, []⟩
theorem argM_knows : ∀ b o, KA L b o → Mem (argM L) b o := by
 rintro i o ⟨j, b, rfl, h2, rfl⟩
 have hj := (List.getElem?_eq_some_iff.1 h2).1
 exact ⟨by show laidEnd + j < laidEnd + L.length; omega, argN_has h2 hj⟩
structure ArgBase (P : Program) (W : World) (ρ : Ren) : Prop where
 glob : ∀ g, g < P.globals.size → ∃ c, ρ g = some ⟨g, 0, c⟩
 inb : ∀ b s, ρ b = some s → b < laidEnd ∧ s.blk < W.heap.size
theorem ArgBase.of (h : LiesBy P W l) : ∃ ρ, ArgBase P W ρ := by
 obtain ⟨ρ, h1, h2, _⟩ := h
 exact ⟨ρ, h1, h2⟩
theorem relArgs (hb : ArgBase P W ρ) (hL : ArgOk W ρ L) : Rel P (argR ρ L) (argM L) W := by
 refine ⟨fun i o ho => ?_, fun b1 b2 o1 o2 s1 s2 _ g1 g2 _ _ _ => ?_, fun g hg => ?_, fun i s hi => ?_⟩
 ·obtain ⟨j, b, h1, rfl, h3, rfl⟩ := argN_get ho
  obtain ⟨c, fr, g1, g2, g3, g4⟩ := hL j b h3
  refine ⟨b.s, _, argR_at h3, g1, c, fr, rfl, g2, g4, fun h => (by cases h), fun _ => ?_, trivial⟩
  rw [g3]
  exact ⟨by decide, by omega⟩
 ·obtain ⟨_, _, _, _, _, rfl⟩ := argN_get g1
  obtain ⟨_, _, _, _, _, rfl⟩ := argN_get g2
  exact .inr ⟨rfl, rfl⟩
 ·obtain ⟨c, hc⟩ := hb.glob g hg
  refine ⟨c, ?_⟩
  unfold argR
  rw [if_pos (hb.inb g _ hc).1]
  exact hc
 unfold argR at hi
 split at hi
 ·exact (hb.inb i s hi).2
 cases hL2 : L[i - laidEnd]? with
 | none => rw [hL2] at hi; cases hi
 | some b =>
  rw [hL2] at hi
  cases hi
  obtain ⟨c, fr, g1, _⟩ := hL _ b hL2
  exact (Array.getElem?_eq_some_iff.1 g1).1
theorem calls_args [FactsOk P] (hP : PlainNames P) (hmx : P.follows .mixedOrders = true) (hb : ArgBase P W ρ) (hL : ArgOk W ρ L) (ha : VsRel (argR ρ L) args args') (h : Fc P f args (argM L) fun v _ => v = .bool b) (hf : P.funcs[f]? = some fn) (hbd : fn.body.isSome = true) :
  Calls P f ⟨args'⟩ W fun e W' => e = .returned (.bool b) ∧ Still W W' := by
 obtain ⟨k, v, m', h1, rfl⟩ := h
 refine (calls_of_irun hP hmx h1 rfl hf hbd (relArgs hb hL) (fun i hi _ => ?_) ha).mono fun e W' ⟨v', ρ', q1, q2, _, q4⟩ => ?_
 ·have hi' : laidEnd + L.length ≤ i := hi
  unfold argR
  rw [if_neg (by omega), List.getElem?_eq_none (by omega)]
  rfl
 cases q2
 refine ⟨q1, q4.rest, q4.size, fun B hB => q4.keep B hB ?_⟩
 rintro ⟨c, o, s, g1, g2, _⟩
 obtain ⟨_, _, _, _, _, rfl⟩ := argN_get g1
 cases g2
theorem VsRel.len {ρ : Ren} : ∀ {a a' : List Value}, VsRel ρ a a' → a.length = a'.length
 | _, _, .nil => rfl
 | _, _, .cons _ hs => by simp [hs.len]
theorem VsRel.at2 {ρ : Ren} : ∀ {a a' : List Value} {i : Nat} {v : Value}, VsRel ρ a a' → a[i]? = some v → ∃ v', a'[i]? = some v' ∧ VRel ρ v v'
 | _, _, _, _, .nil, h => by cases h
 | _, _, 0, _, .cons h hs, e => by
  simp only [List.getElem?_cons_zero, Option.some.injEq] at e
  subst e
  exact ⟨_, rfl, h⟩
 | _, _, i + 1, _, .cons h hs, e => by
  simp only [List.getElem?_cons_succ] at e ⊢
  exact hs.at2 e
section
variable {H : Type} {enc : TypeId × Value → H} {P : Program} {W : World} {ρ : Ren} {held : Bool}
def Enters {α : Type} (enc : TypeId × Value → H) (P : Program) (W : World) (ρ : Ren) (held : Bool) (e : TypeId) (R : Kn → α → List Value → Prop) : Prop :=
 ∀ (fuel : Nat) (cs' : List Value) (x : DataW H × List MemPlace) (L : List ArgB), DataW.trod enc P W 0 (fun _ => true) held fuel e cs' = some x → ArgOk W ρ L → ∃ (L' : List ArgB) (a : α) (cs : List Value), L <+: L' ∧ ArgOk W ρ L' ∧ R (KA L') a cs ∧ VsRel (argR ρ L') cs cs'
theorem enters_int (he : P.underlying e = some (.int k)) : Enters enc P W ρ held e (fun _ (n : Int) cs => cs = [.int k n]) := fun fuel cs' x L h hL => by
 obtain ⟨n, rfl, _, _⟩ := DataW.trod_int he h
 exact ⟨L, n, _, List.prefix_refl _, hL, rfl, .cons (.int _ _) .nil⟩
theorem enters_string (he : P.underlying e = some .string) : Enters enc P W ρ held e (fun _ (s : ByteArray) cs => cs = [.string s]) := fun fuel cs' x L h hL => by
 obtain ⟨s, rfl, _, _⟩ := DataW.trod_string he h
 exact ⟨L, s, _, List.prefix_refl _, hL, rfl, .cons (.string _) .nil⟩
theorem add_plain0 (b off i : Nat) : (⟨b, off, none⟩ : Addr).add i = ⟨b, off + i, none⟩ := by
 unfold Addr.add
 split <;> simp_all
theorem add_add (a : Addr) (n k : Nat) : (a.add n).add k = a.add (n + k) := by
 unfold Addr.add
 by_cases h1 : n = 0
 ·subst h1
  simp
 by_cases h2 : k = 0
 ·subst h2
  simp
 rw [if_neg h1, if_neg h2, if_neg (by omega)]
 simp [Nat.add_assoc]
theorem enters_elems {α : Type} {e : TypeId} {R : Kn → α → List Value → Prop} (hR : Enters enc P W ρ held e R) (hm : ∀ K K' : Kn, (∀ b o, K b o → K' b o) → ∀ a cs, R K a cs → R K' a cs) {ad : Addr} {sz fuel : Nat} : ∀ (n : Nat), (∀ i, i < n → ∃ cs' x, W.cells? 0 (ad.add (i * sz)) sz = some cs' ∧ DataW.trod enc P W 0 (fun _ => true) held fuel e cs' = some x) → ∀ L, ArgOk W ρ L →
  ∃ (L' : List ArgB) (l : List α) (cs : List Value), L <+: L' ∧ ArgOk W ρ L' ∧ l.length = n ∧ Flat sz (R (KA L')) l cs ∧ ∀ (i : Nat) v, cs[i]? = some v → ∃ v', W.cell? (ad.add i) = some v' ∧ VRel (argR ρ L') v v'
 | 0, _, L, hL => ⟨L, [], [], List.prefix_refl _, hL, rfl, Flat.nil, fun i v h => by cases h⟩
 | n + 1, h, L, hL => by
  obtain ⟨L1, l, cs, p1, ok1, hl, hF, hC⟩ := enters_elems hR hm n (fun i hi => h i (by omega)) L hL
  obtain ⟨cs', x, hc, ht⟩ := h n (Nat.lt_succ_self _)
  obtain ⟨L2, a, cs2, p2, ok2, hR2, hv⟩ := hR fuel cs' x L1 ht ok1
  obtain ⟨_, hlen, hcell⟩ := World.cells?_some hc
  have hF2 : Flat sz (R (KA L2)) l cs := ⟨hF.1, fun i y hy => hm _ _ (KA.mono p2) _ _ (hF.2 i y hy)⟩
  have hlc := hv.len
  refine ⟨L2, l ++ [a], cs ++ cs2, p1.trans p2, ok2, by rw [List.length_append, hl]; rfl, hF2.append (Flat.one hR2 (by omega)), fun i v hi => ?_⟩
  by_cases hlt : i < cs.length
  ·rw [List.getElem?_append_left hlt] at hi
   obtain ⟨v', e1, e2⟩ := hC i v hi
   exact ⟨v', e1, e2.mono (argR_le p2)⟩
  rw [List.getElem?_append_right (by omega)] at hi
  obtain ⟨v', e1, e2⟩ := hv.at2 hi
  refine ⟨v', ?_, e2⟩
  have hlt2 : i - cs.length < sz := by
   have := (List.getElem?_eq_some_iff.1 hi).1
   omega
  rw [← e1, ← hcell _ hlt2]
  have : cs.length = n * sz := by rw [hF.1, hl]
  have e3 : ad.add i = (ad.add (n * sz)).add (i - cs.length) := by
   rw [add_add]
   congr 1
   omega
  rw [e3]
theorem enters_slice {R : Kn → α → List Value → Prop} (hu : P.underlying t = some (.slice e)) (hsz : P.cellsOf e = sz) (h0 : 0 < sz) (hR : Enters enc P W ρ held e R) (hm : ∀ K K' : Kn, (∀ b o, K b o → K' b o) → ∀ a cs, R K a cs → R K' a cs) : Enters enc P W ρ held t (fun K (l : List α) cs => ∃ v, cs = [v] ∧ Sl K sz (R K) l v) := fun fuel cs' x L h hL => by
 subst hsz
 rcases DataW.trod_slice hu h with ⟨rfl, -⟩ | ⟨ad, len, cap, elems, rest, n, rfl, rfl, -, -, hlc, hcm, hel, hE, hRst, -⟩
 ·exact ⟨L, [], _, List.prefix_refl _, hL, ⟨.slice none 0 0, rfl, none, 0, rfl, ⟨Nat.zero_le _, Nat.zero_le _⟩, .inl ⟨rfl, .inl rfl⟩⟩, .cons (.sliceNil (by decide)) .nil⟩
 have hcm' : cap < big := by
  have : maxLen < big := by decide
  omega
 by_cases hc0 : cap = 0
 ·subst hc0
  have : len = 0 := by omega
  subst this
  exact ⟨L, [], _, List.prefix_refl _, hL, ⟨.slice (some ⟨0, 0, none⟩) 0 0, rfl, some ⟨0, 0, none⟩, 0, rfl, ⟨Nat.zero_le _, Nat.zero_le _⟩, .inl ⟨rfl, .inr ⟨0, 0, rfl⟩⟩⟩, .cons .empty .nil⟩
 obtain ⟨L1, l, cs, p1, ok1, hl, hF, hC⟩ := enters_elems hR hm (ad := ad) (sz := P.cellsOf e) (fuel := n) len (fun i hi => by
  have h1 := hE i hi
  have hi2 : i < elems.length := by omega
  rw [List.getElem?_eq_getElem hi2, Option.bind_eq_some_iff] at h1
  obtain ⟨cs', h2, h3⟩ := h1
  exact ⟨cs', _, h2, h3⟩) L hL
 -- a cell of the block
 have hcell : ∃ v, W.cell? ad = some v := by
  by_cases hl0 : 0 < len
  ·have h1 := hE 0 hl0
   rw [List.getElem?_eq_getElem (by omega), Option.bind_eq_some_iff] at h1
   obtain ⟨cs', h2, _⟩ := h1
   obtain ⟨_, h3, h4⟩ := World.cells?_some h2
   have h5 := h4 0 h0
   have e5 : (ad.add (0 * P.cellsOf e)).add 0 = ad := by simp [Addr.add]
   rw [e5] at h5
   exact ⟨_, h5.trans (List.getElem?_eq_getElem (by omega))⟩
  have hl0' : len = 0 := by omega
  subst hl0'
  have h1 := (hRst rfl).2 0 (by omega)
  rw [List.getElem?_eq_getElem (by have := (hRst rfl).1; omega), Option.bind_eq_some_iff] at h1
  obtain ⟨cs', h2, _⟩ := h1
  obtain ⟨_, h3, h4⟩ := World.cells?_some h2
  have h5 := h4 0 h0
  have e5 : (ad.add ((0 + 0) * P.cellsOf e)).add 0 = ad := by simp [Addr.add]
  rw [e5] at h5
  exact ⟨_, h5.trans (List.getElem?_eq_getElem (by omega))⟩
 obtain ⟨v0, hv0⟩ := hcell
 have hspot := World.cell?_spot hv0
 obtain ⟨bk, off, sp⟩ := ad
 simp only at hspot
 subst hspot
 obtain ⟨c, bt, fr, hblk⟩ : ∃ c bt fr, W.heap[bk]? = some (.cells c bt fr) := by
  unfold World.cell? at hv0
  split at hv0
  ·rename_i c bt fr hb
   exact ⟨c, bt, fr, hb⟩
  cases hv0
 have hat : ∀ k v, W.cell? ((⟨bk, off, none⟩ : Addr).add k) = some v → c[off + k]? = some v := fun k v hk => by
  rw [add_plain0] at hk
  unfold World.cell? at hk
  simp only [hblk] at hk
  simpa using hk
 have hvc := hat 0 v0 (by simpa [Addr.add] using hv0)
 have hsz1 : off < c.size := by
  have := (Array.getElem?_eq_some_iff.1 hvc).1
  omega
 let nb : ArgB := ⟨⟨bk, off, 0⟩, bt, cs⟩
 have hnb : nb.Ok W (argR ρ L1) := by
  refine ⟨c, fr, hblk, ?_, rfl, fun i v hi => ?_⟩
  ·show off + cs.length ≤ c.size
   by_cases hcs : cs.length = 0
   ·omega
   have hi : cs.length - 1 < cs.length := by omega
   obtain ⟨v', e1, _⟩ := hC _ _ (List.getElem?_eq_getElem hi)
   have := (Array.getElem?_eq_some_iff.1 (hat _ _ e1)).1
   omega
  obtain ⟨v', e1, e2⟩ := hC i v hi
  exact ⟨v', hat i v' e1, e2⟩
 have hp2 : L1 <+: L1 ++ [nb] := List.prefix_append _ _
 have hlast : (L1 ++ [nb])[L1.length]? = some nb := by simp
 refine ⟨L1 ++ [nb], l, _, p1.trans hp2, ok1.push hnb, ⟨.slice (some ⟨laidEnd + L1.length, 0, none⟩) len cap, rfl, some ⟨laidEnd + L1.length, 0, none⟩, cap, by rw [hl], ⟨by rw [hl]; have : big = 9223372036854775808 := rfl; omega, by rw [hl]; exact hlc⟩, .inr ⟨laidEnd + L1.length, 0, cs, bt, true, .ro, none, rfl, ⟨L1.length, nb, rfl, hlast, rfl⟩, by rw [hF.1]; omega, fun i y hy => ?_⟩⟩, .cons (.slice (argR_at hlast) hcm') .nil⟩
 rw [Nat.zero_add]
 exact hm _ _ (KA.mono hp2) _ _ (hF.2 i y hy)
def EntersL {α : Type} (enc : TypeId × Value → H) (P : Program) (W : World) (ρ : Ren) (held : Bool) (ts : List TypeId) (R : Kn → α → List Value → Prop) : Prop :=
 ∀ (cs' : List Value) (L : List ArgB), (∀ (i : Nat) t, ts[i]? = some t → ∃ (fuel : Nat) (y : DataW H × List MemPlace), DataW.trod enc P W 0 (fun _ => true) held fuel t ((cs'.drop i).take 1) = some y) → cs'.length = ts.length → ArgOk W ρ L → ∃ (L' : List ArgB) (a : α) (cs : List Value), L <+: L' ∧ ArgOk W ρ L' ∧ R (KA L') a cs ∧ VsRel (argR ρ L') cs cs'
theorem EntersL.nil : EntersL enc P W ρ held [] (fun _ (_ : Unit) cs => cs = []) := fun cs' L _ hl hL => by
 cases cs' with
 | nil => exact ⟨L, (), [], List.prefix_refl _, hL, rfl, .nil⟩
 | cons c r => simp at hl
theorem EntersL.cons {R1 : Kn → α → List Value → Prop} {R2 : Kn → β → List Value → Prop} (h1 : Enters enc P W ρ held t R1) (hm : ∀ K K' : Kn, (∀ b o, K b o → K' b o) → ∀ a cs, R1 K a cs → R1 K' a cs) (h2 : EntersL enc P W ρ held ts R2) : EntersL enc P W ρ held (t :: ts) (fun K (p : α × β) cs => ∃ a b, cs = a ++ b ∧ R1 K p.1 a ∧ R2 K p.2 b) := fun cs' L ht hl hL => by
 cases cs' with
 | nil => simp at hl
 | cons c r =>
  obtain ⟨fuel, y, e1⟩ := ht 0 t rfl
  obtain ⟨L1, a, ca, p1, ok1, hR1, hv1⟩ := h1 fuel [c] y L e1 hL
  obtain ⟨L2, b, cb, p2, ok2, hR2, hv2⟩ := h2 r L1 (fun i u hu => ht (i + 1) u hu) (by simpa using hl) ok1
  exact ⟨L2, (a, b), ca ++ cb, p1.trans p2, ok2, ⟨ca, cb, rfl, hm _ _ (KA.mono p2) _ _ hR1, hR2⟩, (hv1.mono (argR_le p2)).append hv2⟩
theorem Enters.map {R : Kn → α → List Value → Prop} {R' : Kn → β → List Value → Prop} (h : Enters enc P W ρ held t R) (g : α → β) (k : ∀ K a cs, R K a cs → R' K (g a) cs) : Enters enc P W ρ held t R' := fun fuel cs' x L e hL => by
 obtain ⟨L', a, cs, h1, h2, h3, h4⟩ := h fuel cs' x L e hL
 exact ⟨L', g a, cs, h1, h2, k _ _ _ h3, h4⟩
theorem enters_struct (hu : P.underlying e = some (.struct fs)) (hc : P.cellsOf e = ts.length) (hf : ∀ (i : Nat) t, ts[i]? = some t → ∃ f : Field, fs[i]? = some f ∧ f.type = t ∧ f.offset = i ∧ P.cellsOf t = 1) (h : EntersL enc P W ρ held ts R) : Enters enc P W ρ held e R := fun fuel cs' x L ht hL => by
 obtain ⟨xs, n, _, _, hlen, hxs, hall⟩ := DataW.trod_struct hu ht
 refine h cs' L (fun i t hi => ?_) (by omega) hL
 obtain ⟨f, h1, rfl, h3, h4⟩ := hf i t hi
 have h5 := hall i f h1
 rw [h3, h4] at h5
 have hlt : i < xs.length := by
  rw [hxs]
  exact (Array.getElem?_eq_some_iff.1 h1).1
 rw [List.getElem?_eq_getElem hlt] at h5
 exact ⟨n, _, h5⟩
def fieldsB (P : Program) (fs : Array Field) : Nat → List TypeId → Bool
  | _, [] => true
  | i, t :: ts => (match fs[i]? with
    | some f => Nat.beq f.type t && (Nat.beq f.offset i && Nat.beq (P.cellsOf t) 1)
    | none => false) && fieldsB P fs (i + 1) ts
def structB (P : Program) (e : TypeId) (ts : List TypeId) : Bool := match P.underlying e with
 | some (.struct fs) => fieldsB P fs 0 ts && Nat.beq (P.cellsOf e) ts.length
 | _ => false
theorem fieldsB_spec {P : Program} {fs : Array Field} : ∀ {ts : List TypeId} {k : Nat}, fieldsB P fs k ts = true → ∀ (i : Nat) t, ts[i]? = some t → ∃ f : Field, fs[k + i]? = some f ∧ f.type = t ∧ f.offset = k + i ∧ P.cellsOf t = 1
 | [], _, _, i, t, h => by simp at h
 | t :: ts, k, hb, i, u, h => by
  unfold fieldsB at hb
  rw [Bool.and_eq_true] at hb
  cases i with
  | zero =>
   simp only [List.getElem?_cons_zero, Option.some.injEq] at h
   subst h
   have h1 := hb.1
   split at h1
   ·rename_i f hf
    simp only [Bool.and_eq_true, nbeq, decide_eq_true_eq] at h1
    exact ⟨f, hf, h1.1, h1.2.1, h1.2.2⟩
   cases h1
  | succ i =>
   simp only [List.getElem?_cons_succ] at h
   have := fieldsB_spec hb.2 i u h
   rwa [show k + 1 + i = k + (i + 1) by omega] at this
theorem enters_fields (hs : structB P e ts = true) (h : EntersL enc P W ρ held ts R) : Enters enc P W ρ held e R := by
 unfold structB at hs
 split at hs
 ·rename_i fs hu
  rw [Bool.and_eq_true, nbeq, decide_eq_true_eq] at hs
  refine enters_struct hu hs.2 (fun i t hi => ?_) h
  have := fieldsB_spec hs.1 i t hi
  rwa [Nat.zero_add] at this
 cases hs
end
end Go.Ab
namespace Go.Ab
variable [Vals]
theorem sliceA_to {sz b off n cap kk : Nat} (hu : P.underlying ty = some (.slice el)) (hz : sizeT P el = some sz) (hk : kk ≤ n) (hc : n ≤ cap) : sliceA P ty (.slice (some ⟨b, off, none⟩) n cap) none (some (.int k (Int.ofNat kk))) none = some (.slice (some ⟨b, off, none⟩) kk cap) := by
 unfold sliceA
 simp only [hu, hz]
 have hb : ∀ y, kk ≤ y → boundA (some (.int k (Int.ofNat kk))) 0 y = some kk := fun y hy => by
  unfold boundA
  simp only [asInt?]
  rw [nble, decide_eq_true hy]
  rfl
 have hb2 : ∀ d y, kk ≤ y → boundA (some (.int k (Int.ofNat kk))) d y = some kk := fun d y hy => by
  unfold boundA
  simp only [asInt?]
  rw [nble, decide_eq_true hy]
  rfl
 have h0 : ∀ y, boundA none 0 y = some 0 := fun y => rfl
 cases hcb : Nat.blt cap big with
 | true =>
  simp only [cond_true]
  unfold sliceExact
  rw [show boundA none cap cap = some cap from rfl]
  simp only [Option.bind_some]
  rw [hb2 n cap (by omega)]
  simp only [Option.bind_some]
  rw [h0]
  simp only [Option.bind_some]
  unfold sliceOut
  simp only [Nat.zero_mul, Nat.add_zero, Nat.sub_zero]
  cases Nat.beq cap 0 <;> rfl
 | false =>
  simp only [cond_false]
  rw [hb2 n n hk]
  simp only [Option.bind_some]
  rw [h0]
  simp only [Option.bind_some, Nat.zero_mul, Nat.add_zero, Nat.sub_zero]
theorem Sl.take (h : Sl K sz R l (.slice a n cap)) (hk : kk ≤ l.length) : Sl K sz R (l.take kk) (.slice a kk cap) := by
 obtain ⟨a', cap', e, hn, hl⟩ := h
 cases e
 have hlen : (l.take kk).length = kk := by rw [List.length_take]; omega
 refine ⟨a, cap, by rw [hlen], by rw [hlen]; omega, ?_⟩
 rcases hl with ⟨rfl, ha⟩ | ⟨b, off, cs, el, g, md, mate, rfl, hb, hle, hc⟩
 ·exact .inl ⟨by simp, ha⟩
 refine .inr ⟨b, off, cs, el, g, md, mate, rfl, hb, ?_, fun i x hx => hc i x ?_⟩
 ·rw [hlen]
  have := Nat.mul_le_mul_right sz hk
  omega
 rw [List.getElem?_take] at hx
 split at hx
 ·exact hx
 cases hx
section
variable {α : Type} {X : Cx} {ops : Array Oper} {base : Nat} {rI : List Nat} {cl : Bool} {mk : List (Nat × Nat)} {e : Env} {h : Hp} {Q : Out → Prop} {o : Oper} {i : Info} {rest : List Oper} {drest : List (Oper × Info)} {t : Tmp}
theorem Ie.sliceTo {sz b off n cap kk : Nat} (hk : kk ≤ n) (hc : n ≤ cap) (hd : o.dst = some t) (ht : Nat.blt t X.n = true) (hg : wantE ops e o = some true) (ho : o.op = .slice ty x none (some y) none) (hu : X.P.underlying ty = some (.slice el)) (hz : sizeT X.P el = some sz) (hx : evE X.P e x = some (.slice (some ⟨b, off, none⟩) n cap)) (hy : evE X.P e y = some (.int k (Int.ofNat kk))) (q : Ie X ops ((t, .slice (some ⟨b, off, none⟩) kk cap) :: e) h rest Q) : Ie X ops e h (o :: rest) Q :=
 Ie.p hd ht hg (by rw [ho]; simp only [opE, hx, evoE, hy, Option.map_some]; exact sliceA_to hu hz hk hc) q
theorem De.sliceTo {sz b off n cap kk : Nat} (hk : kk ≤ n) (hc : n ≤ cap) (hi : i.cls = .p) (hd : o.dst = some t) (ht : Nat.blt t X.n = true) (hg : wantE ops e o = some true) (ho : o.op = .slice ty x none (some y) none) (hu : X.P.underlying ty = some (.slice el)) (hz : sizeT X.P el = some sz) (hx : evE X.P e x = some (.slice (some ⟨b, off, none⟩) n cap)) (hy : evE X.P e y = some (.int k (Int.ofNat kk))) (q : De X ops base rI cl mk ((t, .slice (some ⟨b, off, none⟩) kk cap) :: e) h drest Q) : De X ops base rI cl mk e h ((o, i) :: drest) Q :=
 De.p hi hd ht hg (by rw [ho]; simp only [opE, hx, evoE, hy, Option.map_some]; exact sliceA_to hu hz hk hc) q
def DeW (X : Cx) (ops : Array Oper) (base : Nat) (rI : List Nat) (W : List Nat) (as : List (Nat × Nat)) (e : Env) (h : Hp) (l : List (Oper × Info)) (Q : Out → Prop) : Prop :=
 ∀ ts m rs ws, Has X.n ts e → Knows X.S X.m0 m h → X.m0.next ≤ base ∧ base ≤ m.next → (∀ p ∈ rs, p.1 ∈ rI) → (∀ p ∈ ws, ∀ b ∈ p.2, b ∈ W) → Do X.P X.n ops base X.m0.lo l rs ws as ts m Q
theorem DeW.of (q : De X ops base rI false as e h l Q) : DeW X ops base rI W as e h l Q := fun ts m rs ws h1 h2 h3 h4 _ => q ts m rs ws h1 h2 h3 h4 (fun hf => by cases hf)
theorem DeW.p (hi : i.cls = .p) (hd : o.dst = some t) (ht : Nat.blt t X.n = true) (hg : wantE ops e o = some true) (hv : opE X.P e o.op = some v) (q : DeW X ops base rI W mk ((t, v) :: e) h drest Q) : DeW X ops base rI W mk e h ((o, i) :: drest) Q := fun ts m rs ws h1 h2 h3 h4 h5 => by
 obtain ⟨k, out, g1, g2⟩ := q _ m rs ws (h1.put ht v) h2 h3 h4 h5
 obtain ⟨c1, _, c2⟩ := opE_spec h1 hv
 refine ⟨k, out, ?_, g2⟩
 unfold dops
 rw [wantE_spec h1 hg]
 simp only [cond_true, hi, doOp_p c1, doP, c2, hd]
 exact g1
theorem DeW.fieldAddr {j b off k : Nat} (hi : i.cls = .p) (hd : o.dst = some t) (ht : Nat.blt t X.n = true) (hg : wantE ops e o = some true) (ho : o.op = .fieldAddr s x j) (hx : evE X.P e x = some (.pointer (some ⟨b, off, none⟩))) (hf : ∀ b off, fieldAddrA X.P s (.pointer (some ⟨b, off, none⟩)) j = some (.pointer (some ⟨b, off + k, none⟩))) (q : DeW X ops base rI W mk ((t, .pointer (some ⟨b, off + k, none⟩)) :: e) h drest Q) : DeW X ops base rI W mk e h ((o, i) :: drest) Q :=
 DeW.p hi hd ht hg (by rw [ho]; simp only [opE, hx, hf]) q
theorem DeW.indexAddr {b off len cap sz j : Nat} (hi : i.cls = .p) (hd : o.dst = some t) (ht : Nat.blt t X.n = true) (hg : wantE ops e o = some true) (ho : o.op = .indexAddr ty x y) (hu : X.P.underlying ty = some (.slice el)) (hs : sizeT X.P el = some sz) (hx : evE X.P e x = some (.slice (some ⟨b, off, none⟩) len cap)) (hy : evE X.P e y = some (.int k (Int.ofNat j))) (hj : j < len) (q : DeW X ops base rI W mk ((t, .pointer (some ⟨b, off + j * sz, none⟩)) :: e) h drest Q) : DeW X ops base rI W mk e h ((o, i) :: drest) Q :=
 DeW.p hi hd ht hg (by
  rw [ho]
  simp only [opE, hx, hy]
  unfold indexAddrA
  simp only [asInt?, hu, hs]
  rw [nblt, decide_eq_true hj]
  rfl) q
theorem readOk_notIn {W : List Nat} (pre b : Nat) (hb : b ∉ W) : ∀ (ws : List (Nat × List Nat)), (∀ p ∈ ws, ∀ c ∈ p.2, c ∈ W) → readOk pre b ws = true
 | [], _ => rfl
 | (h, w) :: ws, hw => by
  have hn : notIn b w = true := by
   have h1 : ∀ c ∈ w, c ≠ b := fun c hc e => hb (e ▸ hw (h, w) List.mem_cons_self c hc)
   clear hw
   induction w with
   | nil => rfl
   | cons c w ih =>
    unfold notIn
    have h2 : Nat.beq b c = false := by rw [nbeq, decide_eq_false_iff_not]; exact fun e => h1 c List.mem_cons_self e.symm
    have h3 : Nat.beq c b = false := by rw [nbeq, decide_eq_false_iff_not]; exact h1 c List.mem_cons_self
    have h4 := ih fun c' hc => h1 c' (List.mem_cons_of_mem _ hc)
    simp [h2, h3, h4]
  unfold readOk
  rw [hn, Bool.or_true]
  exact readOk_notIn pre b hb ws fun p hp => hw p (List.mem_cons_of_mem _ hp)
theorem DeW.load {b off : Nat} (hi : i.cls = .l) (hd : o.dst = some t) (ht : Nat.blt t X.n = true) (hg : wantE ops e o = some true) (ho : o.op = .load ty a) (ha : evE X.P e a = some (.pointer (some ⟨b, off, none⟩))) (hty : aggT X.P ty = some false) (hs : Sees X h b (.cells cs el g md mate)) (hc : cs[off]? = some v) (hb : b < base) (hW : ∀ c, c ∈ W → ∃ oc, (c, oc) ∈ h ∧ oc ≠ .cells cs el g md mate) (q : DeW X ops base (i.i :: rI) W mk ((t, v) :: e) h drest Q) : DeW X ops base rI W mk e h ((o, i) :: drest) Q := fun ts m rs ws h1 h2 h3 h4 h5 => by
 have hbW : b ∉ W := fun h => by
  obtain ⟨oc, e1, e2⟩ := hW b h
  have := (h2.has b oc e1).1
  rw [hs m h2] at this
  exact e2 (Option.some.inj this).symm
 have hv : opL X.P ts o.op = some (.rd b fun o => match o with | .cells cs _ _ _ _ => cs[off]? | _ => none) := by
  rw [ho]
  simp only [opL, evE_ev h1 ha, Option.bind_some]
  exact loadA_false hty
 have hr : (m.heap.get b).bind (fun o => match o with | .cells cs _ _ _ _ => cs[off]? | _ => none) = some v := by rw [hs m h2]; exact hc
 cases hfull : (i.full && seenB i.pre b mk) with
 | true =>
  obtain ⟨k, out, g1, g2⟩ := q _ m rs ws (h1.put ht v) h2 h3 (fun p hp => List.mem_cons_of_mem _ (h4 p hp)) h5
  refine ⟨k, out, ?_, g2⟩
  unfold dops
  rw [wantE_spec h1 hg]
  simp only [cond_true, hi, hv, hd, hr, hfull]
  exact g1
 | false =>
  obtain ⟨k, out, g1, g2⟩ := q _ m ((i.i, b) :: rs) ws (h1.put ht v) h2 h3 (fun p hp => by
   rcases List.mem_cons.1 hp with rfl | hp
   ·exact List.mem_cons_self
   exact List.mem_cons_of_mem _ (h4 p hp)) h5
  refine ⟨k, out, ?_, g2⟩
  unfold dops
  rw [wantE_spec h1 hg]
  have : (Nat.blt b base && readOk i.pre b ws) = true := by
   rw [readOk_notIn _ _ hbW _ h5, nblt, decide_eq_true hb]
   rfl
  simp only [cond_true, hi, hv, hd, hr, hfull, cond_false, this]
  exact g1
theorem below_nil {lo : Nat} : ∀ {l : List Nat}, (∀ b ∈ l, lo ≤ b) → below lo l = []
 | [], _ => rfl
 | b :: l, h => by
  unfold below
  have : Nat.blt b lo = false := by rw [nblt, decide_eq_false_iff_not]; have := h b List.mem_cons_self; omega
  rw [this]
  exact below_nil fun c hc => h c (List.mem_cons_of_mem _ hc)
theorem below_mem {lo b : Nat} : ∀ {l : List Nat}, b ∈ below lo l → b ∈ l ∧ b < lo
 | [], h => by cases h
 | c :: l, h => by
  unfold below at h
  cases hc : Nat.blt c lo with
  | true =>
   rw [hc] at h
   rcases List.mem_cons.1 h with rfl | h
   ·rw [nblt, decide_eq_true_eq] at hc
    exact ⟨List.mem_cons_self, hc⟩
   have := below_mem (l := l) h
   exact ⟨List.mem_cons_of_mem _ this.1, this.2⟩
  | false =>
   rw [hc] at h
   have := below_mem (l := l) h
   exact ⟨List.mem_cons_of_mem _ this.1, this.2⟩
theorem De.callc (A : β → Prop) (V : β → Value) (N : β → Hp) (hp : Pick h l r) (hi : i.cls = .h) (hok : i.hok = true) (hin : allIn i.pre (mk.map Prod.fst) = true) (hri : allIn i.pre rI = true) (hd : o.dst = some t) (ht : Nat.blt t X.n = true) (hg : wantE ops e o = some true) (ho : o.op = .call { callee := .value fo, args := ag, argTypes := ats }) (ha : evsE X.P e ag.toList = some vs) (hf : evE X.P e fo = some (.func (.func g) ⟨first⟩ ⟨cap⟩))
  (hc : ∀ m, m.lo ≤ m.next → Knows (l.map Prod.fst) m m l → (∀ b o, Off X.S X.m0 b o → Off (l.map Prod.fst) m b o) → (∀ b o, (b, o) ∈ r → Off (l.map Prod.fst) m b o) → Fc X.P g (first ++ vs ++ cap) m fun v m' => ∃ x, A x ∧ v = V x ∧ Knows (l.map Prod.fst) m m' (N x)) (q : ∀ x, A x → DeW X ops base rI (l.map Prod.fst) mk ((t, V x) :: e) (N x ++ r) drest Q) : De X ops base rI true mk e h ((o, i) :: drest) Q := fun ts m rs ws h1 h2 h3 h4 h5 => by
 have hk := h2.perm hp.perm
 have hap := hk.apart
 rw [List.map_append, List.nodup_append] at hap
 have hnot : ∀ b o, Off X.S X.m0 b o → b ∉ l.map Prod.fst := fun b o ⟨e1, e2, e3⟩ hb => by
  obtain ⟨⟨c, o'⟩, g1, rfl⟩ := List.mem_map.1 hb
  rcases (hk.has c o' (List.mem_append_left _ g1)).2.2 with h | h
  ·simp only at e1; omega
  exact e2 h
 let M : AW := ⟨m.heap, m.next, base, []⟩
 have hself : Knows (l.map Prod.fst) M M l := by
  have := hk.self
  exact ⟨h3.2, Nat.le_refl _, rfl, fun _ h => .inl h, fun _ => rfl, fun _ _ _ => rfl, fun b o hb => ⟨(hk.has b o (List.mem_append_left _ hb)).1, (hk.has b o (List.mem_append_left _ hb)).2.1, .inr (List.mem_map.2 ⟨_, hb, rfl⟩)⟩, hap.1⟩
 obtain ⟨k, v, m', g1, x, hA, rfl, hx⟩ := hc M h3.2 hself (fun b o hb => ⟨Nat.lt_of_lt_of_le hb.1 h2.next, hnot b o hb, (h2.keep b hb.1 hb.2.1).trans hb.2.2⟩) (fun b o hb => ⟨(hk.has b o (List.mem_append_right _ hb)).2.1, fun h => hap.2.2 b h b (List.mem_map.2 ⟨_, hb, rfl⟩) rfl, (hk.has b o (List.mem_append_right _ hb)).1⟩)
 have hlog : ∀ b, b ∈ m'.log → b ∈ l.map Prod.fst := fun b hb => by
  rcases hx.log b hb with h | h
  ·cases h
  exact h.1
 have hM2 : Knows (l.map Prod.fst) m ⟨m'.heap, m'.next, X.m0.lo, below X.m0.lo m'.log ++ m.log⟩ (N x) := by
  refine ⟨h2.lole', hx.next, h2.lo.symm, fun b hb => ?_, fun hs => ?_, hx.keep, fun b o hb => hx.has b o hb, hx.apart⟩
  ·rcases List.mem_append.1 hb with hb | hb
   ·obtain ⟨e1, e2⟩ := below_mem hb
    exact .inr ⟨hlog b e1, by rw [h2.lo]; exact e2⟩
   exact .inl hb
  show below X.m0.lo m'.log ++ m.log = m.log
  have hz : below X.m0.lo m'.log = [] := below_nil fun b hb => (h2.lo ▸ hs b (hlog b hb) : X.m0.lo ≤ b)
  rw [hz]
  rfl
 obtain ⟨j, out, g2, g3⟩ := q x hA _ ⟨m'.heap, m'.next, X.m0.lo, below X.m0.lo m'.log ++ m.log⟩ rs ((i.i, m'.log) :: ws) (h1.put ht (V x)) (hk.step hM2) ⟨h3.1, Nat.le_trans h3.2 hx.next⟩ h4 (fun p hp b hb => by
  rcases List.mem_cons.1 hp with rfl | hp
  ·exact hlog b hb
  rw [h5 rfl p hp] at hb
  cases hb)
 refine ⟨k + j, out, ?_, g3⟩
 unfold dops
 rw [wantE_spec h1 hg]
 have e1 : (i.hok && plainB i.pre m.heap mk) = true := by rw [hok, plainB_all _ _ _ hin]; rfl
 have e2 : doOp X.P (irun X.P (k + j)) ts o.op ⟨hideB i.pre mk m.heap, m.next, base, []⟩ = some (.val (V x) m') := by
  rw [hideB_all _ _ _ hin, ho, doOp_h rfl]
  have g1' : irun X.P k noFr (.fn g (first ++ vs ++ cap)) ⟨m.heap, m.next, base, []⟩ = some ⟨.ret, .lf, V x, m'⟩ := g1
  simp only [opH, callH, evsE_evs h1 ha, evE_ev h1 hf, callV, callA, irun_le (Nat.le_add_right k j) _ _ _ _ g1']
 have e3 : writeOk i.pre m'.log rs = true := writeOk_in _ _ _ hri _ h4
 simp only [cond_true, hi, e1, e2, e3, showB_all _ _ _ _ hin, hd]
 exact dops_le (irun_le (Nat.le_add_left j k)) g2
theorem Upd.app {o o' : AObj} (u : Upd h b o o' h') : Upd (A ++ h) b o o' (A ++ h') := by
 induction A with
 | nil => exact u
 | cons p A ih => exact .tail ih
theorem Ie.drop (hs : h'.Sublist h) (q : Ie X ops e h' ops' Q) : Ie X ops e h ops' Q := fun ts m h1 h2 => q ts m h1 (h2.sub hs)
theorem De.drop (hs : h'.Sublist h) (q : De X ops base rI cl mk e h' l Q) : De X ops base rI cl mk e h l Q := fun ts m rs ws h1 h2 h3 h4 h5 => q ts m rs ws h1 (h2.sub hs) h3 h4 h5
end
end Go.Ab
namespace Go.Ab
variable [Vals]
section
variable {X : Cx} {ops : Array Oper} {e : Env} {h : Hp} {Q : Out → Prop} {o : Oper} {rest : List Oper} {t : Tmp} {v : Value}
theorem Ie.P (q : Ie X ops ((t, v) :: e) h rest Q) (hd : o.dst = some t := by exact rfl) (ht : Nat.blt t X.n = true := by exact rfl) (hg : wantE ops e o = some true := by exact rfl) (hv : opE X.P e o.op = some v := by exact rfl) : Ie X ops e h (o :: rest) Q := Ie.p hd ht hg hv q
theorem Ie.O (q : Ie X ops ((t, undef) :: e) h rest Q) (hd : o.dst = some t := by exact rfl) (ht : Nat.blt t X.n = true := by exact rfl) (hg : wantE ops e o = some false := by exact rfl) : Ie X ops e h (o :: rest) Q := Ie.off hd ht hg q
theorem Ie.F {i b off k : Nat} (hf : ∀ b off, fieldAddrA X.P s (.pointer (some ⟨b, off, none⟩)) i = some (.pointer (some ⟨b, off + k, none⟩))) (q : Ie X ops ((t, .pointer (some ⟨b, off + k, none⟩)) :: e) h rest Q) (hd : o.dst = some t := by exact rfl) (ht : Nat.blt t X.n = true := by exact rfl) (hg : wantE ops e o = some true := by exact rfl) (ho : o.op = .fieldAddr s x i := by exact rfl) (hx : evE X.P e x = some (.pointer (some ⟨b, off, none⟩)) := by exact rfl) : Ie X ops e h (o :: rest) Q := Ie.fieldAddr hd ht hg ho hx hf q
theorem Ie.G (hl : lenA X.P ty y = some (.imm v)) (q : Ie X ops ((t, v) :: e) h rest Q) (hd : o.dst = some t := by exact rfl) (ht : Nat.blt t X.n = true := by exact rfl) (hg : wantE ops e o = some true := by exact rfl) (ho : o.op = .call { callee := .builtin .len, args := #[x], argTypes := #[ty] } := by exact rfl) (hx : evE X.P e x = some y := by exact rfl) : Ie X ops e h (o :: rest) Q := Ie.len hd ht hg ho hx hl q
theorem Ie.L {b off : Nat} (hty : aggT X.P ty = some false) (q : Ie X ops ((t, v) :: e) h rest Q) (hd : o.dst = some t := by exact rfl) (ht : Nat.blt t X.n = true := by exact rfl) (hg : wantE ops e o = some true := by exact rfl) (ho : o.op = .load ty a := by exact rfl) (ha : evE X.P e a = some (.pointer (some ⟨b, off, none⟩)) := by exact rfl) (hs : Sees X h b (.cells cs el g md mate) := by repeat first | exact .head | exact .app .head | exact .base ‹_› ‹_› (by simp) | refine .tail ?_ | refine .app ?_) (hc : cs[off]? = some v := by exact rfl) : Ie X ops e h (o :: rest) Q := Ie.load hd ht hg ho ha hty hs hc q
theorem Ie.M {b off : Nat} (hty : aggT X.P ty = some false) (hs : Sees X h b (.cells cs el g md mate)) (hc : cs[off]? = some v) (q : Ie X ops ((t, v) :: e) h rest Q) (hd : o.dst = some t := by exact rfl) (ht : Nat.blt t X.n = true := by exact rfl) (hg : wantE ops e o = some true := by exact rfl) (ho : o.op = .load ty a := by exact rfl) (ha : evE X.P e a = some (.pointer (some ⟨b, off, none⟩)) := by exact rfl) : Ie X ops e h (o :: rest) Q := Ie.load hd ht hg ho ha hty hs hc q
theorem Ie.K {b off len cap sz j : Nat} (hu : X.P.underlying ty = some (.slice el)) (hs : sizeT X.P el = some sz) (q : Ie X ops ((t, .pointer (some ⟨b, off + j * sz, none⟩)) :: e) h rest Q) (hd : o.dst = some t := by exact rfl) (ht : Nat.blt t X.n = true := by exact rfl) (hg : wantE ops e o = some true := by exact rfl) (ho : o.op = .indexAddr ty x i := by exact rfl) (hx : evE X.P e x = some (.slice (some ⟨b, off, none⟩) len cap) := by exact rfl) (hi : evE X.P e i = some (.int k (Int.ofNat j)) := by exact rfl) (hj : j < len := by omega) : Ie X ops e h (o :: rest) Q := Ie.indexAddr hd ht hg ho hu hs hx hi hj q
theorem Ne.J (hF : F) (he : SubX [] e' e := by repeat (first | exact trivial | refine ⟨rfl, ?_⟩)) (hh : h'.Sublist h := by exact List.Sublist.refl _) : Ne X e h (JnQ X F e' h' Q) := Ne.jnx hF he hh
theorem Ce.B (u : Nat) (hw : w = w') (q : Ce X ((u, .bool w') :: e) h c Q) (hl : look e u = some (.bool w) := by exact rfl) : Ce X e h c Q := Ce.as u (.bool w') hl (congrArg Value.bool hw) q
theorem bbx (h : (a = true) ↔ (b = true)) : a = b := Bool.eq_iff_iff.2 h
end
end Go.Ab
namespace Go.Ab
variable [Vals]
def pairV (k : IntKind) (x : Int × Int) : Value := .agg ⟨[.int k x.1, .int k x.2]⟩
structure PairT (P : Program) (t e : TypeId) (k : IntKind) : Prop where
 arr : P.underlying t = some (.array 2 e)
 num : P.underlying e = some (.int k)
 size : sizeT P e = some 1
 fst : ∀ a b, partA P e [.int k a, .int k b] 0 = some (.int k a)
 snd : ∀ a b, partA P e [.int k a, .int k b] 1 = some (.int k b)
theorem PairT.eqA (h : PairT P t e k) (d : Nat) (a b : Int × Int) : Ab.eqA P (d + 1 + 1) t (pairV k a) (pairV k b) = some (decide (a = b)) := by
 have hi : ∀ m n : Int, Ab.eqA P (d + 1) e (.int k m) (.int k n) = some (decide (m = n)) := fun m n => by
  unfold Ab.eqA
  simp only [h.num, eqBase, eqI_eq, decide_true, cond_true]
 obtain ⟨a1, a2⟩ := a
 obtain ⟨b1, b2⟩ := b
 have e1 : Ab.eqA P (d + 1 + 1) t (pairV k (a1, a2)) (pairV k (b1, b2)) = eqElems P (Ab.eqA P (d + 1)) e 1 [.int k a1, .int k a2] [.int k b1, .int k b2] 2 0 := by
  conv => lhs; unfold Ab.eqA
  simp only [h.arr, pairV, h.size]
 rw [e1]
 unfold eqElems
 simp only [Nat.zero_mul, h.fst, hi]
 by_cases h1 : a1 = b1
 ·subst h1
  simp only [decide_true]
  unfold eqElems
  simp only [Nat.zero_add, Nat.one_mul, h.snd, hi]
  by_cases h2 : a2 = b2
  ·subst h2
   simp only [decide_true]
   unfold eqElems
   rfl
  have h3 : ¬ ((a1, a2) = (a1, b2)) := fun h => h2 (Prod.mk.inj h).2
  simp only [decide_eq_false h2, decide_eq_false h3]
 have h3 : ¬ ((a1, a2) = (b1, b2)) := fun h => h1 (Prod.mk.inj h).1
 simp only [decide_eq_false h1, decide_eq_false h3]
theorem KeyOk.pair (h : PairT P t e k) : KeyOk P t (pairV k) where
 eq := fun a b => h.eqA 9998 a b
 ok := fun a => by
  have h1 : ∀ d n, keyV P (d + 1) e (.int k n) = true := fun d n => by
   unfold keyV
   simp only [h.num]
  have h2 : keyV P (18 + 1 + 1) t (pairV k a) = true := by
   unfold keyV
   simp only [h.arr, pairV, h.size]
   rw [show List.range 2 = [0, 1] from rfl]
   simp only [List.all_cons, List.all_nil, Nat.zero_mul, Nat.one_mul, h.fst, h.snd, h1]
   rfl
  rw [show (20 : Nat) = 18 + 1 + 1 from rfl, h2]
  rfl
 same := fun a => by
  show sameKey (18 + 1 + 1) (pairV k a) (pairV k a) = true
  have h1 : ∀ n, sameKey (18 + 1) (.int k n) (.int k n) = true := fun n => by
   unfold sameKey
   simp [eqI_eq]
  unfold sameKey
  simp only [pairV, sameKeys, h1]
  rfl
section
variable {X : Cx} {ops : Array Oper} {e : Env} {h : Hp} {Q : Out → Prop} {o : Oper} {rest : List Oper} {t : Tmp}
end
section
variable {X : Cx} {ops : Array Oper} {base : Nat} {rI : List Nat} {cl : Bool} {mk : List (Nat × Nat)} {e : Env} {h : Hp} {Q : Out → Prop} {o : Oper} {i : Info} {rest : List (Oper × Info)} {t : Tmp} {v : Value}
theorem De.storeNew {b off n : Nat} (hi : i.cls = .h) (hok : i.hok = true) (hin : allIn i.pre (mk.map Prod.fst) = true) (hnew : base ≤ b) (hd : o.dst = none) (hg : wantE ops e o = some true) (ho : o.op = .store ty a x) (ha : evE X.P e a = some (.pointer (some ⟨b, off, none⟩))) (hx : evE X.P e x = some y) (hsz : sizeT X.P ty = some (n + 1)) (hl : (cellsOfV y).length = n + 1) (hu : Upd h b (.cells cs el g md none) (.cells (putCells cs off (cellsOfV y)) el g md none) h') (hw : (md.writes && Nat.ble (off + (cellsOfV y).length) cs.length && flats (cellsOfV y)) = true) (q : De X ops base rI cl mk e h' rest Q) : De X ops base rI cl mk e h ((o, i) :: rest) Q := fun ts m rs ws h1 h2 h3 h4 h5 => by
 have hn : m.next = (m.set b (some (.cells (putCells cs off (cellsOfV y)) el g md none))).next := rfl
 obtain ⟨k, out, g1, g2⟩ := q ts (m.set b (some (.cells (putCells cs off (cellsOfV y)) el g md none))) rs ((i.i, bif Nat.blt b base then [b] else []) :: ws) h1 (h2.set hu) h3 h4 (fun hc p hp => by
  rcases List.mem_cons.1 hp with rfl | hp
  ·have : Nat.blt b base = false := by
    rw [nblt, decide_eq_false_iff_not]
    omega
   simp only [this, cond_false]
  exact h5 hc p hp)
 refine ⟨k, out, ?_, g2⟩
 have hb : m.heap.get b = some (.cells cs el g md none) := (h2.has _ _ hu.spec.1).1
 have e2 : doOp X.P (irun X.P k) ts o.op ⟨hideB i.pre mk m.heap, m.next, base, []⟩ = some (.val undef (AW.set ⟨m.heap, m.next, base, []⟩ b (some (.cells (putCells cs off (cellsOfV y)) el g md none)))) := by
  rw [hideB_all _ _ _ hin, ho, doOp_h rfl]
  have h4 : storeA ⟨m.heap, m.next, base, []⟩ b off (cellsOfV y) = some (AW.set ⟨m.heap, m.next, base, []⟩ b (some (.cells (putCells cs off (cellsOfV y)) el g md none))) := by
   unfold storeA
   cases hc : cellsOfV y with
   | nil => rw [hc] at hl; simp at hl
   | cons c r =>
    rw [hc] at hw
    simp only [hb, hw, kill, cond_true]
  have h5 : Nat.beq (cellsOfV y).length (n + 1) = true := by rw [nbeq, hl]; simp
  simp only [opH, evE_ev h1 ha, evE_ev h1 hx, storeV, hsz, h5, cond_true, h4, valM]
 have e1 : (i.hok && plainB i.pre m.heap mk) = true := by rw [hok, plainB_all _ _ _ hin]; rfl
 have hlt : Nat.blt b base = false := by
  rw [nblt, decide_eq_false_iff_not]
  omega
 have e3 : writeOk i.pre (AW.set ⟨m.heap, m.next, base, []⟩ b (some (.cells (putCells cs off (cellsOfV y)) el g md none))).log rs = true := by
  have : (AW.set ⟨m.heap, m.next, base, []⟩ b (some (.cells (putCells cs off (cellsOfV y)) el g md none))).log = [] := by
   simp only [AW.set, hlt, cond_false]
  rw [this]
  exact writeOk_nil _ _
 unfold dops
 rw [wantE_spec h1 hg]
 simp only [cond_true, hi, e1, e2, e3, showB_all _ _ _ _ hin, hd]
 have hlog : below X.m0.lo (AW.set ⟨m.heap, m.next, base, []⟩ b (some (.cells (putCells cs off (cellsOfV y)) el g md none))).log ++ m.log = (m.set b (some (.cells (putCells cs off (cellsOfV y)) el g md none))).log := by
  simp only [AW.set, h2.lo]
  cases hbb : Nat.blt b base with
  | true =>
   simp only [cond_true, below]
   cases Nat.blt b X.m0.lo <;> rfl
  | false =>
   simp only [cond_false, below, List.nil_append]
   have : Nat.blt b X.m0.lo = false := by
    rw [nblt, decide_eq_false_iff_not] at hbb ⊢
    have := h2.lole
    have := h3.1
    omega
   rw [this]
   rfl
 rw [hlog]
 have hput : put X.n ts none undef = ts := rfl
 have hheap : (⟨(AW.set ⟨m.heap, m.next, base, []⟩ b (some (.cells (putCells cs off (cellsOfV y)) el g md none))).heap, (AW.set ⟨m.heap, m.next, base, []⟩ b (some (.cells (putCells cs off (cellsOfV y)) el g md none))).next, X.m0.lo, (m.set b (some (.cells (putCells cs off (cellsOfV y)) el g md none))).log⟩ : AW) = m.set b (some (.cells (putCells cs off (cellsOfV y)) el g md none)) := by
  simp only [AW.set, h2.lo]
 rw [hheap, hput]
 exact g1
end
end Go.Ab
namespace Go.Ab
variable [Vals]
theorem Flat.take (h : Flat sz R l vs) (hj : j ≤ l.length) : Flat sz R (l.take j) (vs.take (j * sz)) := by
 obtain ⟨h1, h2⟩ := h
 have hle : j * sz ≤ vs.length := by
  rw [h1]
  exact Nat.mul_le_mul_right _ hj
 refine ⟨by rw [List.length_take, List.length_take, Nat.min_eq_left hle, Nat.min_eq_left hj], fun i x hx => ?_⟩
 rw [List.getElem?_take] at hx
 split at hx
 ·rename_i hlt
  have := h2 i x hx
  have h3 : i * sz + sz ≤ j * sz := by
   have := Nat.mul_le_mul_right sz (show i + 1 ≤ j by omega)
   rw [Nat.add_mul, Nat.one_mul] at this
   exact this
  rw [List.drop_take, List.take_take, Nat.min_eq_left (by omega)]
  exact this
 cases hx
section
variable {α : Type} {X : Cx} {ops : Array Oper} {base : Nat} {rI : List Nat} {cl : Bool} {mk : List (Nat × Nat)} {e : Env} {h : Hp} {Q : Out → Prop} {o : Oper} {i : Info} {rest : List Oper} {drest : List (Oper × Info)} {t : Tmp}
end
end Go.Ab