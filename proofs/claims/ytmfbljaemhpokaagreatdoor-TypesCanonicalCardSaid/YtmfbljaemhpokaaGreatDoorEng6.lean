/-
  The engine, part 6: an interpreter over abstract memories, and the proof that the model's machine does what it reckons. Conditions: none.
-/
import Derived.Test.YtmfbljaemhpokaaGreatDoorEng5

set_option autoImplicit true
set_option relaxedAutoImplicit true
set_option linter.unusedSectionVars false
set_option linter.unusedVariables false
set_option linter.unusedSimpArgs false
namespace Go.Ab
variable [Vals]
def mkI : Nat → List (Nat × Nat) → List Info
 | _, [] => []
 | n, (c, p) :: l => ⟨n, match c / 4 with | 0 => .l | 1 => .h | 2 => .a | _ => .p, Nat.beq (c / 2 % 2) 1, Nat.beq (c % 2) 1, p⟩ :: mkI (n + 1) l
section
variable {X : Cx} {ops : Array Oper} {base : Nat} {rI : List Nat} {cl : Bool} {mk : List (Nat × Nat)} {e : Env} {h : Hp} {Q : Out → Prop} {o : Oper} {i : Info} {rest : List Oper} {drest : List (Oper × Info)} {t : Tmp} {v : Value}
theorem Ce.D {id : Nat} (l : List (Nat × Nat)) (hi : infos X.P ops.toList = mkI 0 l) (htm : tmpsOk (ops.toList.zip (mkI 0 l)) ops.toList = true) (q : ∀ base, X.m0.next ≤ base → (∀ b o, (b, o) ∈ h → b < base) → De X ops base [] true [] e h (ops.toList.zip (mkI 0 l)) Q) : Ce X e h (.region id ops true) Q := Ce.draw _ hi htm q
theorem Ie.S {b off n : Nat} (hsz : sizeT X.P ty = some (n + 1)) (q : Ie X ops e h' rest Q) (hd : o.dst = none := by exact rfl) (hg : wantE ops e o = some true := by exact rfl) (ho : o.op = .store ty a x := by exact rfl) (ha : evE X.P e a = some (.pointer (some ⟨b, off, none⟩)) := by exact rfl) (hx : evE X.P e x = some y := by exact rfl) (hl : (cellsOfV y).length = n + 1 := by exact rfl) (hu : Upd h b (.cells cs el g md none) (.cells (putCells cs off (cellsOfV y)) el g md none) h' := by first | exact .head | exact .tail .head | exact .tail (.tail .head) | exact .tail (.tail (.tail .head))) (hw : (md.writes && Nat.ble (off + (cellsOfV y).length) cs.length && flats (cellsOfV y)) = true := by exact rfl) : Ie X ops e h (o :: rest) Q := Ie.store hd hg ho ha hx hsz hl hu hw q
theorem Ie.A {b off n : Nat} (hty : aggT X.P ty = some true) (hsz : sizeT X.P ty = some n) (hs : Sees X h b (.cells cs el g md mate)) (hc : (cs.drop off).take n = vs) (q : Ie X ops ((t, .agg ⟨vs⟩) :: e) h rest Q) (hd : o.dst = some t := by exact rfl) (ht : Nat.blt t X.n = true := by exact rfl) (hg : wantE ops e o = some true := by exact rfl) (ho : o.op = .load ty a := by exact rfl) (ha : evE X.P e a = some (.pointer (some ⟨b, off, none⟩)) := by exact rfl) (hl : off + n ≤ cs.length := by omega) : Ie X ops e h (o :: rest) Q := Ie.loadAgg hd ht hg ho ha hty hsz hs hl hc q
theorem De.P (q : De X ops base rI cl mk ((t, v) :: e) h drest Q) (hi : i.cls = .p := by exact rfl) (hd : o.dst = some t := by exact rfl) (ht : Nat.blt t X.n = true := by exact rfl) (hg : wantE ops e o = some true := by exact rfl) (hv : opE X.P e o.op = some v := by exact rfl) : De X ops base rI cl mk e h ((o, i) :: drest) Q := De.p hi hd ht hg hv q
theorem De.O (q : De X ops base rI cl mk ((t, undef) :: e) h drest Q) (hd : o.dst = some t := by exact rfl) (ht : Nat.blt t X.n = true := by exact rfl) (hg : wantE ops e o = some false := by exact rfl) : De X ops base rI cl mk e h ((o, i) :: drest) Q := De.off hd ht hg q
theorem De.F {j b off k : Nat} (hf : ∀ b off, fieldAddrA X.P s (.pointer (some ⟨b, off, none⟩)) j = some (.pointer (some ⟨b, off + k, none⟩))) (q : De X ops base rI cl mk ((t, .pointer (some ⟨b, off + k, none⟩)) :: e) h drest Q) (hi : i.cls = .p := by exact rfl) (hd : o.dst = some t := by exact rfl) (ht : Nat.blt t X.n = true := by exact rfl) (hg : wantE ops e o = some true := by exact rfl) (ho : o.op = .fieldAddr s x j := by exact rfl) (hx : evE X.P e x = some (.pointer (some ⟨b, off, none⟩)) := by exact rfl) : De X ops base rI cl mk e h ((o, i) :: drest) Q := De.fieldAddr hi hd ht hg ho hx hf q
theorem De.K {b off len cap sz j : Nat} (hu : X.P.underlying ty = some (.slice el)) (hs : sizeT X.P el = some sz) (q : De X ops base rI cl mk ((t, .pointer (some ⟨b, off + j * sz, none⟩)) :: e) h drest Q) (hi : i.cls = .p := by exact rfl) (hd : o.dst = some t := by exact rfl) (ht : Nat.blt t X.n = true := by exact rfl) (hg : wantE ops e o = some true := by exact rfl) (ho : o.op = .indexAddr ty x y := by exact rfl) (hx : evE X.P e x = some (.slice (some ⟨b, off, none⟩) len cap) := by exact rfl) (hy : evE X.P e y = some (.int k (Int.ofNat j)) := by exact rfl) (hj : j < len := by omega) : De X ops base rI cl mk e h ((o, i) :: drest) Q := De.indexAddr hi hd ht hg ho hu hs hx hy hj q
theorem De.M {b off : Nat} (hty : aggT X.P ty = some false) (hs : Sees X h b (.cells cs el g md mate)) (hc : cs[off]? = some v) (q : De X ops base rI cl mk ((t, v) :: e) h drest Q) (hi : i.cls = .l := by exact rfl) (hfl : i.full = true := by exact rfl) (hin : allIn i.pre (mk.map Prod.fst) = true := by exact rfl) (hd : o.dst = some t := by exact rfl) (ht : Nat.blt t X.n = true := by exact rfl) (hg : wantE ops e o = some true := by exact rfl) (ho : o.op = .load ty a := by exact rfl) (ha : evE X.P e a = some (.pointer (some ⟨b, off, none⟩)) := by exact rfl) : De X ops base rI cl mk e h ((o, i) :: drest) Q := De.load hi hfl hin hd ht hg ho ha hty hs hc q
theorem De.N {b off : Nat} (hty : aggT X.P ty = some false) (hs : Sees X h b (.cells cs el g md mate)) (hc : cs[off]? = some v) (hb : b < base) (q : De X ops base (i.i :: rI) true mk ((t, v) :: e) h drest Q) (hi : i.cls = .l := by exact rfl) (hd : o.dst = some t := by exact rfl) (ht : Nat.blt t X.n = true := by exact rfl) (hg : wantE ops e o = some true := by exact rfl) (ho : o.op = .load ty a := by exact rfl) (ha : evE X.P e a = some (.pointer (some ⟨b, off, none⟩)) := by exact rfl) : De X ops base rI true mk e h ((o, i) :: drest) Q := De.loadOld hi hd ht hg ho ha hty hs hc hb q
theorem Ie.W (u j : Nat) (q : Ie X ops ((u, .int .i64 (Int.ofNat (j + 1))) :: e) h rest Q) (hj : j + 1 ≤ 9223372036854775807 := by omega) (hl : look e u = some w := by exact rfl) (hw : w = .int .i64 (wr .i64 (Int.ofNat j + 1)) := by exact rfl) : Ie X ops e h rest Q := Ie.as u (.int .i64 (Int.ofNat (j + 1))) hl (hw.trans (congrArg (Value.int .i64) (by
 show (bif Nat.ble (j + 1) 9223372036854775807 then Int.ofNat (j + 1) else _) = _
 rw [nble, decide_eq_true hj]
 rfl))) q
theorem De.J {b off : Nat} (hty : aggT X.P ty = some false) (q : De X ops base rI cl mk ((t, v) :: e) h drest Q) (hi : i.cls = .l := by exact rfl) (hfl : i.full = true := by exact rfl) (hin : allIn i.pre (mk.map Prod.fst) = true := by exact rfl) (hd : o.dst = some t := by exact rfl) (ht : Nat.blt t X.n = true := by exact rfl) (hg : wantE ops e o = some true := by exact rfl) (ho : o.op = .load ty a := by exact rfl) (ha : evE X.P e a = some (.pointer (some ⟨b, off, none⟩)) := by exact rfl) (hs : Sees X h b (.cells cs el g md mate) := by repeat first | exact .head | exact .app .head | exact .base ‹_› ‹_› (by simp) | refine .tail ?_ | refine .app ?_) (hc : cs[off]? = some v := by exact rfl) : De X ops base rI cl mk e h ((o, i) :: drest) Q := De.load hi hfl hin hd ht hg ho ha hty hs hc q
theorem De.R {h0 : Hp} {b off : Nat} (hty : aggT X.P ty = some false) (hB : ∀ b o, (b, o) ∈ h0 → b < base) (q : De X ops base (i.i :: rI) true mk ((t, v) :: e) h drest Q) (hi : i.cls = .l := by exact rfl) (hd : o.dst = some t := by exact rfl) (ht : Nat.blt t X.n = true := by exact rfl) (hg : wantE ops e o = some true := by exact rfl) (ho : o.op = .load ty a := by exact rfl) (ha : evE X.P e a = some (.pointer (some ⟨b, off, none⟩)) := by exact rfl) (hs : Sees X h b (.cells cs el g md mate) := by repeat first | exact .head | exact .app .head | exact .base ‹_› ‹_› (by simp) | refine .tail ?_ | refine .app ?_) (hc : cs[off]? = some v := by exact rfl) (hb : ∃ o, (b, o) ∈ h0 := by first | exact ⟨_, .head _⟩ | exact ⟨_, .tail _ (.head _)⟩ | exact ⟨_, .tail _ (.tail _ (.head _))⟩ | exact ⟨_, .tail _ (.tail _ (.tail _ (.head _)))⟩ | exact ⟨_, List.mem_append_right _ (.head _)⟩ | exact ⟨_, List.mem_append_right _ (.tail _ (.head _))⟩) : De X ops base rI true mk e h ((o, i) :: drest) Q := De.loadOld hi hd ht hg ho ha hty hs hc (hb.elim fun o ho => hB b o ho) q
theorem De.E {b off n : Nat} (hty : aggT X.P ty = some true) (hsz : sizeT X.P ty = some n) (q : De X ops base rI cl mk ((t, .agg ⟨vs⟩) :: e) h drest Q) (hi : i.cls = .l := by exact rfl) (hfl : i.full = true := by exact rfl) (hin : allIn i.pre (mk.map Prod.fst) = true := by exact rfl) (hd : o.dst = some t := by exact rfl) (ht : Nat.blt t X.n = true := by exact rfl) (hg : wantE ops e o = some true := by exact rfl) (ho : o.op = .load ty a := by exact rfl) (ha : evE X.P e a = some (.pointer (some ⟨b, off, none⟩)) := by exact rfl) (hs : Sees X h b (.cells cs el g md mate) := by repeat first | exact .head | exact .app .head | exact .base ‹_› ‹_› (by simp) | refine .tail ?_ | refine .app ?_) (hl : off + n ≤ cs.length := by exact Nat.le_of_ble_eq_true rfl) (hc : (cs.drop off).take n = vs := by exact rfl) : De X ops base rI cl mk e h ((o, i) :: drest) Q := De.loadAgg hi hfl hin hd ht hg ho ha hty hsz hs hl hc q
theorem Ie.E {b off n : Nat} (hty : aggT X.P ty = some true) (hsz : sizeT X.P ty = some n) (q : Ie X ops ((t, .agg ⟨vs⟩) :: e) h rest Q) (hd : o.dst = some t := by exact rfl) (ht : Nat.blt t X.n = true := by exact rfl) (hg : wantE ops e o = some true := by exact rfl) (ho : o.op = .load ty a := by exact rfl) (ha : evE X.P e a = some (.pointer (some ⟨b, off, none⟩)) := by exact rfl) (hs : Sees X h b (.cells cs el g md mate) := by repeat first | exact .head | exact .app .head | exact .base ‹_› ‹_› (by simp) | refine .tail ?_ | refine .app ?_) (hl : off + n ≤ cs.length := by exact Nat.le_of_ble_eq_true rfl) (hc : (cs.drop off).take n = vs := by exact rfl) : Ie X ops e h (o :: rest) Q := Ie.loadAgg hd ht hg ho ha hty hsz hs hl hc q
theorem Ie.P2 (q : Ie X ops ((t2, v2) :: (t1, v1) :: e) h rest Q) (hd1 : o1.dst = some t1 := by exact rfl) (ht1 : Nat.blt t1 X.n = true := by exact rfl) (hg1 : wantE ops e o1 = some true := by exact rfl) (hv1 : opE X.P e o1.op = some v1 := by exact rfl) (hd2 : o2.dst = some t2 := by exact rfl) (ht2 : Nat.blt t2 X.n = true := by exact rfl) (hg2 : wantE ops ((t1, v1) :: e) o2 = some true := by exact rfl) (hv2 : opE X.P ((t1, v1) :: e) o2.op = some v2 := by exact rfl) : Ie X ops e h (o1 :: o2 :: rest) Q := Ie.p hd1 ht1 hg1 hv1 (Ie.p hd2 ht2 hg2 hv2 q)
theorem Ie.P3 (q : Ie X ops ((t3, v3) :: (t2, v2) :: (t1, v1) :: e) h rest Q) (hd1 : o1.dst = some t1 := by exact rfl) (ht1 : Nat.blt t1 X.n = true := by exact rfl) (hg1 : wantE ops e o1 = some true := by exact rfl) (hv1 : opE X.P e o1.op = some v1 := by exact rfl) (hd2 : o2.dst = some t2 := by exact rfl) (ht2 : Nat.blt t2 X.n = true := by exact rfl) (hg2 : wantE ops ((t1, v1) :: e) o2 = some true := by exact rfl) (hv2 : opE X.P ((t1, v1) :: e) o2.op = some v2 := by exact rfl) (hd3 : o3.dst = some t3 := by exact rfl) (ht3 : Nat.blt t3 X.n = true := by exact rfl) (hg3 : wantE ops ((t2, v2) :: (t1, v1) :: e) o3 = some true := by exact rfl) (hv3 : opE X.P ((t2, v2) :: (t1, v1) :: e) o3.op = some v3 := by exact rfl) : Ie X ops e h (o1 :: o2 :: o3 :: rest) Q := Ie.p hd1 ht1 hg1 hv1 (Ie.p hd2 ht2 hg2 hv2 (Ie.p hd3 ht3 hg3 hv3 q))
end
end Go.Ab
namespace Go.Ab
variable [Vals]
section
variable {X : Cx} {ops : Array Oper} {base : Nat} {rI : List Nat} {cl : Bool} {mk : List (Nat × Nat)} {e : Env} {h : Hp} {drest : List (Oper × Info)} {rest : List Oper} {Q : Out → Prop} {o : Oper} {i : Info} {t : Tmp}
theorem De.lookupOk {κ : Type} {x k : Operand} [DecidableEq κ] {K : κ → Value} {l : List (κ × Value)} {kv : κ} (hp : Pick h [(b, .map es c)] r) (hP : PairsK K es l) (hK : KeyOk X.P kt K) (hi : i.cls = .l) (hfl : i.full = true) (hin : allIn i.pre (mk.map Prod.fst) = true) (hd : o.dst = some t) (ht : Nat.blt t X.n = true) (hg : wantE ops e o = some true) (ho : o.op = .lookup ty x k true) (hu : X.P.underlying ty = some (.map kt et)) (hz : zeroT X.P et = some z) (hx : evE X.P e x = some (.map (some b))) (hk : evE X.P e k = some (K kv)) (hv : (match getP kv l with | some v => Value.tuple #[v, .bool true] | none => .tuple #[z, .bool false]) = v) (q : De X ops base rI cl mk ((t, v) :: e) h drest Q) : De X ops base rI cl mk e h ((o, i) :: drest) Q := by
  have hf := findA_pairs hK kv es l 0 hP
  have hgt := findP_get kv l 0
  refine De.rdFull (b := b) (ob := .map es c) (f := fun o => match o with
    | .map es _ => match findA X.P kt (K kv) es 0 with
      | some (some (_, v)) => some (if true = true then .tuple #[v, .bool true] else v)
      | some none => (zeroT X.P et).map fun z => if true = true then .tuple #[z, .bool false] else z
      | none => none
    | _ => none) hi hfl hin hd ht hg (fun ts H => ?_) (fun m hm => ((hm.perm hp.perm).has b (.map es c) (by simp)).1) ?_ q
  · rw [ho]
    show lookup1 X.P ts ty x k true = _
    unfold lookup1
    rw [evE_ev H hx, evE_ev H hk]
    show lookupA X.P ty (.map (some b)) (K kv) true = _
    unfold lookupA
    simp only [hu, hK.ok, cond_true]
    rfl
  · simp only [hf]
    cases hff : findP kv l 0 with
    | none =>
      rw [hff] at hgt
      rw [← hgt] at hv
      simp only [hz, Option.map_some, if_true]
      rw [← hv]
      rfl
    | some y =>
      obtain ⟨j, w⟩ := y
      rw [hff] at hgt
      rw [← hgt] at hv
      simp only [if_true]
      rw [← hv]
      rfl
theorem De.mapUpdate {κ : Type} [DecidableEq κ] {K : κ → Value} {l : List (κ × Value)} {kv : κ} {x k y : Operand} (hp : Pick h [(b, .map es c)] r) (hP : PairsK K es l) (hK : KeyOk X.P kt K) (hi : i.cls = .h) (hok : i.hok = true) (hin : allIn i.pre (mk.map Prod.fst) = true) (hri : allIn i.pre rI = true) (hd : o.dst = none) (hg : wantE ops e o = some true) (ho : o.op = .mapUpdate ty x k y) (hu : X.P.underlying ty = some (.map kt et)) (hx : evE X.P e x = some (.map (some b))) (hk : evE X.P e k = some (K kv)) (hy : evE X.P e y = some v) (q : ∀ es' c', PairsK K es' (putP kv v l) → De X ops base rI false mk e ((b, .map es' c') :: r) drest Q) : De X ops base rI cl mk e h ((o, i) :: drest) Q := fun ts m rs ws h1 h2 h3 h4 h5 => by
 obtain ⟨es', c', f1, f2⟩ := hP.put hK kv v c
 have hset := (h2.perm hp.perm).set (.head (o' := .map es' c'))
 obtain ⟨n, out, g1, g2⟩ := q es' c' f2 ts (m.set b (some (.map es' c'))) rs ((i.i, bif Nat.blt b base then [b] else []) :: ws) h1 hset h3 h4 (fun hf => by cases hf)
 refine ⟨n, out, ?_, g2⟩
 have hb : m.heap.get b = some (.map es c) := ((h2.perm hp.perm).has b (.map es c) (by simp)).1
 have e2 : doOp X.P (irun X.P n) ts o.op ⟨hideB i.pre mk m.heap, m.next, base, []⟩ = some (.val undef (AW.set ⟨m.heap, m.next, base, []⟩ b (some (.map es' c')))) := by
  rw [hideB_all _ _ _ hin, ho, doOp_h rfl]
  have : evs X.P ts [x, k, y] = some [.map (some b), K kv, v] := by
   unfold evs evs evs evs
   rw [evE_ev h1 hx, evE_ev h1 hk, evE_ev h1 hy]
   rfl
  show (match evs X.P ts [x, k, y] with | some [mp, k, x] => mapSet X.P ty mp k x _ | _ => none) = _
  rw [this]
  show mapSet X.P ty (.map (some b)) (K kv) v _ = _
  unfold mapSet
  simp only [hu, hK.ok, cond_true, hb, f1]
 have e1 : (i.hok && plainB i.pre m.heap mk) = true := by rw [hok, plainB_all _ _ _ hin]; rfl
 have e3 : ∀ w, writeOk i.pre w rs = true := fun w => writeOk_in _ _ _ hri _ h4
 unfold dops
 rw [wantE_spec h1 hg]
 simp only [cond_true, hi, e1, e2, e3, showB_all _ _ _ _ hin, hd]
 have hlog : below X.m0.lo (AW.set ⟨m.heap, m.next, base, []⟩ b (some (.map es' c'))).log ++ m.log = (m.set b (some (.map es' c'))).log := by
  simp only [AW.set, h2.lo]
  cases hbb : Nat.blt b base with
  | true =>
   simp only [cond_true, below]
   cases Nat.blt b X.m0.lo <;> rfl
  | false =>
   simp only [cond_false, below, List.nil_append]
   have : Nat.blt b X.m0.lo = false := by
    rw [nblt, decide_eq_false_iff_not] at hbb ⊢
    have := h2.lole
    have := h3.1
    omega
   rw [this]
   rfl
 rw [hlog]
 have hput : put X.n ts none undef = ts := rfl
 have hheap : (⟨(AW.set ⟨m.heap, m.next, base, []⟩ b (some (.map es' c'))).heap, (AW.set ⟨m.heap, m.next, base, []⟩ b (some (.map es' c'))).next, X.m0.lo, (m.set b (some (.map es' c'))).log⟩ : AW) = m.set b (some (.map es' c')) := by
  simp only [AW.set, h2.lo]
 rw [hheap, hput]
 exact g1
theorem Ie.storeGro {v : Value} {g : Gro} {cs : List Value} (hp : Pick h (g.H el cs) r) (hgb : g = .one b ∨ ∃ b0 old, g = .two b b0 old) (hj : j < cs.length) (hv : cellsOfV v = [v]) (hfv : flat v = true) (hd : o.dst = none) (hg : wantE ops e o = some true) (ho : o.op = .store ty a y) (hsz : sizeT X.P ty = some 1) (ha : evE X.P e a = some (.pointer (some ⟨b, j, none⟩))) (hx : evE X.P e y = some v) (q : Ie X ops e ((Gro.one b).H el (cs.set j v) ++ r) rest Q) : Ie X ops e h (o :: rest) Q := by
 have h5 : Nat.beq (cellsOfV v).length 1 = true := by rw [hv]; rfl
 have hw : ∀ md : CMode, md = .plain → (md.writes && Nat.ble (j + [v].length) cs.length && flats [v]) = true := fun md e => by
  rw [e, nble, decide_eq_true (by simp; omega)]
  simp [flats, hfv, CMode.writes]
 rcases hgb with rfl | ⟨b0, old, rfl⟩
 ·refine Ie.val_ (v := undef) _ hd hg (by rw [ho]; rfl) (fun ts m h1 h2 => ⟨0, m.set b (some (.cells (cs.set j v) el true .plain none)), ?_, (h2.perm hp.perm).set .head⟩) q
  rw [ho, doOp_h rfl]
  have h3 : m.heap.get b = some (.cells cs el true .plain none) := ((h2.perm hp.perm).has b _ (by simp [Gro.H])).1
  have h4 : storeA m b j [v] = some (m.set b (some (.cells (cs.set j v) el true .plain none))) := by
   unfold storeA
   simp only [h3, hw _ rfl, kill, cond_true, putCells_set _ _ hj]
  simp only [opH, evE_ev h1 ha, evE_ev h1 hx, storeV, hsz, h5, cond_true, hv, h4, valM]
  rfl
 refine Ie.val_ (v := undef) _ hd hg (by rw [ho]; rfl) (fun ts m h1 h2 => ⟨0, (m.set b0 none).set b (some (.cells (cs.set j v) el true .plain none)), ?_, ?_⟩) q
 ·rw [ho, doOp_h rfl]
  have h3 : m.heap.get b = some (.cells cs el true .plain (some b0)) := ((h2.perm hp.perm).has b _ (by simp [Gro.H])).1
  have h4 : storeA m b j [v] = some ((m.set b0 none).set b (some (.cells (cs.set j v) el true .plain none))) := by
   unfold storeA
   simp only [h3, hw _ rfl, kill, cond_true, putCells_set _ _ hj]
  simp only [opH, evE_ev h1 ha, evE_ev h1 hx, storeV, hsz, h5, cond_true, hv, h4, valM]
  rfl
 have k1 := h2.perm (hp.perm.trans (List.Perm.swap _ _ _))
 exact k1.kill.set .head
inductive Dro where
 | gro (g : Gro)
 | tig (b : Nat)
def Dro.H (e : TypeId) (cs : List Value) : Dro → Hp
 | .gro g => g.H e cs
 | .tig b => [(b, .cells cs e false .plain none)]
def Dro.V (n : Nat) : Dro → Value
 | .gro g => g.V n
 | .tig b => .slice (some ⟨b, 0, none⟩) n n
def Dro.Ok (n : Nat) : Dro → Prop
 | .gro g => g.Ok n
 | .tig _ => 0 < n ∧ n ≤ 4294967296
end
section
variable {X : Cx} {e : Env} {h : Hp} {Q : Out → Prop} {a b : Code} {β : Type}
end
end Go.Ab
namespace Go.Ab
variable [Vals]
def byC (l : List UInt8) : List Value := l.map fun b => .int .u8 (Int.ofNat b.toNat)
theorem flats_byC : ∀ l : List UInt8, flats (byC l) = true
 | [] => rfl
 | _ :: l => flats_byC l
theorem bytesOf_byC : ∀ l : List UInt8, bytesOf (byC l) = some l
 | [] => rfl
 | b :: l => by
  show (bytesOf (byC l)).map (UInt8.ofNat (Int.ofNat b.toNat).toNat :: ·) = _
  rw [bytesOf_byC l]
  show some (UInt8.ofNat b.toNat :: l) = _
  rw [UInt8.ofNat_toNat]
theorem byC_append (l l' : List UInt8) : byC (l ++ l') = byC l ++ byC l' := List.map_append
theorem byC_len (l : List UInt8) : (byC l).length = l.length := List.length_map ..
section
variable {X : Cx} {ops : Array Oper} {e : Env} {h : Hp} {Q : Out → Prop} {o : Oper} {rest : List Oper} {t : Tmp}
theorem Shows.str (s : ByteArray) : Shows X h 1 (.string s) s.size (byC s.data.toList) := by
 refine ⟨rfl, by rw [byC_len]; simp, flats_byC _, fun m lo lg _ => ?_⟩
 show some ((s.data.toList.take s.size).map _) = _
 rw [List.take_of_length_le (by simp)]
 rfl
theorem appendV_str {P : Program} {el : TypeId} {sz k : Nat} {x s : Value} {m : AW} {vs : List Value} (h1 : P.underlying t1 = some (.slice el)) (h2 : P.underlying t2 = some .string) (hsz : sizeT P el = some sz) (hl : lenV x = some k) (hf : firstA m sz k x = some vs) : appendV P (some t1) (some t2) s x m = valP (appendA P el m s k vs) := by
 unfold appendV
 simp only [Option.bind_some, h1, h2, hsz, hl, hf]
theorem Ie.appendStr {g : Gro} {s x : Operand} {st : ByteArray} {n : Nat} {cs : List Value} {h1 : Hp} (hp : Pick h (g.H el cs) h1) (hx : evE X.P e x = some (.string st)) (hg : g.Ok n) (hc : cs.length = n) (hn : n + st.size ≤ 4294967296) (hd : o.dst = some t) (ht : Nat.blt t X.n = true) (hgd : wantE ops e o = some true) (ho : o.op = .call { callee := .builtin .append, args := #[s, x], argTypes := #[t1, t2] }) (hu1 : X.P.underlying t1 = some (.slice el)) (hu2 : X.P.underlying t2 = some .string) (hT : AppT X.P el 1) (hs : evE X.P e s = some (g.V n))
  (q : ∀ g' : Gro, g'.Ok (n + st.size) → Ie X ops ((t, g'.V (n + st.size)) :: e) (g'.H el (cs ++ byC st.data.toList) ++ h1) rest Q) : Ie X ops e h (o :: rest) Q := fun ts m a1 a2 => by
 have hv := Shows.str (X := X) (h := h) st
 obtain ⟨g', hp', nx, tch, h3, h4, h5, _, _⟩ := appendA_gro hT (a2.perm hp.perm) hg (by rw [hc]; simp) hv.2.1 hv.2.2.1 hn
 refine Io.op (k := 0) (m' := ⟨hp', nx, m.lo, below m.lo tch ++ m.log⟩) (v := g'.V (n + st.size)) (wantE_spec a1 hgd) (by rw [ho]; rfl) ?_ ?_
 ·rw [ho, doOp_h rfl]
  have : evs X.P ts [s, x] = some [g.V n, .string st] := by
   unfold evs evs evs
   rw [evE_ev a1 hs, evE_ev a1 hx]
   rfl
  show (match evs X.P ts [s, x] with | some args => callB X.P .append args #[t1, t2] m | none => none) = _
  rw [this]
  show appendV X.P (some t1) (some t2) (g.V n) (.string st) m = _
  rw [appendV_str hu1 hu2 hT.1 hv.1 (hv.2.2.2 m m.lo m.log a2)]
  have h6 := h3 m.lo m.log
  rw [show (⟨m.heap, m.next, m.lo, m.log⟩ : AW) = m from rfl] at h6
  rw [h6]
  rfl
 rw [hd]
 exact q g' h5 _ _ (a1.put ht _) h4
theorem Ie.toUnsafe {b off sz : Nat} (hd : o.dst = some t) (ht : Nat.blt t X.n = true) (hg : wantE ops e o = some true) (ho : o.op = .convert s d x) (hs : X.P.underlying s = some (.pointer u)) (hd' : X.P.underlying d = some .unsafePointer) (hx : evE X.P e x = some (.pointer (some ⟨b, off, none⟩))) (hsz : sizeT X.P u = some (sz + 1)) (hc : Sees X h b (.cells cs el false md mate)) (hl : Nat.blt off cs.length = true) (q : Ie X ops ((t, .pointer (some ⟨b, off, none⟩)) :: e) h rest Q) : Ie X ops e h (o :: rest) Q := by
 refine Ie.val h hd ht hg (by rw [ho]; rfl) (fun ts m h1 h2 => ⟨0, m, ?_, h2⟩) q
 have hcl : cls X.P (.convert s d x) = .l := by unfold cls; simp only [hs, hd']
 rw [ho, doOp_l hcl]
 simp only [opL, evE_ev h1 hx, Option.bind_some, convL, hs, hd', Go.Ab.toUnsafe, hsz, doL, hc m h2, hl, cond_true]
theorem Ie.fromUnsafe {b off sz : Nat} (hd : o.dst = some t) (ht : Nat.blt t X.n = true) (hg : wantE ops e o = some true) (ho : o.op = .convert s d x) (hs : X.P.underlying s = some .unsafePointer) (hd' : X.P.underlying d = some (.pointer u)) (hx : evE X.P e x = some (.pointer (some ⟨b, off, none⟩))) (hsz : sizeT X.P u = some (sz + 1)) (hc : Sees X h b (.cells cs el false md mate)) (hl : liesAt X.P X.P.depth el (cs.length / X.P.cellsOf el) off u 1 = true) (q : Ie X ops ((t, .pointer (some ⟨b, off, none⟩)) :: e) h rest Q) : Ie X ops e h (o :: rest) Q := by
 refine Ie.val h hd ht hg (by rw [ho]; rfl) (fun ts m h1 h2 => ⟨0, m, ?_, h2⟩) q
 have hcl : cls X.P (.convert s d x) = .l := by unfold cls; simp only [hs, hd']
 rw [ho, doOp_l hcl]
 simp only [opL, evE_ev h1 hx, Option.bind_some, convL, hs, hd', Go.Ab.fromUnsafe, hsz, doL, hc m h2, hl, cond_true]
end
def Gro.blk : Gro → Nat
 | .no => 0
 | .emp b => b
 | .one b => b
 | .two b _ _ => b
theorem Gro.V_blk {g : Gro} {n : Nat} (h : g.Ok n) (hn : 0 < n) : g.V n = .slice (some ⟨g.blk, 0, none⟩) n top := by
 cases g with
 | no => exact absurd h (Nat.ne_of_gt hn)
 | emp b => exact absurd h (Nat.ne_of_gt hn)
 | one b => rfl
 | two b c old => rfl
theorem unsafeStr_gro {P : Program} {S : List Nat} {m0 m : AW} {el : TypeId} {out : List UInt8} {t : Option TypeId} {h : Hp} {g : Gro} (hk : Knows S m0 m (g.H el (byC out) ++ h)) (hg : g.Ok out.length) (hne : 0 < out.length) (hu : P.underlying el = some (.int .u8)) (hpe : ptrElem P t el = true) (hce : Nat.beq (P.cellsOf el) 1 = true) (hlen : Nat.ble out.length 4294967296 = true) :
  ∃ hp tch, (∀ lo lg, unsafeStr P t (.pointer (some ⟨g.blk, 0, none⟩)) (.int .i64 (Int.ofNat out.length)) ⟨m.heap, m.next, lo, lg⟩ = some (.val (.string ⟨⟨out⟩⟩) ⟨hp, m.next, lo, below lo tch ++ lg⟩)) ∧ Knows S m0 ⟨hp, m.next, m.lo, below m.lo tch ++ m.log⟩ h := by
 obtain ⟨k, hkl⟩ : ∃ k, out.length = k + 1 := ⟨out.length - 1, by omega⟩
 have hrd : ∀ md mate, rdCells (.cells (byC out) el true md mate) 0 (k + 1) = some (byC out) := fun md mate => by
  unfold rdCells
  have h1 : Nat.ble (0 + (k + 1)) (byC out).length = true := by rw [nble, byC_len, decide_eq_true_eq]; omega
  have h2 : (List.drop 0 (byC out)).take (k + 1) = byC out := by rw [List.drop_zero, List.take_of_length_le (by rw [byC_len]; omega)]
  simp only [h1, cond_true, h2]
 rw [hkl] at hlen
 cases g with
 | no => exact absurd hg (Nat.ne_of_gt hne)
 | emp b => exact absurd hg (Nat.ne_of_gt hne)
 | one b =>
  have hb := (hk.has b _ List.mem_cons_self).1
  refine ⟨m.heap.set b (some (.cells (byC out) el true .frozen none)), [b], fun lo lg => ?_, ?_⟩
  ·rw [hkl]
   show unsafeStr P t (.pointer (some ⟨b, 0, none⟩)) (.int .i64 (Int.ofNat (k + 1))) ⟨m.heap, m.next, lo, lg⟩ = _
   unfold unsafeStr
   simp only [hb, hu, hrd, bytesOf_byC, hpe, hce, hlen, decide_true, Bool.true_or, Bool.and_self, cond_true, Go.Ab.kill, AW.set, below_set]
  have k1 := hk.set (b := b) (o' := .cells (byC out) el true .frozen none) .head
  have k2 : Knows S m0 (m.set b (some (.cells (byC out) el true .frozen none))) h := k1.sub (List.sublist_cons_self _ _)
  simp only [AW.set, below_set] at k2
  exact k2
 | two b b0 old =>
  have hb := (hk.has b _ List.mem_cons_self).1
  have hk2 : Knows S m0 m ((b0, .cells old el true .plain (some b)) :: (b, .cells (byC out) el true .plain (some b0)) :: h) := hk.perm (List.Perm.swap _ _ _)
  refine ⟨(m.heap.set b0 none).set b (some (.cells (byC out) el true .frozen none)), [b, b0], fun lo lg => ?_, ?_⟩
  ·rw [hkl]
   show unsafeStr P t (.pointer (some ⟨b, 0, none⟩)) (.int .i64 (Int.ofNat (k + 1))) ⟨m.heap, m.next, lo, lg⟩ = _
   unfold unsafeStr
   simp only [hb, hu, hrd, bytesOf_byC, hpe, hce, hlen, decide_true, Bool.true_or, Bool.and_self, cond_true, Go.Ab.kill, AW.set, below_set, below_two, List.append_assoc]
  have k1 := hk2.kill
  have k2 := k1.set (b := b) (o' := .cells (byC out) el true .frozen none) .head
  have k3 : Knows S m0 ((m.set b0 none).set b (some (.cells (byC out) el true .frozen none))) h := k2.sub (List.sublist_cons_self _ _)
  simp only [AW.set, below_set] at k3
  rw [below_two, List.append_assoc]
  exact k3
section
variable {X : Cx} {ops : Array Oper} {base : Nat} {rI : List Nat} {cl : Bool} {mk : List (Nat × Nat)} {e : Env} {h : Hp} {Q : Out → Prop} {o : Oper} {i : Info} {drest : List (Oper × Info)} {t : Tmp}
theorem De.sliceData {x : Operand} {a : Addr} {n c : Nat} {ats : Array TypeId} (hi : i.cls = .p) (hd : o.dst = some t) (ht : Nat.blt t X.n = true) (hg : wantE ops e o = some true) (ho : o.op = .call { callee := .builtin .unsafeSliceData, args := #[x], argTypes := ats }) (hx : evE X.P e x = some (.slice (some a) (n + 1) (c + 1))) (q : De X ops base rI cl mk ((t, .pointer (some a)) :: e) h drest Q) : De X ops base rI cl mk e h ((o, i) :: drest) Q :=
 De.pure hi hd ht hg (fun ts H => by
  rw [ho]
  have : evs X.P ts [x] = some [.slice (some a) (n + 1) (c + 1)] := by
   unfold evs evs
   rw [evE_ev H hx]
   rfl
  refine ⟨rfl, ?_⟩
  show sliceDataA (evs X.P ts [x]) = _
  rw [this]
  rfl) q
theorem De.unsafeStr {g : Gro} {el : TypeId} {out : List UInt8} {h1 : Hp} {x y : Operand} {t1 : TypeId} (hp : Pick h (g.H el (byC out)) h1) (hg : g.Ok out.length) (hne : 0 < out.length) (hu : X.P.underlying el = some (.int .u8)) (hpe : ptrElem X.P (some t1) el = true) (hce : Nat.beq (X.P.cellsOf el) 1 = true) (hlen : Nat.ble out.length 4294967296 = true) (hi : i.cls = .h) (hok : i.hok = true) (hin : allIn i.pre (mk.map Prod.fst) = true) (hri : allIn i.pre rI = true) (hd : o.dst = some t) (ht : Nat.blt t X.n = true) (hgd : wantE ops e o = some true) (ho : o.op = .call { callee := .builtin .unsafeString, args := #[x, y], argTypes := #[t1, t2] })
  (hx : evE X.P e x = some (.pointer (some ⟨g.blk, 0, none⟩))) (hy : evE X.P e y = some (.int .i64 (Int.ofNat out.length))) (q : De X ops base rI false mk ((t, .string ⟨⟨out⟩⟩) :: e) h1 drest Q) : De X ops base rI cl mk e h ((o, i) :: drest) Q := fun ts m rs ws a1 a2 a3 a4 a5 => by
 obtain ⟨hp', tch, h3, h4⟩ := unsafeStr_gro (t := some t1) (a2.perm hp.perm) hg hne hu hpe hce hlen
 obtain ⟨j, out', g1, g2⟩ := q _ ⟨hp', m.next, m.lo, below m.lo tch ++ m.log⟩ rs ((i.i, below base tch) :: ws) (a1.put ht _) h4 a3 a4 (fun hf => by cases hf)
 refine ⟨j, out', ?_, g2⟩
 have e2' : doOp X.P (irun X.P j) ts o.op ⟨hideB i.pre mk m.heap, m.next, base, []⟩ = some (.val (.string ⟨⟨out⟩⟩) ⟨hp', m.next, base, below base tch ++ []⟩) := by
  rw [hideB_all _ _ _ hin, ho, doOp_h rfl]
  have : evs X.P ts [x, y] = some [.pointer (some ⟨g.blk, 0, none⟩), .int .i64 (Int.ofNat out.length)] := by
   unfold evs evs evs
   rw [evE_ev a1 hx, evE_ev a1 hy]
   rfl
  show (match evs X.P ts [x, y] with | some args => callB X.P .unsafeString args #[t1, t2] ⟨m.heap, m.next, base, []⟩ | none => none) = _
  rw [this]
  exact h3 base []
 have e1 : (i.hok && plainB i.pre m.heap mk) = true := by rw [hok, plainB_all _ _ _ hin]; rfl
 have e3 : ∀ w, writeOk i.pre w rs = true := fun w => writeOk_in _ _ _ hri _ a4
 unfold dops
 rw [wantE_spec a1 hgd]
 have hle : X.m0.lo ≤ base := Nat.le_trans a2.lole a3.1
 simp only [cond_true, hi, e1, e2', e3, showB_all _ _ _ _ hin, hd, List.append_nil, below_below hle]
 rw [a2.lo] at g1
 exact g1
end
end Go.Ab
namespace Go.Ab
variable [Vals]
def IterG (P : Program) (g : FuncId) (first cap : List Value) (vs : List (List Value)) (D : Nat → Prop) (m : AW) : Prop :=
 ∀ (α : Type) (l : Nat) (A : Nat → α → Prop) (B : α → Prop) (H : α → Hp) (x0 : α),
  (∀ b, D b → b ∉ (H x0).map Prod.fst) → A 0 x0 → Knows ((H x0).map Prod.fst) m m (H x0) →
  (∀ i x v, vs[i]? = some v → A i x → ∀ m', Knows ((H x0).map Prod.fst) m m' (H x) → Yc P l v m' fun r m'' => ∃ x', Knows ((H x).map Prod.fst) m' m'' (H x') ∧ (r = .bool true ∧ A (i + 1) x' ∨ r = .bool false ∧ B x')) →
  Fc P g (first ++ [.func (.yield l) ⟨[]⟩ ⟨[]⟩] ++ cap) m fun _ m' => ∃ x', Knows ((H x0).map Prod.fst) m m' (H x') ∧ (A vs.length x' ∨ B x')
section
variable {X : Cx} {ops : Array Oper} {e : Env} {h : Hp} {Q : Out → Prop} {o : Oper} {rest : List Oper} {t : Tmp}
theorem Ie.yieldG {α : Type} {fo : Operand} {as : Array Operand} {ats : Array TypeId} {l : Nat} {C : List Nat} {A : Nat → α → Prop} {B : α → Prop} {H : α → Hp} {vs : List (List Value)} {m1 : AW} (hstep : ∀ i x v, vs[i]? = some v → A i x → ∀ m', Knows C m1 m' (H x) → Yc X.P l v m' fun r m'' => ∃ x', Knows ((H x).map Prod.fst) m' m'' (H x') ∧ (r = .bool true ∧ A (i + 1) x' ∨ r = .bool false ∧ B x')) (hS : X.S = C) (hm1 : X.m0 = m1) {i : Nat} {x : α} {v : List Value} {r : Hp} (hv : vs[i]? = some v) (hA : A i x) (hp : Pick h (H x) r) (hd : o.dst = some t) (ht : Nat.blt t X.n = true) (hg : wantE ops e o = some true) (ho : o.op = .call { callee := .value fo, args := as, argTypes := ats }) (ha : evsE X.P e as.toList = some v) (hf : evE X.P e fo = some (.func (.yield l) ⟨[]⟩ ⟨[]⟩))
  (q1 : ∀ x', A (i + 1) x' → Ie X ops ((t, .bool true) :: e) (H x' ++ r) rest Q) (q2 : ∀ x', B x' → Ie X ops ((t, .bool false) :: e) (H x' ++ r) rest Q) : Ie X ops e h (o :: rest) Q := by
 subst hS hm1
 refine Ie.yield (α := Bool × α) (fun y => y.1 = true ∧ A (i + 1) y.2 ∨ y.1 = false ∧ B y.2) (fun y => .bool y.1) (fun y => H y.2) hp hd ht hg ho ha hf (fun m hm => ?_) ?_
 ·obtain ⟨k, w, m', g1, x', g2, g3⟩ := hstep i x v hv hA m (hm.sub (List.sublist_append_left _ _))
  rcases g3 with ⟨rfl, g3⟩ | ⟨rfl, g3⟩
  ·exact ⟨k, _, m', g1, (true, x'), .inl ⟨rfl, g3⟩, rfl, g2⟩
  exact ⟨k, _, m', g1, (false, x'), .inr ⟨rfl, g3⟩, rfl, g2⟩
 rintro ⟨b, x'⟩ (⟨rfl, hA'⟩ | ⟨rfl, hB'⟩)
 ·exact q1 x' hA'
 exact q2 x' hB'
end
section
variable {X : Cx} {e : Env} {h : Hp} {Q : Out → Prop}
theorem Ce.rangeFuncG {α : Type} {fo : Operand} {ps : Array Tmp} {assign body : Code} {g : FuncId} {first cap : List Value} {vs : List (List Value)} (A : Nat → α → Prop) (R : α → Prop) (H : α → Hp) (x0 : α) (hr : X.r = none) (hf : evE X.P e fo = some (.func (.func g) ⟨first⟩ ⟨cap⟩)) (h0 : A 0 x0) (hs : (H x0).Sublist h) (hps : ∀ v, v ∈ vs → v.length = ps.size ∧ ((ps.toList.zip v).all fun x => Nat.blt x.1 X.n) = true)
  (D : Nat → Prop) (hit : ∀ m, Knows X.S X.m0 m h → IterG X.P g first cap vs D m ∧ ∀ b, D b → b < m.next ∧ b ∉ (H x0).map Prod.fst)
  (step : ∀ i x v, vs[i]? = some v → A i x → ∀ l m' ready busy, X.m0.next ≤ l → Knows X.S X.m0 m' ((l, ready) :: H x) → Ce { X with m0 := m', S := l :: (H x).map Prod.fst, r := some l } (parE (ps.toList.zip v) e) ((l, ready) :: H x) assign (Asg { X with m0 := m', S := l :: (H x).map Prod.fst, r := some l } l ready busy body (Rnd { X with m0 := m', S := l :: (H x).map Prod.fst, r := some l } l busy H (A (i + 1)) R)))
  (qn : ∀ x, A vs.length x → Ne X e (H x) Q) (qr : ∀ x, R x → Re X e (H x) Q) : Ce X e h (.rangeFunc fo ps assign body) Q := fun ts m h1 h2 => by
 -- the two blocks of the loop
 let rd : AObj := .loop .ready none X.f X.n ts ps.toList assign body m.next
 let bz : AObj := .loop .busy none X.f X.n ts ps.toList assign body m.next
 let fin : AObj := .loop .done (some .ret) X.f X.n ts ps.toList assign body m.next
 let l := m.next + 1
 let m2 : AW := (m.new .deferred).new rd
 have hX2 : Knows X.S X.m0 m2 ((l, rd) :: (m.next, .deferred) :: h) := (h2.new .deferred).new rd
 have hsub : Knows X.S X.m0 m2 ((l, rd) :: H x0) := hX2.sub (.cons_cons _ (.cons _ hs))
 have hKR : Knows X.S X.m0 m2 h := hX2.sub (.cons _ (.cons _ (.refl _)))
 have hkeys : ((l, rd) :: H x0).map Prod.fst = l :: (H x0).map Prod.fst := rfl
 have hk0 : Knows (l :: (H x0).map Prod.fst) m2 m2 ((l, rd) :: H x0) := by
  have := hsub.self
  rw [hkeys] at this
  exact this
 have hDl : ∀ b, D b → b ∉ l :: (H x0).map Prod.fst := fun b hb => by
  obtain ⟨e1, e2⟩ := (hit m h2).2 b hb
  intro h
  rcases List.mem_cons.1 h with rfl | h
  ·exact absurd e1 (by show ¬ (m.next + 1 < m.next); omega)
  exact e2 h
 have hiter := (hit m2 hKR).1 (α × Bool) l (fun i x => A i x.1 ∧ x.2 = true) (fun x => R x.1 ∧ x.2 = false) (fun x => (l, if x.2 then rd else fin) :: H x.1) (x0, true) hDl ⟨h0, rfl⟩ (by simpa using hk0) ?_
 ·obtain ⟨k, v, m3, g1, x', g2, g3⟩ := hiter
  have hl3 := g2.has l (if x'.2 then rd else fin) List.mem_cons_self
  have hK3 : Knows X.S X.m0 m3 ((l, if x'.2 then rd else fin) :: H x'.1) := by
   have := Knows.step (r := []) (l := (l, rd) :: H x0) (l' := (l, if x'.2 then rd else fin) :: H x'.1) (by simpa using hsub) (by rw [hkeys]; exact g2)
   simpa using this
  have hst : ∀ out, endRF ⟨X.f, X.n, ts, X.r⟩ l m3 = some out → Q out → Ru X.P ⟨X.f, X.n, ts, X.r⟩ (.code (.rangeFunc fo ps assign body)) m Q := by
   intro out e1 e2
   refine Ru.step (k := k) ?_ e2
   show stRF X.P (irun X.P k) ⟨X.f, X.n, ts, X.r⟩ fo ps.toList assign body m = _
   unfold stRF
   simp only [evE_ev h1 hf, beginRF, hr]
   simp only [hr] at e1
   have : irun X.P k noFr (.fn g (first ++ [.func (.yield (m.next + 1)) ⟨[]⟩ ⟨[]⟩] ++ cap)) ((m.new .deferred).new (.loop .ready none X.f X.n ts ps.toList assign body m.next)) = some ⟨.ret, .lf, v, m3⟩ := g1
   simp only [this]
   exact e1
  rcases g3 with ⟨g3, g4⟩ | ⟨g3, g4⟩
  ·rw [g4] at hl3 hK3
   simp only [if_true] at hl3 hK3
   have e1 : endRF ⟨X.f, X.n, ts, X.r⟩ l m3 = some ⟨.normal, ts, undef, m3.set l (some (.loop .exhausted none X.f X.n ts ps.toList assign body m.next))⟩ := by
    unfold endRF
    simp only [hl3.1, rd]
   exact hst _ e1 (qn x'.1 g3 ts _ h1 ((hK3.set (o' := .loop .exhausted none X.f X.n ts ps.toList assign body m.next) .head).sub (.cons _ (.refl _))))
  rw [g4] at hl3 hK3
  simp only [Bool.false_eq_true, if_false] at hl3 hK3
  have e1 : endRF ⟨X.f, X.n, ts, X.r⟩ l m3 = some ⟨.ret, ts, undef, m3.set l (some (.loop .exhausted (some .ret) X.f X.n ts ps.toList assign body m.next))⟩ := by
   unfold endRF
   simp only [hl3.1, fin]
  exact hst _ e1 (qr x'.1 g3 ts _ h1 ((hK3.set (o' := .loop .exhausted (some .ret) X.f X.n ts ps.toList assign body m.next) .head).sub (.cons _ (.refl _))))
 rintro i ⟨x, b⟩ v hv ⟨hA, hb⟩ m' hm'
 simp only at hA hb hm'
 subst hb
 simp only [if_true] at hm'
 have hXm' : Knows X.S X.m0 m' ((l, rd) :: H x) := by
  have := Knows.step (r := []) (l := (l, rd) :: H x0) (l' := (l, rd) :: H x) (by simpa using hsub) (by rw [hkeys]; exact hm')
  simpa using this
 have hself : Knows (l :: (H x).map Prod.fst) m' m' ((l, rd) :: H x) := by
  have := hXm'.self
  exact this
 obtain ⟨hp1, hp2⟩ := hps v (List.mem_of_getElem? hv)
 have hln : X.m0.next ≤ l := Nat.le_succ_of_le h2.next
 obtain ⟨k1, ⟨ex, ts1, v1, m1⟩, a1, a2⟩ := step i x v hv hA l m' rd bz hln hXm' _ m' (h1.par hp2) hself
 cases ex with
 | normal =>
  obtain ⟨b1, k2, ⟨ex2, ts2, v2, m4⟩, c1, c2⟩ := a2
  have hy : ∀ (r : Value) (m5 : AW), endRound X.P X.f l (some ⟨ex2, ts2, v2, m4⟩) = some ⟨.ret, .lf, r, m5⟩ → irun X.P (k1 + k2 + 1) noFr (.yield l v) m' = some ⟨.ret, .lf, r, m5⟩ := by
   intro r m5 hend
   show stYield X.P (irun X.P (k1 + k2)) l v m' = _
   unfold stYield
   have hrd := (hm'.has l rd List.mem_cons_self).1
   simp only [hrd, rd]
   have hlen : Nat.beq v.length ps.toList.length = true := by rw [nbeq]; simp [hp1]
   rw [hlen]
   have e1 := irun_le (P := X.P) (Nat.le_add_right k1 k2) _ _ _ _ a1
   simp only [cond_true] at e1 ⊢
   rw [e1]
   simp only
   unfold stBody
   simp only [b1, rd]
   have e2 := irun_le (P := X.P) (Nat.le_add_left k2 k1) _ _ _ _ c1
   simp only [bz] at e2
   rw [e2]
   exact hend
  cases ex2 with
  | normal =>
   obtain ⟨x', d1, d2⟩ := c2
   have hb4 := (d2.has l bz List.mem_cons_self).1
   refine ⟨k1 + k2 + 1, .bool true, m4.set l (some rd), hy _ _ ?_, (x', true), ?_, .inl ⟨rfl, d1, rfl⟩⟩
   ·show outOf (.bool true) (setLoop m4 l .ready none) = _
    unfold setLoop
    simp only [hb4, bz]
    rfl
   simp only [if_true]
   exact d2.set .head
  | ret =>
   obtain ⟨x', d1, d2⟩ := c2
   have hb4 := (d2.has l bz List.mem_cons_self).1
   refine ⟨k1 + k2 + 1, .bool false, m4.set l (some fin), hy _ _ ?_, (x', false), ?_, .inr ⟨rfl, d1, rfl⟩⟩
   ·show outOf (.bool false) (setLoop m4 l .done (some .ret)) = _
    unfold setLoop
    simp only [hb4, bz]
    rfl
   simp only [Bool.false_eq_true, if_false]
   exact d2.set .head
  | _ => exact absurd c2 (by simp [Rnd])
 | _ => exact absurd a2 (by simp [Asg])
end
end Go.Ab
namespace Go.Ab
variable [Vals]
section
variable {X : Cx} {ops : Array Oper} {base : Nat} {rI : List Nat} {cl : Bool} {mk : List (Nat × Nat)} {e : Env} {h : Hp} {rest : List (Oper × Info)} {Q : Out → Prop} {o : Oper} {i : Info}
theorem below_set2 {m : AW} {lo base : Nat} (h1 : m.lo = lo) (h2 : lo ≤ base) (b b0 : Nat) (x y : Option AObj) :
  below lo (AW.set (AW.set ⟨m.heap, m.next, base, []⟩ b0 x) b y).log ++ m.log = ((m.set b0 x).set b y).log := by
 subst h1
 have k : ∀ c : Nat, Nat.blt c base = false → Nat.blt c m.lo = false := fun c hc => by
  rw [nblt, decide_eq_false_iff_not] at hc ⊢
  omega
 simp only [AW.set]
 cases hb : Nat.blt b base with
 | true =>
  cases hc : Nat.blt b0 base with
  | true =>
   simp only [cond_true, below]
   cases Nat.blt b m.lo <;> cases Nat.blt b0 m.lo <;> rfl
  | false =>
   simp only [cond_true, cond_false, below, k _ hc]
   cases Nat.blt b m.lo <;> rfl
 | false =>
  cases hc : Nat.blt b0 base with
  | true =>
   simp only [cond_true, cond_false, below, k _ hb]
   cases Nat.blt b0 m.lo <;> rfl
  | false =>
   simp only [cond_false, below, k _ hb, k _ hc]
   rfl
theorem De.storeGro {b off n : Nat} {y : Value} {g : Gro} {cs : List Value} {r : Hp} (hi : i.cls = .h) (hok : i.hok = true) (hin : allIn i.pre (mk.map Prod.fst) = true) (hri : allIn i.pre rI = true) (hd : o.dst = none) (hg : wantE ops e o = some true) (ho : o.op = .store ty a x) (ha : evE X.P e a = some (.pointer (some ⟨b, off, none⟩))) (hx : evE X.P e x = some y) (hsz : sizeT X.P ty = some (n + 1)) (hl : (cellsOfV y).length = n + 1) (hp : Pick h (g.H el cs) r) (hgb : g = .one b ∨ ∃ b0 old, g = .two b b0 old) (hle : off + (n + 1) ≤ cs.length) (hfl : flats (cellsOfV y) = true) (q : De X ops base rI false mk e ((Gro.one b).H el (putCells cs off (cellsOfV y)) ++ r) rest Q) : De X ops base rI cl mk e h ((o, i) :: rest) Q := fun ts m rs ws h1 h2 h3 h4 h5 => by
 have hw : ∀ md : CMode, md = .plain → (md.writes && Nat.ble (off + (cellsOfV y).length) cs.length && flats (cellsOfV y)) = true := fun md e => by
  rw [e, nble, hl, decide_eq_true hle, hfl]
  rfl
 rcases hgb with rfl | ⟨b0, old, rfl⟩
 ·exact De.store hi hok hin hri hd hg ho ha hx hsz hl .head (hw _ rfl) q ts m rs ws h1 (h2.perm hp.perm) h3 h4 h5
 have k1 := h2.perm (hp.perm.trans (List.Perm.swap _ _ _))
 have k2 : Knows X.S X.m0 ((m.set b0 none).set b (some (.cells (putCells cs off (cellsOfV y)) el true .plain none))) ((Gro.one b).H el (putCells cs off (cellsOfV y)) ++ r) := k1.kill.set .head
 obtain ⟨k, out, g1, g2⟩ := q ts ((m.set b0 none).set b (some (.cells (putCells cs off (cellsOfV y)) el true .plain none))) rs ((i.i, (AW.set (AW.set ⟨m.heap, m.next, base, []⟩ b0 none) b (some (.cells (putCells cs off (cellsOfV y)) el true .plain none))).log) :: ws) h1 k2 h3 h4 (fun hf => by cases hf)
 refine ⟨k, out, ?_, g2⟩
 have hb : m.heap.get b = some (.cells cs el true .plain (some b0)) := ((h2.perm hp.perm).has b _ (by simp [Gro.H])).1
 have e2 : doOp X.P (irun X.P k) ts o.op ⟨hideB i.pre mk m.heap, m.next, base, []⟩ = some (.val undef (AW.set (AW.set ⟨m.heap, m.next, base, []⟩ b0 none) b (some (.cells (putCells cs off (cellsOfV y)) el true .plain none)))) := by
  rw [hideB_all _ _ _ hin, ho, doOp_h rfl]
  have h4 : storeA ⟨m.heap, m.next, base, []⟩ b off (cellsOfV y) = some (AW.set (AW.set ⟨m.heap, m.next, base, []⟩ b0 none) b (some (.cells (putCells cs off (cellsOfV y)) el true .plain none))) := by
   unfold storeA
   have hw' := hw .plain rfl
   cases hc : cellsOfV y with
   | nil => rw [hc] at hl; simp at hl
   | cons c r =>
    rw [hc] at hw'
    simp only [hb, hw', kill, cond_true]
  have h5 : Nat.beq (cellsOfV y).length (n + 1) = true := by rw [nbeq, hl]; simp
  simp only [opH, evE_ev h1 ha, evE_ev h1 hx, storeV, hsz, h5, cond_true, h4, valM]
 have e1 : (i.hok && plainB i.pre m.heap mk) = true := by rw [hok, plainB_all _ _ _ hin]; rfl
 have e3 : ∀ w, writeOk i.pre w rs = true := fun w => writeOk_in _ _ _ hri _ h4
 unfold dops
 rw [wantE_spec h1 hg]
 simp only [cond_true, hi, e1, e2, e3, showB_all _ _ _ _ hin, hd]
 have hlog := below_set2 (m := m) h2.lo (Nat.le_trans h2.lole h3.1) b b0 none (some (.cells (putCells cs off (cellsOfV y)) el true .plain none))
 rw [hlog]
 have hput : put X.n ts none undef = ts := rfl
 have hheap : (⟨(AW.set (AW.set ⟨m.heap, m.next, base, []⟩ b0 none) b (some (.cells (putCells cs off (cellsOfV y)) el true .plain none))).heap, (AW.set (AW.set ⟨m.heap, m.next, base, []⟩ b0 none) b (some (.cells (putCells cs off (cellsOfV y)) el true .plain none))).next, X.m0.lo, ((m.set b0 none).set b (some (.cells (putCells cs off (cellsOfV y)) el true .plain none))).log⟩ : AW) = (m.set b0 none).set b (some (.cells (putCells cs off (cellsOfV y)) el true .plain none)) := by
  simp only [AW.set, h2.lo]
 rw [hheap, hput]
 exact g1
end
end Go.Ab