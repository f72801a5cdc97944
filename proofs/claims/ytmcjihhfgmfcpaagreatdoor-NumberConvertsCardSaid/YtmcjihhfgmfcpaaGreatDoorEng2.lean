/-
  The engine, part 2: an interpreter over abstract memories, and the proof that the model's machine does what it reckons. Conditions: none.
-/
import Derived.Test.YtmcjihhfgmfcpaaGreatDoorEng1

set_option autoImplicit true
set_option relaxedAutoImplicit true
set_option linter.unusedSectionVars false
set_option linter.unusedVariables false
set_option linter.unusedSimpArgs false
namespace Go.Ab
variable [Vals]
section
variable {P : Program} {ρ ρ' : Ren} {m m' : AW} {w w' : World}
theorem sameKeys_eq {d n : Nat} (ih : ∀ a b, sameKey d a b = true → a = b ∧ Instr.sameBits n a b = true) : ∀ (a b : List Value), sameKeys (sameKey d) a b = true → a = b ∧ ((a.zip b).all fun (x, y) => Instr.sameBits n x y) = true
 | [], [], _ => by simp
 | x :: xs, y :: ys, h => by
  simp only [sameKeys, Bool.and_eq_true] at h
  obtain ⟨h1, h2⟩ := ih x y h.1
  obtain ⟨h3, h4⟩ := sameKeys_eq ih xs ys h.2
  subst h1 h3
  refine ⟨rfl, ?_⟩
  simp only [List.zip_cons_cons, List.all_cons, Bool.and_eq_true]
  exact ⟨h2, h4⟩
 | [], _ :: _, h => by simp [sameKeys] at h
 | _ :: _, [], h => by simp [sameKeys] at h
theorem sameKey_eq : ∀ (d n : Nat) (a b : Value), d ≤ n → sameKey d a b = true → a = b ∧ Instr.sameBits n a b = true
 | 0, _, _, _, _, h => by simp [sameKey] at h
 | d + 1, 0, _, _, hn, _ => by omega
 | d + 1, n + 1, a, b, hn, h => by
  unfold sameKey at h
  split at h
  ·split at h
   ·simp only [beq_iff_eq] at h
    subst h
    exact ⟨rfl, by simp [Instr.sameBits]⟩
   cases h
  ·split at h
   ·simp only [Bool.and_eq_true, decide_eq_true_eq, eqI_eq] at h
    obtain ⟨rfl, rfl⟩ := h
    exact ⟨rfl, by simp [Instr.sameBits]⟩
   cases h
  ·split at h
   ·rename_i s1 _ s2
    simp only [eqBytes_eq, decide_eq_true_eq] at h
    have : s1 = s2 := ByteArray.ext (Array.toList_inj.1 h)
    subst this
    refine ⟨rfl, by simp [Instr.sameBits, beq_toListBytes]⟩
   cases h
  ·split at h
   ·rename_i xs _ ys
    obtain ⟨h1, h2⟩ := sameKeys_eq (n := n) (fun a b hab => sameKey_eq d n a b (by omega) hab) xs ys h
    subst h1
    refine ⟨rfl, ?_⟩
    unfold Instr.sameBits
    simp only [beq_self_eq_true, Bool.true_and]
    exact h2
   cases h
  cases h
theorem EsRel.get (h : EsRel ρ es es') : ∀ {i : Nat} {e : MapEntry}, es[i]? = some e → ∃ e', es'[i]? = some e' ∧ VRel ρ e.key e'.key ∧ VRel ρ e.val e'.val := by
 induction h with
 | nil => intro i e hi; simp at hi
 | cons hk hv hb hs ih =>
  intro i e hi
  cases i with
  | zero => simp only [List.getElem?_cons_zero, Option.some.injEq] at hi; subst hi; exact ⟨_, by simp, hk, hv⟩
  | succ i => simpa using ih (by simpa using hi)
theorem EsRel.modify (h : EsRel ρ es es') (hk : VRel ρ k k) (hx : VRel ρ x x') : ∀ (i : Nat), EsRel ρ (es.modify i fun e => { e with key := k, val := x }) (es'.modify i fun e => { e with key := k, val := x' }) := by
 induction h with
 | nil => intro i; cases i <;> exact .nil
 | cons hk1 hv hb hs ih =>
  intro i
  cases i with
  | zero => exact .cons hk hx hb hs
  | succ i => exact .cons hk1 hv hb (ih i)
theorem EsRel.push (h : EsRel ρ es es') (hk : VRel ρ e.key e'.key) (hx : VRel ρ e.val e'.val) (hb : e.born = e'.born) : EsRel ρ (es ++ [e]) (es' ++ [e']) := by
 induction h with
 | nil => exact .cons hk hx hb .nil
 | cons hk1 hv hb1 hs ih => exact .cons hk1 hv hb1 ih
theorem EsRel.erase (h : EsRel ρ es es') : ∀ (i : Nat), EsRel ρ (es.eraseIdx i) (es'.eraseIdx i) := by
 induction h with
 | nil => intro i; exact .nil
 | cons hk1 hv hb1 hs ih =>
  intro i
  cases i with
  | zero => exact hs
  | succ i => exact .cons hk1 hv hb1 (ih i)
theorem toList_eraseIf (a : Array MapEntry) (i : Nat) : (a.eraseIdxIfInBounds i).toList = a.toList.eraseIdx i := by
 unfold Array.eraseIdxIfInBounds
 split
 ·simp
 rw [List.eraseIdx_of_length_le (by simp; omega)]
theorem run_setObj_any (h : w.heap[r]? = some o) (hc : ∀ c e f, o ≠ .cells c e f) : (setObj r o').run P w = .ok () (setBlk w r o') := by
 simp only [setObj, Sem.run, h]
 cases o <;> first | rfl | exact absurd rfl (hc _ _ _)
theorem map_put (h : Rel P ρ m w) (hb : m.heap.get r = some (.map es clock)) (hs : ρ r = some s) (hw : w.heap[s.blk]? = some (.map es' clock)) (he : EsRel ρ es1 es1'.toList) (h0 : s.off = 0) :
  (setObj s.blk (.map es1' clock1)).run P w = .ok () (setBlk w s.blk (.map es1' clock1)) ∧ Rel P ρ (m.set r (some (.map es1 clock1))) (setBlk w s.blk (.map es1' clock1)) ∧ Grow ρ ρ m (m.set r (some (.map es1 clock1))) w (setBlk w s.blk (.map es1' clock1)) := by
 have := h.put (o' := .map es1 clock1) (y := .map es1' clock1) hb hs rfl rfl (alone h hb hs rfl) ⟨h0, es1', rfl, he⟩
 exact ⟨run_setObj_any hw (by intros; simp), this⟩
theorem mapSet_rel (h : Rel P ρ m w) (hs : mapSet P t mp k x m = some (.val v m')) (hm : VRel ρ mp mp') (hk : VRel ρ k k') (hx : VRel ρ x x') :
  v = undef ∧ ∃ w', (Instr.mapUpdate t mp' k' x').run P w = .ok () w' ∧ Rel P ρ m' w' ∧ Grow ρ ρ m m' w w' := by
 unfold mapSet at hs
 split at hs
 ·rename_i r
  split at hs
  ·rename_i kt et ht
   obtain ⟨hkv, hs⟩ := bif_some hs
   simp only [Bool.and_eq_true] at hkv
   have hk2 : k' = k := ground_eq hk hkv.2
   subst hk2
   have hkt : ∃ td, P.underlying kt = some td := by
    cases hh : P.underlying kt with
    | none => have := hkv.1; unfold keyV at this; rw [hh] at this; simp at this
    | some td => exact ⟨td, rfl⟩
   obtain ⟨td, htd⟩ := hkt
   split at hs
   ·rename_i es clock hb
    split at hs
    ·rename_i o ho
     simp only [Option.some.injEq, Rs.val.injEq] at hs
     obtain ⟨rfl, rfl⟩ := hs
     refine ⟨rfl, ?_⟩
     obtain ⟨s, y, h1, h2, h0, es', rfl, hes⟩ := h.obj _ _ hb
     cases hm with
     | map hr _ =>
      rw [h1] at hr
      cases hr
      have hg : (getObj s.blk).run P w = .ok (.map es' clock) w := by simp [getObj, Sem.run, h2]
      unfold mapPut at ho
      split at ho
      ·rename_i i u hf
       obtain ⟨hsk, ho⟩ := bif_some ho
       simp only [Option.some.injEq] at ho
       subst ho
       obtain ⟨r0, hr0, hfr⟩ := findKey_rel htd hk hes hf w
       cases hfr with
       | some hu =>
        rename_i u'
        unfold sameKeyAt at hsk
        split at hsk
        ·rename_i e he
         obtain ⟨hek, hbits⟩ := sameKey_eq 20 10000 _ _ (by omega) hsk
         obtain ⟨e', he', hrk, hrv⟩ := hes.get he
         rw [hek] at hrk
         have hek' : e'.key = k' := ground_eq hrk hkv.2
         rw [hek] at hbits
         obtain ⟨p1, p2⟩ := map_put (es1' := es'.modify i fun e => { e with key := k', val := x' }) (clock1 := clock) h hb h1 h2 (by simpa using hes.modify hk hx i) h0
         refine ⟨_, ?_, p2⟩
         have he2 : es'[i]? = some e' := by simpa using he'
         simp only [Instr.mapUpdate, Sem.run_bind, run_und ht, Result.andThen_ok, hg]
         rw [checkKey_run 20 10000 _ _ _ _ (by omega) hkv.1]
         simp only [Result.andThen_ok, hr0, he2, Option.map_some, Option.getD_some, hek', Instr.keyThatStays, hbits, if_true]
         exact p1
        cases hsk
      ·rename_i hf
       simp only [Option.some.injEq] at ho
       subst ho
       obtain ⟨r0, hr0, hfr⟩ := findKey_rel htd hk hes hf w
       cases hfr
       obtain ⟨p1, p2⟩ := map_put (es1' := es'.push { key := k', val := x', born := clock }) (clock1 := clock + 1) h hb h1 h2 (by simpa using hes.push (e := { key := k', val := x, born := clock }) (e' := { key := k', val := x', born := clock }) hk hx rfl) h0
       refine ⟨_, ?_, p2⟩
       simp only [Instr.mapUpdate, Sem.run_bind, run_und ht, Result.andThen_ok, hg]
       rw [checkKey_run 20 10000 _ _ _ _ (by omega) hkv.1]
       simp only [Result.andThen_ok, hr0]
       exact p1
      simp at ho
    simp at hs
   simp at hs
  simp at hs
 simp at hs
theorem setBlk_same (h : w.heap[b]? = some o) : setBlk w b o = w := by
 unfold setBlk
 have : w.heap.setIfInBounds b o = w.heap := by
  apply Array.ext_getElem?
  intro j
  rw [Array.getElem?_setIfInBounds]
  by_cases hj : b = j
  ·subst hj
   obtain ⟨hb, h2⟩ := Array.getElem?_eq_some_iff.1 h
   simp [hb, h2]
  simp [hj]
 rw [this]
theorem deleteV_rel (h : Rel P ρ m w) (hs : deleteV P ts[0]? mp k m = some (.val v m')) (hm : VRel ρ mp mp') (hk : VRel ρ k k') :
    DoesV P ρ m w (Builtin.delete_ ts ty #[mp', k']) v m' := by
  unfold deleteV at hs
  split at hs
  · rename_i kt et ht
    obtain ⟨mt, hmt, ht⟩ := Option.bind_eq_some_iff.1 ht
    obtain ⟨hkv, hs⟩ := bif_some hs
    simp only [Bool.and_eq_true] at hkv
    have hk2 : k' = k := ground_eq hk hkv.2
    subst hk2
    have hkt : ∃ td, P.underlying kt = some td := by
      cases hh : P.underlying kt with
      | none => have := hkv.1; unfold keyV at this; rw [hh] at this; simp at this
      | some td => exact ⟨td, rfl⟩
    obtain ⟨td, htd⟩ := hkt
    have hdef : Builtin.delete_ ts ty #[mp', k'] = (do
        let .map keyType _ ← underlying mt | stuck "delete: map type expected"
        match mp' with
        | .map none => Instr.checkKey true 10000 keyType k'
        | .map (some r) =>
          let .map es clock ← getObj r | stuck "delete: map expected"
          Instr.checkKey es.isEmpty 10000 keyType k'
          match ← Instr.findKey keyType k' es.toList with
          | some (i, _) => setObj r (.map (es.eraseIdxIfInBounds i) clock)
          | none => setObj r (.map es clock)
        | _ => stuck "delete: map expected"
        pure (.tuple #[])) := by
      unfold Builtin.delete_
      simp only [hmt]
      rfl
    rw [hdef]
    split at hs
    · cases hm
      simp only [Option.some.injEq, Rs.val.injEq] at hs
      obtain ⟨rfl, rfl⟩ := hs
      refine ⟨ρ, w, .tuple #[], ?_, h, .refl _ _ _, undef_rel _⟩
      simp only [Sem.run_bind, run_und ht, Result.andThen_ok, Sem.run_pure]
      rw [checkKey_run 20 10000 _ _ _ _ (by omega) hkv.1]
      rfl
    · rename_i r
      split at hs
      · rename_i es clock hb
        obtain ⟨s, y, h1, h2, h0, es', rfl, hes⟩ := h.obj _ _ hb
        cases hm with
        | map hr _ =>
          rw [h1] at hr
          cases hr
          have hg : (getObj s.blk).run P w = .ok (.map es' clock) w := by simp [getObj, Sem.run, h2]
          split at hs
          · rename_i i u hf
            simp only [Option.some.injEq, Rs.val.injEq] at hs
            obtain ⟨rfl, rfl⟩ := hs
            obtain ⟨r0, hr0, hfr⟩ := findKey_rel htd hk hes hf w
            cases hfr with
            | some hu =>
              rename_i u'
              obtain ⟨p1, p2, p3⟩ := map_put (es1' := es'.eraseIdxIfInBounds i) (clock1 := clock) h hb h1 h2 (by rw [toList_eraseIf]; exact hes.erase i) h0
              refine ⟨ρ, _, .tuple #[], ?_, p2, p3, undef_rel _⟩
              simp only [Sem.run_bind, run_und ht, Result.andThen_ok, hg]
              rw [checkKey_run 20 10000 _ _ _ _ (by omega) hkv.1]
              simp only [Result.andThen_ok, hr0, Sem.run_bind, p1, Sem.run_pure]
          · rename_i hf
            simp only [Option.some.injEq, Rs.val.injEq] at hs
            obtain ⟨rfl, rfl⟩ := hs
            obtain ⟨r0, hr0, hfr⟩ := findKey_rel htd hk hes hf w
            cases hfr
            refine ⟨ρ, w, .tuple #[], ?_, h, .refl _ _ _, undef_rel _⟩
            simp only [Sem.run_bind, run_und ht, Result.andThen_ok, hg]
            rw [checkKey_run 20 10000 _ _ _ _ (by omega) hkv.1]
            simp only [Result.andThen_ok, hr0, Sem.run_bind, run_setObj_any h2 (by intros; simp), setBlk_same h2, Sem.run_pure]
          · simp at hs
      · simp at hs
    · simp at hs
  · simp at hs
theorem rangeA_rel (h : Rel P ρ m w) (hf : ρ m.next = none) (hs : rangeA P t x m = some (.val v m')) (hx : VRel ρ x x') : DoesV P ρ m w (Instr.range t x') v m' := by
 unfold rangeA at hs
 split at hs
 ·rename_i str
  cases hx
  split at hs
  ·rename_i ht
   simp only [Option.some.injEq, Rs.val.injEq] at hs
   obtain ⟨rfl, rfl⟩ := hs
   have hn := h.new hf (x := .siter str 0) (y := .stringIter str 0) (cap := 0) (w' := w.alloc (.stringIter str 0)) rfl ⟨rfl, rfl, rfl⟩ ⟨rfl, rfl⟩
   refine ⟨_, _, .pointer (some ⟨w.heap.size, 0, none⟩), ?_, hn.1, hn.2, ?_⟩
   ·simp only [Instr.range, Sem.run_bind, run_und ht, Result.andThen_ok, Sem.run_pure, run_newObj]
    rfl
   exact .ptr (off := 0) (Ren.set_same _ _ _)
  simp at hs
 ·cases hx
  split at hs
  ·rename_i ht
   simp only [Option.some.injEq, Rs.val.injEq] at hs
   obtain ⟨rfl, rfl⟩ := hs
   have hn := h.new hf (x := .miter none 0 [] 0) (y := .mapIter none 0 #[] 0) (cap := 0) (w' := w.alloc (.mapIter none 0 #[] 0)) rfl ⟨rfl, rfl, rfl⟩ ⟨rfl, none, rfl, .inl ⟨rfl, rfl⟩⟩
   refine ⟨_, _, .pointer (some ⟨w.heap.size, 0, none⟩), ?_, hn.1, hn.2, ?_⟩
   ·simp only [Instr.range, Sem.run_bind, run_und ht, Result.andThen_ok, Sem.run_pure, run_newObj]
    rfl
   exact .ptr (off := 0) (Ren.set_same _ _ _)
  simp at hs
 ·rename_i r
  cases hx with
  | map hr hr0 =>
   rename_i s
   split at hs
   ·rename_i ht
    split at hs
    ·rename_i es clock hb
     simp only [Option.some.injEq, Rs.val.injEq] at hs
     obtain ⟨rfl, rfl⟩ := hs
     obtain ⟨s2, y, h1, h2, h0, es', rfl, hes⟩ := h.obj _ _ hb
     rw [hr] at h1
     cases h1
     have hle : ρ.le (ρ.set m.next ⟨w.heap.size, 0, 0⟩) := Ren.le_set hf
     have hn := h.new hf (x := .miter (some r) clock [] clock) (y := .mapIter (some s.blk) clock #[] clock) (cap := 0) (w' := w.alloc (.mapIter (some s.blk) clock #[] clock)) rfl ⟨rfl, rfl, rfl⟩ ⟨rfl, some s.blk, rfl, .inr ⟨r, s, rfl, hle _ _ hr, hr0, rfl⟩⟩
     have hg : (getObj s.blk).run P w = .ok (.map es' clock) w := by simp [getObj, Sem.run, h2]
     refine ⟨_, _, .pointer (some ⟨w.heap.size, 0, none⟩), ?_, hn.1, hn.2, ?_⟩
     ·simp only [Instr.range, Sem.run_bind, run_und ht, Result.andThen_ok, hg, Sem.run_pure, run_newObj]
      rfl
     exact .ptr (off := 0) (Ren.set_same _ _ _)
    simp at hs
   simp at hs
 simp at hs
theorem nextA_rel (h : Rel P ρ m w) (hs : nextA x isStr m = some (.val v m')) (hx : VRel ρ x x') : DoesV P ρ m w (Instr.next x' isStr ty) v m' := by
  unfold nextA at hs
  split at hs
  · rename_i r
    split at hs
    · rename_i str pos hb
      obtain ⟨rfl, hs⟩ := bif_some hs
      obtain ⟨s, y, h1, h2, h0, rfl⟩ := h.obj _ _ hb
      cases hx with
      | ptr hr =>
        rw [h1] at hr
        cases hr
        have hg : (getObj s.blk).run P w = .ok (.stringIter str pos) w := by simp [getObj, Sem.run, h2]
        by_cases hlt : pos < str.size
        · simp only [nblt, hlt, decide_true, cond_true, Option.some.injEq, Rs.val.injEq] at hs
          obtain ⟨rfl, rfl⟩ := hs
          have := h.put (o' := .siter str (pos + (Utf8.decode str pos).2)) (y := .stringIter str (pos + (Utf8.decode str pos).2)) hb h1 rfl rfl (alone h hb h1 rfl) ⟨h0, rfl⟩
          refine ⟨ρ, _, .tuple #[.bool true, goInt pos, .int .i32 (Utf8.decode str pos).1], ?_, this.1, this.2, .tuple (.cons (.bool _) (.cons (.int ..) (.cons (.int ..) .nil)))⟩
          simp only [h0, Nat.add_zero, Instr.next, Sem.run_bind, Result.andThen_ok, hg, Sem.run_pure, hlt, if_true, run_setObj_any h2 (by intros; simp)]
        · simp only [nblt, hlt, decide_false, cond_false] at hs
          obtain ⟨rfl, rfl⟩ := hs
          refine ⟨ρ, w, .tuple #[.bool false], ?_, h, .refl _ _ _, .tuple (.cons (.bool _) .nil)⟩
          simp only [h0, Nat.add_zero, Instr.next, Sem.run_bind, Result.andThen_ok, hg, Sem.run_pure, hlt, if_false]
    · rename_i mp since seen stepped hb
      cases isStr with
      | true => cases hs
      | false =>
        simp only [cond_false] at hs
        obtain ⟨s, y, h1, h2, h0, mp', rfl, hmp⟩ := h.obj _ _ hb
        cases hx with
        | ptr hr =>
          rw [h1] at hr
          cases hr
          have hg : (getObj s.blk).run P w = .ok (.mapIter mp' since ⟨seen⟩ stepped) w := by simp [getObj, Sem.run, h2]
          split at hs
          · simp only [Option.some.injEq, Rs.val.injEq] at hs
            obtain ⟨rfl, rfl⟩ := hs
            rcases hmp with ⟨_, rfl⟩ | ⟨_, _, e, _⟩
            · refine ⟨ρ, w, .tuple #[.bool false], ?_, h, .refl _ _ _, .tuple (.cons (.bool _) .nil)⟩
              simp only [h0, Nat.add_zero, Instr.next, Sem.run_bind, Result.andThen_ok, hg, Sem.run_pure]
            · cases e
          · rename_i r2
            split at hs
            · rename_i es clock hb2
              rcases hmp with ⟨e, _⟩ | ⟨r3, sm, e, hsm, hsm0, rfl⟩
              · cases e
              cases e
              obtain ⟨s2, y2, g1, g2, g0, es', rfl, hes⟩ := h.obj _ _ hb2
              rw [hsm] at g1
              cases g1
              have hg2 : (getObj sm.blk).run P w = .ok (.map es' clock) w := by simp [getObj, Sem.run, g2]
              obtain ⟨l'⟩ := es'
              have hes : EsRel ρ es l' := hes
              have hall := hes.all fun b => decide (b ≥ stepped)
              have hemp := hes.isEmpty
              have hfil := hes.filter fun b => !seen.contains b
              have hw0 : ∀ z, nextM es since seen stepped = some z → (!(⟨seen⟩ : Array Nat).isEmpty && !(⟨l'⟩ : Array MapEntry).isEmpty && (⟨l'⟩ : Array MapEntry).all (·.born ≥ stepped)) = false := by
                intro z hz
                unfold nextM at hz
                cases hc : (!seen.isEmpty && (!es.isEmpty && es.all fun e => decide (e.born ≥ stepped))) with
                | true => rw [hc] at hz; cases hz
                | false =>
                  rw [hall, hemp] at hc
                  rw [← hc]
                  simp [Bool.and_assoc]
              have hstep : ∀ z, nextM es since seen stepped = some z → (Instr.next (.pointer (some ⟨s.blk, s.off + 0, none⟩)) false ty).run P w =
                  ((do
                    let left := (⟨l'.filter fun e => !seen.contains e.born⟩ : Array MapEntry)
                    let old := left.filter (·.born < since)
                    let new := left.filter (·.born ≥ since)
                    let candidates := (if old.isEmpty then #[none] else #[]) ++ (old ++ new).map some
                    match candidates[← choose (.mapNext candidates.size)]? with
                    | some (some e) =>
                      setObj s.blk (.mapIter (some sm.blk) since ((⟨seen⟩ : Array Nat).push e.born) clock)
                      pure (.tuple #[.bool true, e.key, e.val])
                    | some none => pure (.tuple #[.bool false])
                    | none => stuck "Next: no such candidate" : Sem Value)).run P w := by
                intro z hz
                have := hw0 z hz
                simp only [h0, Nat.add_zero, Instr.next, Sem.run_bind, Result.andThen_ok, hg, hg2, this, Bool.false_eq_true, if_false]
                have e1 : (⟨l'⟩ : Array MapEntry).filter (fun e => !(⟨seen⟩ : Array Nat).contains e.born) = ⟨l'.filter fun e => !seen.contains e.born⟩ := by
                  simp [List.filter_toArray]
                rw [e1]
                rfl
              have hcase : ∀ z, nextM es since seen stepped = some z → (z = none ∧ es.filter (fun e => !seen.contains e.born) = []) ∨ (∃ e, z = some e ∧ es.filter (fun e => !seen.contains e.born) = [e] ∧ e.born < since) := by
                intro z hz
                unfold nextM at hz
                cases hc : (!seen.isEmpty && (!es.isEmpty && es.all fun e => decide (e.born ≥ stepped))) with
                | true => rw [hc] at hz; cases hz
                | false =>
                  rw [hc] at hz
                  simp only [cond_false] at hz
                  split at hz
                  · rename_i hf
                    cases hz
                    exact .inl ⟨rfl, hf⟩
                  · rename_i e hf
                    obtain ⟨hb, hz⟩ := bif_some hz
                    rw [nblt, decide_eq_true_eq] at hb
                    cases hz
                    exact .inr ⟨e, rfl, hf, hb⟩
                  · cases hz
              split at hs
              · rename_i hz
                simp only [Option.some.injEq, Rs.val.injEq] at hs
                obtain ⟨rfl, rfl⟩ := hs
                refine ⟨ρ, w, .tuple #[.bool false], ?_, h, .refl _ _ _, .tuple (.cons (.bool _) .nil)⟩
                rw [hstep _ hz]
                rcases hcase _ hz with ⟨_, hf⟩ | ⟨e, h3, _⟩
                · rw [hf] at hfil
                  have hnil : l'.filter (fun e => !seen.contains e.born) = [] := by
                    generalize l'.filter (fun e => !seen.contains e.born) = z at hfil
                    cases hfil
                    rfl
                  rw [hnil]
                  simp [run_choose, Question.forced, Question.cut]
                · cases h3
              · rename_i e hz
                simp only [Option.some.injEq, Rs.val.injEq] at hs
                obtain ⟨rfl, rfl⟩ := hs
                rcases hcase _ hz with ⟨h3, _⟩ | ⟨e2, h3, hf, hb3⟩
                · cases h3
                · cases h3
                  rw [hf] at hfil
                  have hone : ∃ e', l'.filter (fun e => !seen.contains e.born) = [e'] ∧ VRel ρ e.key e'.key ∧ VRel ρ e.val e'.val ∧ e.born = e'.born := by
                    generalize l'.filter (fun e => !seen.contains e.born) = z at hfil
                    cases hfil with
                    | cons hk hv hbn hs =>
                      cases hs
                      exact ⟨_, rfl, hk, hv, hbn⟩
                  obtain ⟨e', he', hk, hv, hbn⟩ := hone
                  have := h.put (o' := .miter (some r2) since (seen ++ [e.born]) clock) (y := .mapIter (some sm.blk) since ⟨seen ++ [e.born]⟩ clock) hb h1 rfl rfl (alone h hb h1 rfl) ⟨h0, some sm.blk, rfl, .inr ⟨r2, sm, rfl, hsm, hsm0, rfl⟩⟩
                  refine ⟨ρ, _, .tuple #[.bool true, e'.key, e'.val], ?_, this.1, this.2, .tuple (.cons (.bool _) (.cons hk (.cons hv .nil)))⟩
                  rw [hstep _ hz, he']
                  have hlt : e'.born < since := by rw [← hbn]; exact hb3
                  have hge : ¬ (e'.born ≥ since) := by omega
                  simp [hlt, hge, run_choose, Question.forced, Question.cut, run_setObj_any h2 (by intros; simp), hbn]
              · cases hs
            · cases hs
    · simp at hs
  · simp at hs
theorem entryA_rel (h : Rel P ρ m w) (hs : entryA x m = some (.val v m')) (hx : VRel ρ x x') : DoesV P ρ m w (Instr.entry x') v m' := by
 unfold entryA at hs
 split at hs
 ·rename_i r
  split at hs
  ·rename_i r2 since seen stepped hb
   split at hs
   ·rename_i stamp hst
    split at hs
    ·rename_i es clock hb2
     split at hs
     ·rename_i e hf
      have hck : clock = stepped := by
       cases hb3 : Nat.beq clock stepped with
       | true => exact Nat.eq_of_beq_eq_true hb3
       | false => rw [hb3] at hs; cases hs
      subst hck
      rw [show Nat.beq clock clock = true from Nat.beq_refl clock] at hs
      cases hs
      obtain ⟨s, y, h1, h2, h0, mp', rfl, hmp⟩ := h.obj _ _ hb
      rcases hmp with ⟨e0, _⟩ | ⟨r3, sm, e0, hsm, hsm0, rfl⟩
      ·cases e0
      cases e0
      obtain ⟨s2, y2, g1, g2, g0, es', rfl, hes⟩ := h.obj _ _ hb2
      rw [hsm] at g1
      cases g1
      cases hx with
      | ptr hr =>
       rw [h1] at hr
       cases hr
       have hg : (getObj s.blk).run P w = .ok (.mapIter (some sm.blk) since ⟨seen⟩ clock) w := by simp [getObj, Sem.run, h2]
       have hg2 : (getObj sm.blk).run P w = .ok (.map es' clock) w := by simp [getObj, Sem.run, g2]
       obtain ⟨l'⟩ := es'
       have hes : EsRel ρ es l' := hes
       obtain ⟨e', he', hk, hv⟩ := hes.find (fun b => b == stamp) hf
       have hback : (⟨seen⟩ : Array Nat).back? = some stamp := by rw [← hst]; simp
       have hfind : (⟨l'⟩ : Array MapEntry).find? (·.born == stamp) = some e' := by rw [← he']; simp
       refine ⟨ρ, w, .tuple #[e'.key, e'.val], ?_, h, .refl _ _ _, .tuple (.cons hk (.cons hv .nil))⟩
       simp only [h0, Nat.add_zero, Instr.entry, Sem.run_bind, Result.andThen_ok, hg, hback, hg2, Sem.run_pure, bne_self_eq_false, Bool.false_eq_true, if_false, hfind]
     cases hs
    cases hs
   cases hs
  cases hs
 cases hs
end
end Go.Ab
namespace Go.Ab
variable [Vals]
section
variable {P : Program} {ρ ρ' : Ren} {m m' : AW} {w w' : World}
theorem zeroCells_run (_hz : zeroT P t = some z) (hl : (cellsOfV z).length = sz) : Builtin.zeroCells z.cells n = ⟨replicateL (cellsOfV z) n⟩ := by
 unfold Builtin.zeroCells
 have hs : z.cells.size = sz := by rw [cells_eq]; exact hl
 rw [hs]
 by_cases h0 : n * sz = 0
 ·rw [h0]
  have : replicateL (cellsOfV z) n = [] := List.eq_nil_of_length_eq_zero (by rw [replicateL_length, hl, h0])
  rw [this]
  simp
 have := range_map (cellsOfV z) n sz hl h0
 have e1 : (⟨cellsOfV z⟩ : Array Value).size = sz := hl
 rw [e1] at this
 rw [← this, cells_eq]
theorem zeros_run (h : zerosT P t sz n = some zs) (w : World) :
  ((if n * sz = 0 then pure #[] else do pure (Builtin.zeroCells (← zeroValue t).cells n)) : Sem (Array Value)).run P w = .ok ⟨zs⟩ w := by
 unfold zerosT at h
 by_cases h0 : n * sz = 0
 ·simp only [nbeq, h0, decide_true, cond_true, Option.some.injEq] at h
  subst h
  simp [h0]
 simp only [nbeq, h0, decide_false, cond_false] at h
 split at h
 ·rename_i z hz
  obtain ⟨hl, h⟩ := bif_some h
  simp only [decide_eq_true_eq, Option.some.injEq] at hl h
  subst h
  rw [if_neg h0]
  simp only [Sem.run_bind, run_zero hz, Result.andThen_ok, zeroCells_run hz hl, Sem.run_pure]
 simp at h
inductive AppArg (P : Program) (w : World) (ts : Array TypeId) (e : TypeId) (sz : Nat) (x' : Value) (n : Nat) (vs' : List Value) : Prop where
 | zeros {xt : TypeId} {k k' : IntKind} (hx : ts[1]? = some xt) (ht : P.underlying xt = some (.int k)) (hxe : x' = .int k' (Int.ofNat n)) (hn : n ≤ 16777216) (hz : zerosT P e sz n = some vs')
 | cells {xt : TypeId} {td : TypeDesc} (hx : ts[1]? = some xt) (ht : P.underlying xt = some td) (hni : ∀ k, td ≠ .int k) (hl : ∀ w, (Builtin.lenOf x').run P w = .ok n w) (hc : ∀ d, (Builtin.firstCells sz n x').run P { w with drawn := d } = .ok ⟨vs'⟩ { w with drawn := d })
theorem append_in (hA : AppArg P w ts e sz x' n vs') (hst : ts[0]? = some st) (hu : P.underlying st = some (.slice e)) (hsz : sizeT P e = some sz)
  (hi : P.info? e = some i) (hb : i.bytes * n ≤ 281474976710656) (hle : l + n ≤ c) (hs : ((match base with | some a => storeCells (a.add (l * sz)) vs' | none => pure ()) : Sem Unit).run P w = .ok () w') :
  (Builtin.append_ ts ty #[.slice base l c, x']).run P w = .ok (.slice base (l + n) c) w' := by
 unfold Builtin.append_
 cases hA with
 | zeros hx ht hxe hn hz =>
  subst hxe
  have w1 : IntKind.i64.wrap (Int.ofNat n) = Int.ofNat n := (wrap_in .i64 _ (by simp [loN]) (by simp only [hiN]; show (n : Int) ≤ _; omega)).symm
  have a1 : ¬ (Int.ofNat n < 0) := by simp
  have a2 : ¬ (Int.ofNat n * (i.bytes : Int) > 2 ^ 48) := by
   have : (2 : Int) ^ 48 = 281474976710656 := by decide
   rw [this]
   have h2 : ((i.bytes * n : Nat) : Int) ≤ (281474976710656 : Nat) := Int.ofNat_le.2 hb
   rw [Int.mul_comm]
   simp only [Int.natCast_mul] at h2
   simp only [Int.ofNat_eq_natCast]
   omega
  have e1 : (Int.ofNat n).toNat = n := rfl
  have hz' := zeros_run hz w
  simp only [hst, hx, List.getElem?_toArray, List.getElem?_cons_zero, List.getElem?_cons_succ, Sem.run_bind, run_und hu, Result.andThen_ok, run_size hsz, run_und ht, Sem.run_pure, if_true, asInt, asIntOf, w1, a1, if_false, run_info hi, a2, e1, hle, Bool.not_true, Bool.false_eq_true, hz']
  cases base with
  | none => simp only at hs ⊢; simpa using hs
  | some a => simp only [Sem.run_bind] at hs ⊢; simp [hs]
 | cells hx ht hni hl hc =>
  have hc := hc w.drawn
  simp only [hst, hx, List.getElem?_toArray, List.getElem?_cons_zero, List.getElem?_cons_succ, Sem.run_bind, run_und hu, Result.andThen_ok, run_size hsz, run_und ht, Sem.run_pure, Bool.false_eq_true, if_false, hl, hle, if_true, Bool.not_false, hc]
  cases base with
  | none => simp only at hs ⊢; simpa using hs
  | some a => simp only [Sem.run_bind] at hs ⊢; simp [hs]
theorem growBy_le (N : Nat) : ∀ (r c : Nat), c ≤ 2 * N + 192 → Builtin.growBy N r c ≤ 2 * N + 192
 | 0, c, h => by simpa [Builtin.growBy] using h
 | r + 1, c, h => by
  unfold Builtin.growBy
  split
  ·exact h
  exact growBy_le N r _ (by omega)
theorem nextcap_le (h : c < N) : Builtin.nextslicecap N c ≤ 2 * N + 192 := by
 unfold Builtin.nextslicecap
 split
 ·omega
 split
 ·omega
 exact growBy_le N 4 c (by omega)
theorem append_out (hA : AppArg P w ts e sz x' n vs') (hst : ts[0]? = some st) (hu : P.underlying st = some (.slice e)) (hsz : sizeT P e = some sz)
  (hi : P.info? e = some i) (hb : i.bytes ≤ 1024) (hb1 : 1 ≤ i.bytes) (hle : ¬ l + n ≤ c) (h32 : l + n ≤ 4294967296) (hz : zeroT P e = some z) (hzl : (cellsOfV z).length = sz) (ho : ∀ d, (Builtin.firstCells sz l (.slice base l c)).run P { w with drawn := d } = .ok ⟨old'⟩ { w with drawn := d }) :
  ∃ cap, l + n ≤ cap ∧ cap < 2 ^ 63 ∧ (Builtin.append_ ts ty #[.slice base l c, x']).run P w = .ok (.slice (some ⟨w.heap.size, 0, none⟩) (l + n) cap) { w with heap := w.heap.push (.cells ⟨old' ++ vs' ++ replicateL (cellsOfV z) (cap - (l + n))⟩ e), drawn := w.drawn + 1 } := by
 obtain ⟨c1, c2⟩ := appendCap_le (l + n) (w.tape w.drawn (.appendCap (l + n) c e)) (by omega) e c
 refine ⟨_, c1, c2, ?_⟩
 generalize hcap : (Question.appendCap (l + n) c e).cut (w.tape w.drawn (.appendCap (l + n) c e)) = cap at c1 c2
 have hnc := nextcap_le (N := l + n) (c := c) (by omega)
 have g1 : ¬ (Builtin.nextslicecap (l + n) c * i.bytes > 2 ^ 48) := by
  have : Builtin.nextslicecap (l + n) c * i.bytes ≤ (2 * 4294967296 + 192) * 1024 := Nat.mul_le_mul (by omega) hb
  have e2 : 2 ^ 48 = 281474976710656 := by decide
  omega
 have g0 : ¬ (((l + n : Nat) : Int) > IntKind.i64.max) := by
  have : IntKind.i64.max = 9223372036854775807 := rfl
  rw [this]
  omega
 unfold Builtin.append_
 have hzc := zeroCells_run (P := P) (n := cap - (l + n)) hz hzl
 cases hA with
 | zeros hx ht hxe hn hzz =>
  subst hxe
  have w1 : IntKind.i64.wrap (Int.ofNat n) = Int.ofNat n := (wrap_in .i64 _ (by simp [loN]) (by simp only [hiN]; show (n : Int) ≤ _; omega)).symm
  have a1 : ¬ (Int.ofNat n < 0) := by simp
  have a2 : ¬ (Int.ofNat n * (i.bytes : Int) > 2 ^ 48) := by
   have : (2 : Int) ^ 48 = 281474976710656 := by decide
   rw [this]
   have h1 : n * i.bytes ≤ 16777216 * 1024 := Nat.mul_le_mul hn hb
   have h2 : ((n * i.bytes : Nat) : Int) ≤ ((16777216 * 1024 : Nat) : Int) := Int.ofNat_le.2 h1
   simp only [Int.natCast_mul] at h2
   simp only [Int.ofNat_eq_natCast]
   omega
  have e1 : (Int.ofNat n).toNat = n := rfl
  have hz' := zeros_run hzz { w with drawn := w.drawn + 1 }
  have ho' := ho (w.drawn + 1)
  simp only [hst, hx, List.getElem?_toArray, List.getElem?_cons_zero, List.getElem?_cons_succ, Sem.run_bind, run_und hu, Result.andThen_ok, run_size hsz, run_und ht, Sem.run_pure, if_true, asInt, asIntOf, w1, a1, if_false, run_info hi, a2, e1, hle, Bool.not_true, Bool.false_eq_true, g0, g1, false_and, run_choose, Question.forced, hcap, run_askRoom, ho', hz', run_zero hz, newRow, run_newObj, hzc]
  simp
 | cells hx ht hni hl hc =>
  have ho' := ho (w.drawn + 1)
  have hc' := hc (w.drawn + 1)
  have hb0 : ¬ i.bytes = 0 := by omega
  simp only [hst, hx, List.getElem?_toArray, List.getElem?_cons_zero, List.getElem?_cons_succ, Sem.run_bind, run_und hu, Result.andThen_ok, run_size hsz, run_und ht, Sem.run_pure, Bool.false_eq_true, if_false, hl, run_info hi, hle, Bool.not_false, if_true, g0, g1, false_and, run_choose, Question.forced, hcap, run_askRoom, ho', hc', run_zero hz, newRow, run_newObj, hzc]
  simp
theorem firstA_rel (h : Rel P ρ m w) (hs : firstA m sz n x = some vs) (hx : VRel ρ x x') (hl : lenV x = some len) (hn : n ≤ len) :
  ∃ vs', (∀ d, (Builtin.firstCells sz n x').run P { w with drawn := d } = .ok ⟨vs'⟩ { w with drawn := d }) ∧ VsRel ρ vs vs' ∧ (∀ w, (Builtin.lenOf x').run P w = .ok len w) := by
 have h0 : ∀ (a : Addr) (c : Nat) (w : World), (Builtin.firstCells sz 0 (.slice (some a) len c)).run P w = .ok ⟨[]⟩ w := by
  intro a c w
  simp [Builtin.firstCells, loadCells, loadCellsFrom]
 unfold firstA at hs
 split at hs
 ·simp only [Option.some.injEq] at hs
  subst hs
  simp only [lenV, Option.some.injEq] at hl
  subst hl
  cases hx
  exact ⟨[], fun d => rfl, .nil, fun w => rfl⟩
 ·rename_i b off ln cp
  simp only [lenV, Option.some.injEq] at hl
  subst hl
  have hlen : ∃ a' cap', x' = .slice (some a') ln cap' := by cases hx <;> exact ⟨_, _, rfl⟩
  obtain ⟨a', cap', rfl⟩ := hlen
  by_cases hn0 : n = 0
  ·subst hn0
   simp only [nbeq, decide_true, cond_true, Option.some.injEq] at hs
   subst hs
   exact ⟨[], fun d => h0 _ _ _, .nil, fun w => rfl⟩
  simp only [nbeq, hn0, decide_false, cond_false] at hs
  obtain ⟨o, ho, hs⟩ := Option.bind_eq_some_iff.1 hs
  obtain ⟨s, x, h1, h2, h3⟩ := h.obj _ _ ho
  obtain ⟨a2, cap2, he, ha⟩ := slice_addr hx h1
  simp only [Value.slice.injEq, Option.some.injEq, true_and] at he
  obtain ⟨rfl, rfl⟩ := he
  have ha := ha (by omega)
  subst ha
  obtain ⟨vs', hr, hv, _⟩ := rdCells_rel2 hs h3
  exact ⟨vs', fun d => hr { w with drawn := d } h2, hv, fun w => rfl⟩
 ·rename_i s
  simp only [Option.some.injEq] at hs
  subst hs
  simp only [lenV, Option.some.injEq] at hl
  subst hl
  cases hx
  refine ⟨(s.data.toList.take n).map fun b => .int .u8 (Int.ofNat b.toNat), fun d => ?_, ?_, fun w => rfl⟩
  ·simp only [Builtin.firstCells, Sem.run_pure]
   congr 1
   apply Array.ext'
   simp [ByteArray.data_extract]
  generalize s.data.toList.take n = l
  induction l with
  | nil => exact .nil
  | cons a l ih => exact .cons (.int ..) ih
 simp at hs
end
end Go.Ab
namespace Go.Ab
variable [Vals]
section
variable {P : Program} {ρ ρ' : Ren} {m m' : AW} {w w' : World}
theorem cellsOf_size (h : sizeT P e = some sz) : P.cellsOf e = sz := by
 unfold sizeT at h
 simp only [Program.cellsOf, h, Option.getD_some]
theorem first_nil (w : World) (hl : l = 0) : (Builtin.firstCells sz l (.slice a l c)).run P w = .ok ⟨[]⟩ w := by
 subst hl
 cases a <;> simp [Builtin.firstCells, loadCells, loadCellsFrom]
theorem fresh_rel (h : Rel P ρ m w) (hf : ρ m.next = none) {mt : Option Nat} (hmd : md ≠ .ro) (ho : VsRel ρ old old') (hv : VsRel ρ vs vs') (hol : old.length = l * sz) (hvl : vs.length = n * sz) (hz : z.length = sz) (hsz : sizeT P e = some sz)
  (hcap : l + n ≤ cap) (hbig : cap < 2 ^ 63) (hr : x.run P w = .ok (.slice (some ⟨w.heap.size, 0, none⟩) (l + n) cap) { w with heap := w.heap.push (.cells ⟨old' ++ vs' ++ replicateL z (cap - (l + n))⟩ e), drawn := w.drawn + 1 }) :
  DoesV P ρ m w x (.slice (some ⟨m.next, 0, none⟩) (l + n) top) (m.new (.cells (old ++ vs) e true md mt)) := by
 have hov := ho.append hv
 have hb : cap < big := by simp only [big]; omega
 have hsize : (old' ++ vs' ++ replicateL z (cap - (l + n))).length = cap * sz := by
  rw [List.length_append, List.length_append, ← ho.length_eq, ← hv.length_eq, replicateL_length, hz, hol, hvl, ← Nat.add_mul, ← Nat.add_mul]
  congr 1
  omega
 have hle : ρ.le (ρ.set m.next ⟨w.heap.size, 0, cap⟩) := Ren.le_set hf
 have hn := h.new (w' := { w with heap := w.heap.push (.cells ⟨old' ++ vs' ++ replicateL z (cap - (l + n))⟩ e), drawn := w.drawn + 1 }) hf (x := .cells (old ++ vs) e true md mt) (y := .cells ⟨old' ++ vs' ++ replicateL z (cap - (l + n))⟩ e) (cap := cap)
  rfl ⟨rfl, rfl, rfl⟩ (by
   refine ⟨_, (0, 0), rfl, ?_, ?_, ?_, ?_, ?_⟩
   ·show 0 + (old ++ vs).length ≤ (old' ++ vs' ++ replicateL z (cap - (l + n))).length
    have e1 : (old' ++ vs' ++ replicateL z (cap - (l + n))).length = (old' ++ vs').length + (replicateL z (cap - (l + n))).length := List.length_append
    rw [e1, hov.length_eq]
    omega
   ·intro i v hi
    obtain ⟨v', h1, h2⟩ := hov.get hi
    refine ⟨v', ?_, h2.mono hle⟩
    have hlt := (List.getElem?_eq_some_iff.1 h1).1
    simp only [Nat.zero_add]
    show (⟨old' ++ vs' ++ replicateL z (cap - (l + n))⟩ : Array Value)[i]? = _
    have : (⟨old' ++ vs' ++ replicateL z (cap - (l + n))⟩ : Array Value)[i]? = (old' ++ vs' ++ replicateL z (cap - (l + n)))[i]? := by simp
    rw [this, List.getElem?_append_left hlt, h1]
   ·intro h; cases h
   ·intro _
    refine ⟨hb, ?_⟩
    show 0 + cap * P.cellsOf e ≤ (old' ++ vs' ++ replicateL z (cap - (l + n))).length
    rw [hsize, cellsOf_size hsz]
    omega
   cases md with
   | plain => rfl
   | frozen => exact .inl rfl
   | strish => intro j _; simp only; omega
   | ro => trivial)
 refine ⟨_, _, _, hr, hn.1, hn.2, ?_⟩
 have := VRel.open_ (ρ := ρ.set m.next ⟨w.heap.size, 0, cap⟩) (b := m.next) (off := 0) (len := l + n) (i := 0) (a' := ⟨w.heap.size, 0, none⟩) (Ren.set_same _ _ _) (by simpa using hcap) hb (fun _ => rfl)
 simpa using this
theorem grow_in_place (h : Rel P ρ m w) (hf : ρ m.next = none) {mt : Option Nat} (hb : m.heap.get b = some (.cells cs e true md mt)) (hs : ρ b = some s) (hsz : sizeT P e = some sz)
  (hmd : md ≠ .ro) (hoff : off = i * sz) (hk : k = off + len * sz) (hkc : k ≤ cs.length) (hfz : k = cs.length ∨ md ≠ .frozen) (hcap : i + (len + n) ≤ s.cap) (hv : VsRel ρ vs vs') (hvl : vs.length = n * sz) (hfl : flats vs = true) (hn1 : 1 ≤ n) :
  ∃ w', (storeCells ⟨s.blk, s.off + k, none⟩ vs' 0).run P w = .ok () w' ∧
   Rel P (ρ.set m.next ⟨s.blk, s.off + off, s.cap - i⟩) (((kill m mt).set b (some (.cells (cs.take k) e true md (some m.next)))).new (.cells ((cs.take k).drop off ++ vs) e true md (some b))) w' ∧
   Grow ρ (ρ.set m.next ⟨s.blk, s.off + off, s.cap - i⟩) m (((kill m mt).set b (some (.cells (cs.take k) e true md (some m.next)))).new (.cells ((cs.take k).drop off ++ vs) e true md (some b))) w w' ∧
   VRel (ρ.set m.next ⟨s.blk, s.off + off, s.cap - i⟩) (.slice (some ⟨m.next, 0, none⟩) (len + n) top) (.slice (some ⟨s.blk, s.off + off, none⟩) (len + n) (s.cap - i)) := by
 obtain ⟨s2, x, h1, h2, h3⟩ := h.obj _ _ hb
 rw [hs] at h1
 cases h1
 obtain ⟨c, fr, rfl, hcs, hcell, hg1, hg2, hfr⟩ := h3
 obtain ⟨hbig, hroom⟩ := hg2 rfl
 rw [cellsOf_size hsz] at hroom
 have hl := hv.length_eq
 have hro : isRo (.cells cs e true md mt) = false := by cases md <;> first | rfl | exact absurd rfl hmd
 have hal := alone h hb hs hro
 have hbn : b ≠ m.next := fun e => by rw [e, hf] at hs; cases hs
 have hmul : (i + (len + n)) * sz ≤ s.cap * sz := Nat.mul_le_mul_right _ hcap
 have hmul2 : (i + (len + n)) * sz = i * sz + len * sz + n * sz := by rw [Nat.add_mul, Nat.add_mul, Nat.add_assoc]
 have hfit : s.off + k + vs'.length ≤ c.size := by omega
 have hrun := run_storeCells (P := P) (b := s.blk) (off := s.off + k) vs' 0 w c e fr h2 (by omega) (flats_rel hv hfl) (by
  intro j j1 j2 j3
  cases md with
  | plain => simp only [FrOk] at hfr; omega
  | strish => exact hfr j (by omega) j3
  | frozen =>
   rcases hfz with hfz | hfz
   ·rcases hfr with hfr | hfr <;> omega
   exact hfz rfl
  | ro => exact hmd rfl)
 rw [Nat.add_zero] at hrun
 have hcl : c.toList.length = c.size := by simp
 have hlen' : (putCells c.toList (s.off + k) vs').length = c.size := by
  rw [putCells_length _ _ _ (by omega)]
  exact hcl
 have hin := h.inb _ _ hs
 have hle : ρ.le (ρ.set m.next ⟨s.blk, s.off + off, s.cap - i⟩) := Ren.le_set hf
 have hpg : ∀ j, (⟨putCells c.toList (s.off + k) vs'⟩ : Array Value)[j]? = if s.off + k ≤ j ∧ j < s.off + k + vs'.length then vs'[j - (s.off + k)]? else c[j]? := by
  intro j
  have e1 : (⟨putCells c.toList (s.off + k) vs'⟩ : Array Value)[j]? = (putCells c.toList (s.off + k) vs')[j]? := by simp
  rw [e1, putCells_get _ _ _ _ (by omega)]
  simp
 have hknext : (kill m mt).next = m.next := kill_next
 have hget : ∀ b2, (((kill m mt).set b (some (.cells (cs.take k) e true md (some m.next)))).new (.cells ((cs.take k).drop off ++ vs) e true md (some b))).heap.get b2 =
   if b2 = m.next then some (.cells ((cs.take k).drop off ++ vs) e true md (some b)) else if b2 = b then some (.cells (cs.take k) e true md (some m.next)) else (kill m mt).heap.get b2 := by
  intro b2
  rw [AW.new_get]
  have : ((kill m mt).set b (some (.cells (cs.take k) e true md (some m.next)))).next = m.next := hknext
  rw [this, AW.set_get]
 have hold : ∀ {b2 s2}, b2 ≠ m.next → (ρ.set m.next ⟨s.blk, s.off + off, s.cap - i⟩) b2 = some s2 → ρ b2 = some s2 := by
  intro b2 s2 hb2 h1
  simpa [Ren.set, hb2] using h1
 refine ⟨_, hrun, ⟨?_, ?_, ?_, ?_⟩, ⟨hle, ?_, ⟨rfl, rfl, rfl⟩, by rw [setBlk_size]; exact Nat.le_refl _, ?_, ?_, ?_, ?_⟩, ?_⟩
 ·intro b2 o2 hb2
  rw [hget] at hb2
  split at hb2
  ·rename_i e2
   subst e2
   cases hb2
   refine ⟨_, _, Ren.set_same _ _ _, by rw [setBlk_get hin, if_pos rfl], ⟨_, fr, rfl, ?_, ?_, ?_, ?_, ?_⟩⟩
   ·show s.off + off + ((cs.take k).drop off ++ vs).length ≤ (putCells _ _ _).length
    rw [hlen', List.length_append, List.length_drop, List.length_take]
    omega
   ·intro j v hj
    simp only [hpg]
    have hdl : ((cs.take k).drop off).length = k - off := by rw [List.length_drop, List.length_take]; omega
    by_cases hjk : j < k - off
    ·rw [List.getElem?_append_left (by omega), List.getElem?_drop, List.getElem?_take, if_pos (by omega)] at hj
     rw [if_neg (by omega)]
     obtain ⟨v', q1, q2⟩ := hcell _ _ hj
     exact ⟨v', by rw [← q1, Nat.add_assoc], q2.mono hle⟩
    rw [List.getElem?_append_right (by omega), hdl] at hj
    have hjl := (List.getElem?_eq_some_iff.1 hj).1
    rw [if_pos (by omega)]
    obtain ⟨v', q1, q2⟩ := hv.get hj
    exact ⟨v', by rw [← q1]; congr 1; omega, q2.mono hle⟩
   ·intro hh; cases hh
   ·intro _
    refine ⟨by simp only [big] at *; omega, ?_⟩
    show s.off + off + (s.cap - i) * P.cellsOf e ≤ (putCells _ _ _).length
    rw [hlen', cellsOf_size hsz, Nat.sub_mul]
    have : i * sz ≤ s.cap * sz := Nat.mul_le_mul_right _ (by omega)
    omega
   show FrOk md (s.off + off + ((cs.take k).drop off ++ vs).length) (putCells _ _ _).length fr
   rw [hlen', List.length_append, List.length_drop, List.length_take]
   cases md with
   | plain => exact hfr
   | strish => exact hfr
   | frozen =>
    rcases hfz with hfz | hfz
    ·rcases hfr with hfr | hfr
     ·exact .inl hfr
     exact .inr (by omega)
    exact absurd rfl hfz
   | ro => trivial
  split at hb2
  ·rename_i e2
   subst e2
   cases hb2
   refine ⟨s, _, hle _ _ hs, by rw [setBlk_get hin, if_pos rfl], ⟨_, fr, rfl, ?_, ?_, ?_, ?_, ?_⟩⟩
   ·show s.off + (cs.take k).length ≤ (putCells _ _ _).length
    rw [hlen', List.length_take]
    omega
   ·intro j v hj
    have hjl := (List.getElem?_eq_some_iff.1 hj).1
    rw [List.length_take] at hjl
    rw [List.getElem?_take, if_pos (by omega)] at hj
    rw [hpg, if_neg (by omega)]
    obtain ⟨v', q1, q2⟩ := hcell _ _ hj
    exact ⟨v', q1, q2.mono hle⟩
   ·intro hh; cases hh
   ·intro _
    refine ⟨hbig, ?_⟩
    show _ ≤ (putCells _ _ _).length
    rw [hlen', cellsOf_size hsz]
    exact hroom
   show FrOk md (s.off + (cs.take k).length) (putCells _ _ _).length fr
   rw [hlen', List.length_take]
   cases md with
   | plain => exact hfr
   | strish => exact hfr
   | frozen =>
    rcases hfz with hfz | hfz
    ·rcases hfr with hfr | hfr
     ·exact .inl hfr
     exact .inr (by omega)
    exact absurd rfl hfz
   | ro => trivial
  rename_i e1 e2
  obtain ⟨s2, y2, q1, q2, q3⟩ := (h.kill mt).obj b2 o2 hb2
  exact ⟨s2, y2, hle _ _ q1, by rw [setBlk_get hin, if_neg (hal b2 o2 s2 e2 hb2 q1)]; exact q2, q3.mono hle⟩
 ·intro b1 b2 o1 o2 s1 s2 hne g1 g2 r1 r2 he
  rw [hget] at g1 g2
  split at g1
  ·rename_i e1
   cases g1
   rw [e1, Ren.set_same] at r1
   cases r1
   split at g2
   ·rename_i e2
    exact absurd (e1.trans e2.symm) hne
   rename_i e2
   have r2 := hold e2 r2
   split at g2
   ·rename_i e3
    cases g2
    exact .inl ⟨by rw [e3]; rfl, by rw [e1]; rfl⟩
   rename_i e3
   exact absurd he.symm (hal b2 o2 s2 e3 g2 r2)
  rename_i e1
  have r1 := hold e1 r1
  split at g2
  ·rename_i e2
   cases g2
   rw [e2, Ren.set_same] at r2
   cases r2
   split at g1
   ·rename_i e3
    cases g1
    exact .inl ⟨by rw [e2]; rfl, by rw [e3]; rfl⟩
   rename_i e3
   exact absurd he (hal b1 o1 s1 e3 g1 r1)
  rename_i e2
  have r2 := hold e2 r2
  split at g1
  ·rename_i e3
   split at g2
   ·rename_i e4
    exact absurd (e3.trans e4.symm) hne
   rename_i e4
   rw [e3, hs] at r1
   cases r1
   exact absurd he.symm (hal b2 o2 s2 e4 g2 r2)
  rename_i e3
  split at g2
  ·rename_i e4
   rw [e4, hs] at r2
   cases r2
   exact absurd he (hal b1 o1 s1 e3 g1 r1)
  exact (h.kill mt).sep b1 b2 o1 o2 s1 s2 hne g1 g2 r1 r2 he
 ·intro g hg
  obtain ⟨c2, hc2⟩ := h.glob g hg
  exact ⟨c2, hle _ _ hc2⟩
 ·intro b2 s2 hb2
  rw [setBlk_size]
  by_cases e2 : b2 = m.next
  ·subst e2
   rw [Ren.set_same] at hb2
   cases hb2
   exact hin
  exact h.inb _ _ (hold e2 hb2)
 ·intro j hj
  have : j ≠ m.next := by
   simp only [AW.new, AW.set, hknext] at hj
   omega
  simp [Ren.set, this]
 ·intro B hB hno
  have : B ≠ s.blk := fun e2 => hno ⟨b, _, s, hb, hro, hs, e2.symm⟩
  rw [setBlk_get hin, if_neg this]
 ·rintro B ⟨b2, o2, s2, q1, q2, q3, q4⟩
  rw [hget] at q1
  split at q1
  ·rename_i e2
   rw [e2, Ren.set_same] at q3
   cases q3
   exact .inl ⟨b, _, s, hb, hro, hs, q4⟩
  rename_i e1
  split at q1
  ·rename_i e2
   rw [e2] at q3
   rw [hle _ _ hs] at q3
   cases q3
   exact .inl ⟨b, _, s, hb, hro, hs, q4⟩
  exact .inl ⟨b2, o2, s2, sub_kill _ _ q1, q2, hold e1 q3, q4⟩
 ·simp only [AW.new, AW.set, hknext]
  omega
 ·rintro B ⟨b2, o2, s2, q1, q3, q4⟩
  rw [hget] at q1
  split at q1
  ·rename_i e2
   rw [e2, Ren.set_same] at q3
   cases q3
   exact .inl ⟨b, _, s, hb, hs, q4⟩
  rename_i e1
  split at q1
  ·rename_i e2
   rw [e2] at q3
   rw [hle _ _ hs] at q3
   cases q3
   exact .inl ⟨b, _, s, hb, hs, q4⟩
  exact .inl ⟨b2, o2, s2, sub_kill _ _ q1, hold e1 q3, q4⟩
 have := VRel.open_ (ρ := ρ.set m.next ⟨s.blk, s.off + off, s.cap - i⟩) (b := m.next) (off := 0) (len := len + n) (i := 0) (a' := ⟨s.blk, s.off + off, none⟩) (Ren.set_same _ _ _) (by show 0 + (len + n) ≤ s.cap - i; omega) (by show s.cap - i < big; omega) (fun _ => rfl)
 simpa using this
end
end Go.Ab
namespace Go.Ab
variable [Vals]
section
variable {P : Program} {ρ ρ' : Ren} {m m' : AW} {w w' : World}
theorem zeroFits_some (h : zeroFits P e sz = true) : ∃ z, zeroT P e = some z ∧ (cellsOfV z).length = sz := by
 unfold zeroFits at h
 split at h
 ·rename_i z hz
  simp only [nbeq, decide_eq_true_eq] at h
  exact ⟨z, hz, h⟩
 cases h
theorem appendA_rel (h : Rel P ρ m w) (hf : ∀ i, m.next ≤ i → i < m'.next → ρ i = none) (hs : appendA P e m s n vs = some (v, m')) (hsr : VRel ρ s s') (hv : VsRel ρ vs vs')
  (hA : ∀ sz, sizeT P e = some sz → AppArg P w ts e sz x' n vs') (hv0 : n = 0 → vs' = []) (hst : ts[0]? = some st) (hu : P.underlying st = some (.slice e)) (hse : (sizeT P e).isSome) : DoesV P ρ m w (Builtin.append_ ts ty #[s', x']) v m' := by
 obtain ⟨sz, hsz⟩ := Option.isSome_iff_exists.1 hse
 have hA := hA sz hsz
 obtain ⟨i, hi⟩ : ∃ i, P.info? e = some i := by
  unfold sizeT at hsz
  cases hh : P.info? e with
  | none => rw [hh] at hsz; cases hsz
  | some i => exact ⟨i, rfl⟩
 unfold appendA at hs
 split at hs
 ·have hv0 := hv0 rfl
  subst hv0
  split at hs
  ·rename_i a len cap
   obtain ⟨hle, hs⟩ := bif_some hs
   simp only [nble, decide_eq_true_eq, Option.some.injEq, Prod.mk.injEq] at hle hs
   obtain ⟨rfl, rfl⟩ := hs
   have key : ∀ (a' : Option Addr) (cap' : Nat), s' = .slice a' len cap' → len ≤ cap' → DoesV P ρ m w (Builtin.append_ ts ty #[s', x']) (.slice a len cap) m := by
    intro a' cap' he hle'
    subst he
    refine ⟨ρ, w, _, append_in (n := 0) hA hst hu hsz hi (by omega) (by omega) ?_, h, .refl _ _ _, hsr⟩
    cases a' <;> simp [storeCells]
   cases hsr with
   | sliceNil hc => exact key _ _ rfl hle
   | slice hb hc => exact key _ _ rfl hle
   | empty => exact key _ _ rfl (by omega)
   | open_ hb hic hc ha => exact key _ _ rfl (by omega)
  cases hs
 ·rename_i a len cap hn0
  have hn0 : n ≠ 0 := by intro e0; exact hn0 e0
  rw [hsz, hi] at hs
  simp only at hs
  cases hck : (zeroFits P e sz && Nat.beq vs.length (n * sz) && flats vs && Nat.ble (len + n) 4294967296 && Nat.ble i.bytes 1024 && Nat.ble 1 i.bytes && Nat.ble 1 sz) with
  | false => rw [hck] at hs; cases hs
  | true =>
  rw [hck] at hs
  simp only [Bool.not_true, cond_false] at hs
  simp only [Bool.and_eq_true, nbeq, nble, decide_eq_true_eq] at hck
  obtain ⟨⟨⟨⟨⟨⟨hzf, hvl⟩, hfl⟩, h32⟩, hb⟩, hb1⟩, hsz1⟩ := hck
  obtain ⟨z, hz, hzl⟩ := zeroFits_some hzf
  have hn1 : 1 ≤ n := by omega
  have hbn : i.bytes * n ≤ 281474976710656 := by
   have : i.bytes * n ≤ 1024 * 4294967296 := Nat.mul_le_mul hb (by omega)
   omega
  have hvne : vs ≠ [] := by
   intro e0
   rw [e0] at hvl
   have : 1 * 1 ≤ n * sz := Nat.mul_le_mul hn1 hsz1
   simp at hvl
   omega
  -- a new row
  have fresh : ∀ (old old' : List Value) (base : Option Addr) (c : Nat), s' = .slice base len c → ¬ len + n ≤ c → VsRel ρ old old' → old.length = len * sz → (∀ d, (Builtin.firstCells sz len (.slice base len c)).run P { w with drawn := d } = .ok ⟨old'⟩ { w with drawn := d }) →
    ρ m.next = none → DoesV P ρ m w (Builtin.append_ ts ty #[s', x']) (.slice (some ⟨m.next, 0, none⟩) (len + n) top) (m.new (.cells (old ++ vs) e true .plain none)) := by
   intro old old' base c he hle ho hol hrun hfr
   subst he
   obtain ⟨cap, c1, c2, hr⟩ := append_out (ty := ty) hA hst hu hsz hi hb hb1 hle h32 hz hzl hrun
   exact fresh_rel h hfr (by simp) ho hv hol hvl hzl hsz c1 c2 hr
  split at hs
  ·obtain ⟨hc, hs⟩ := bif_some hs
   simp only [Bool.and_eq_true, nbeq, decide_eq_true_eq, Option.some.injEq, Prod.mk.injEq] at hc hs
   obtain ⟨rfl, rfl⟩ := hc
   obtain ⟨rfl, rfl⟩ := hs
   cases hsr
   exact fresh [] [] none 0 rfl (by omega) .nil (by simp) (fun d => first_nil _ rfl) (hf _ (Nat.le_refl _) (by simp [AW.new]))
  ·rename_i b off
   by_cases hbig : cap < big
   ·simp only [nblt, hbig, decide_true, cond_true] at hs
    by_cases hle : len + n ≤ cap
    ·simp only [nble, hle, decide_true, cond_true] at hs
     obtain ⟨m2, hst2, hs⟩ := Option.map_eq_some_iff.1 hs
     simp only [Prod.mk.injEq] at hs
     obtain ⟨rfl, rfl⟩ := hs
     cases hsr with
     | slice hb2 hc2 =>
      rename_i s
      obtain ⟨w', q1, q2, q3⟩ := storeA_rel h hst2 hv (a' := ⟨s.blk, s.off + (off + len * sz), none⟩) (fun _ => ⟨s, hb2, rfl⟩)
      refine ⟨ρ, w', _, append_in hA hst hu hsz hi hbn hle ?_, q2, q3, .slice hb2 hc2⟩
      simp only [Addr.add_eq, Nat.add_assoc]
      exact q1
     | empty => omega
     | open_ hb2 hi2 hc2 ha2 =>
      simp only [big, top] at *
      omega
    simp only [nble, hle, decide_false, cond_false] at hs
    have real : ∃ a' c', s' = .slice (some a') len c' ∧ c' = cap := by
     cases hsr with
     | slice hb2 hc2 => exact ⟨_, _, rfl, rfl⟩
     | empty => exact ⟨_, _, rfl, rfl⟩
     | open_ hb2 hi2 hc2 ha2 =>
      simp only [big, top] at *
      omega
    obtain ⟨a', c', rfl, rfl⟩ := real
    split at hs
    ·rename_i o ho
     obtain ⟨old, hold, hs⟩ := Option.map_eq_some_iff.1 hs
     simp only [Prod.mk.injEq] at hs
     obtain ⟨rfl, rfl⟩ := hs
     have hfr := hf _ (Nat.le_refl _) (by simp [AW.new])
     by_cases hl0 : len = 0
     ·have : old = [] := List.eq_nil_of_length_eq_zero (by rw [rdCells_len hold, hl0, Nat.zero_mul])
      subst this
      exact fresh [] [] _ _ rfl hle .nil (by simp [hl0]) (fun d => first_nil _ hl0) hfr
     obtain ⟨s, x, q1, q2, q3⟩ := h.obj _ _ ho
     obtain ⟨a2, c2, he, ha⟩ := slice_addr hsr q1
     cases he
     have ha := ha (by omega)
     subst ha
     obtain ⟨old', hr, hov, hol⟩ := rdCells_rel2 hold q3
     exact fresh old old' _ _ rfl hle hov hol (fun d => hr { w with drawn := d } q2) hfr
    obtain ⟨hc, hs⟩ := bif_some hs
    simp only [nbeq, decide_eq_true_eq, Option.some.injEq, Prod.mk.injEq] at hc hs
    obtain ⟨rfl, rfl⟩ := hs
    exact fresh [] [] _ _ rfl hle .nil (by simp [hc]) (fun d => first_nil _ hc) (hf _ (Nat.le_refl _) (by simp [AW.new]))
   simp only [nblt, hbig, decide_false, cond_false] at hs
   split at hs
   ·rename_i cs e' md mate hbo
    obtain ⟨hc, hs2⟩ := bif_some hs
    clear hs
    simp only [Bool.and_eq_true, Bool.or_eq_true, Bool.not_eq_true', decide_eq_false_iff_not, nbeq, nble, decide_eq_true_eq, Option.some.injEq, Prod.mk.injEq] at hc hs2
    obtain ⟨⟨⟨⟨rfl, hmd⟩, hoff⟩, hk⟩, hfz⟩ := hc
    obtain ⟨rfl, rfl⟩ := hs2
    have hfr := hf _ (Nat.le_refl _) (by simp [AW.new, AW.set, kill_next])
    cases hsr with
    | slice hb2 hc2 => exact absurd hc2 hbig
    | empty => simp [big] at hbig
    | open_ hb2 hi2 hc2 ha2 =>
     rename_i j a' s
     have hj : top - (top - j) = j := by simp only [big, top] at *; omega
     rw [hj] at hoff
     by_cases hle : len + n ≤ s.cap - j
     ·have ha := ha2 (by omega)
      subst ha
      obtain ⟨w', q1, q2, q3, q4⟩ := grow_in_place h hfr hbo hb2 hsz hmd hoff rfl hk hfz (by omega) hv hvl hfl hn1
      refine ⟨_, w', _, append_in hA hst hu hsz hi hbn hle ?_, q2, q3, q4⟩
      simp only [Addr.add_eq, Nat.add_assoc]
      exact q1
     obtain ⟨s2, x, q1, q2, q3⟩ := h.obj _ _ hbo
     rw [hb2] at q1
     cases q1
     have hro : isRo (.cells cs e true md mate) = false := by cases md <;> first | rfl | exact absurd rfl hmd
     have hrd : rdCells (.cells cs e true md mate) off (len * sz) = some ((cs.take (off + len * sz)).drop off) := by
      simp only [rdCells, nble, hk, decide_true, cond_true, List.drop_take, Nat.add_sub_cancel_left]
     have hx2 : XRel P ρ s (.cells (cs.take (off + len * sz)) e true md (some m.next)) x := by
      obtain ⟨c, fr, rfl, hcs, hcell, hg1, hg2, hfz2⟩ := q3
      refine ⟨c, fr, rfl, by rw [List.length_take]; omega, ?_, fun hh => (by cases hh), hg2, ?_⟩
      ·intro i v hiv
       have hil := (List.getElem?_eq_some_iff.1 hiv).1
       rw [List.length_take] at hil
       rw [List.getElem?_take, if_pos (by omega)] at hiv
       exact hcell _ _ hiv
      rw [List.length_take]
      cases md with
      | plain => exact hfz2
      | strish => exact hfz2
      | frozen =>
       rcases hfz with hfz | hfz
       ·rcases hfz2 with hfz2 | hfz2
        ·exact .inl hfz2
        exact .inr (by omega)
       exact absurd rfl hfz
      | ro => trivial
     have hput := h.put2 (m0 := kill m mate) sub_kill kill_next (o' := .cells (cs.take (off + len * sz)) e true md (some m.next)) (y := x) hbo hb2 hro (by cases md <;> first | rfl | exact absurd rfl hmd) (alone h hbo hb2 hro) hx2
     rw [setBlk_same q2] at hput
     have hnx : ((kill m mate).set b (some (.cells (cs.take (off + len * sz)) e true md (some m.next)))).next = m.next := kill_next
     have fin : ∀ (old' : List Value), VsRel ρ ((cs.take (off + len * sz)).drop off) old' → (∀ d, (Builtin.firstCells sz len (.slice (some a') len (s.cap - j))).run P { w with drawn := d } = .ok ⟨old'⟩ { w with drawn := d }) →
       DoesV P ρ m w (Builtin.append_ ts ty #[.slice (some a') len (s.cap - j), x']) (.slice (some ⟨m.next, 0, none⟩) (len + n) top)
        (((kill m mate).set b (some (.cells (cs.take (off + len * sz)) e true md (some m.next)))).new (.cells ((cs.take (off + len * sz)).drop off ++ vs) e true md (some b))) := by
      intro old' hov hrun
      obtain ⟨cap, c1, c2, hr⟩ := append_out (ty := ty) hA hst hu hsz hi hb hb1 hle h32 hz hzl hrun
      have := fresh_rel (m := (kill m mate).set b (some (.cells (cs.take (off + len * sz)) e true md (some m.next)))) (mt := some b) hput.1 (by rw [hnx]; exact hfr) hmd hov hv (rdCells_len hrd) hvl hzl hsz c1 c2 hr
      rw [hnx] at this
      obtain ⟨ρ', w', v', t1, t2, t3, t4⟩ := this
      exact ⟨ρ', w', v', t1, t2, hput.2.trans t3, t4⟩
     by_cases hl0 : len = 0
     ·have he : (cs.take (off + len * sz)).drop off = [] := List.eq_nil_of_length_eq_zero (by rw [rdCells_len hrd, hl0, Nat.zero_mul])
      have := fin [] (by rw [he]; exact .nil) (fun d => first_nil _ hl0)
      exact this
     have ha := ha2 (by omega)
     subst ha
     obtain ⟨old', hr, hov, hol⟩ := rdCells_rel2 hrd q3
     exact fin old' hov (fun d => hr { w with drawn := d } q2)
   cases hs
  simp at hs
 cases hs
end
end Go.Ab
namespace Go.Ab
variable [Vals]
section
variable {P : Program} {ρ ρ' : Ren} {m m' : AW} {w w' : World}
theorem firstA_zero (h : firstA m sz 0 x = some vs) : vs = [] := by
 unfold firstA at h
 split at h
 ·simpa using h.symm
 ·simpa using h.symm
 ·simpa using h.symm
 cases h
theorem valP_some (h : valP x = some (.val v m')) : x = some (v, m') := by
 unfold valP at h
 split at h
 ·simp only [Option.some.injEq, Rs.val.injEq] at h
  obtain ⟨rfl, rfl⟩ := h
  rfl
 cases h
theorem VsRel.ground_self (h : zerosT P t sz n = some zs) : VsRel ρ zs zs := by
 unfold zerosT at h
 by_cases h0 : n * sz = 0
 ·simp only [nbeq, h0, decide_true, cond_true, Option.some.injEq] at h
  subst h
  exact .nil
 simp only [nbeq, h0, decide_false, cond_false] at h
 split at h
 ·rename_i z hz
  obtain ⟨hl, h⟩ := bif_some h
  simp only [Option.some.injEq] at h
  subst h
  exact ((zero_rel hz).cells).replicateL n
 cases h
theorem appendV_rel (h : Rel P ρ m w) (hf : ∀ i, m.next ≤ i → i < m'.next → ρ i = none) (hs : appendV P ts[0]? ts[1]? s x m = some (.val v m')) (hsr : VRel ρ s s') (hx : VRel ρ x x') :
  DoesV P ρ m w (Builtin.append_ ts ty #[s', x']) v m' := by
 unfold appendV at hs
 split at hs
 ·rename_i e ht
  obtain ⟨st, hst, hu⟩ := Option.bind_eq_some_iff.1 ht
  split at hs
  ·rename_i sz hsz
   split at hs
   ·rename_i k hxt
    obtain ⟨xt, hxt1, hxt2⟩ := Option.bind_eq_some_iff.1 hxt
    split at hs
    ·rename_i n hn
     obtain ⟨hle, hs⟩ := bif_some hs
     simp only [nble, decide_eq_true_eq] at hle
     obtain ⟨k', rfl⟩ := asInt_some hn hx
     split at hs
     ·rename_i zs hz
      refine appendA_rel h hf (valP_some hs) hsr (VsRel.ground_self hz) (fun sz2 h2 => ?_) (fun h0 => ?_) hst hu (by rw [hsz]; rfl)
      ·rw [hsz] at h2
       cases h2
       exact .zeros hxt1 hxt2 rfl hle hz
      subst h0
      simpa [zerosT, nbeq] using hz.symm
     cases hs
    cases hs
   ·rename_i td hni hxt
    obtain ⟨xt, hxt1, hxt2⟩ := Option.bind_eq_some_iff.1 hxt
    split at hs
    ·rename_i n hn
     split at hs
     ·rename_i vs hvs
      obtain ⟨vs', h1, h2, h3⟩ := firstA_rel h hvs hx hn (Nat.le_refl _)
      refine appendA_rel h hf (valP_some hs) hsr h2 (fun sz2 h2 => ?_) (fun h0 => ?_) hst hu (by rw [hsz]; rfl)
      ·rw [hsz] at h2
       cases h2
       exact .cells hxt1 hxt2 (fun k hk => hni k (by rw [hk])) h3 h1
      subst h0
      have := firstA_zero hvs
      subst this
      cases h2
      rfl
     cases hs
    cases hs
   cases hs
  cases hs
 cases hs
theorem copyV_rel (h : Rel P ρ m w) (hs : copyV P ts[0]? d x m = some (.val v m')) (hd : VRel ρ d d') (hx : VRel ρ x x') : DoesV P ρ m w (Builtin.copy_ ts ty #[d', x']) v m' := by
 unfold copyV at hs
 split at hs
 ·rename_i a dl cp
  split at hs
  ·rename_i e ht
   obtain ⟨st, hst, hu⟩ := Option.bind_eq_some_iff.1 ht
   split at hs
   ·rename_i sz hsz
    split at hs
    ·rename_i n hn
     split at hs
     ·rename_i vs hvs
      obtain ⟨vs', h1, h2, h3⟩ := firstA_rel h hvs hx hn (Nat.min_le_left _ _)
      have h1 := h1 w.drawn
      split at hs
      ·obtain ⟨hc, hs⟩ := bif_some hs
       simp only [nbeq, decide_eq_true_eq, Option.some.injEq, Rs.val.injEq] at hc hs
       obtain ⟨rfl, rfl⟩ := hs
       cases hd
       refine ⟨ρ, w, goInt (Nat.min n dl), ?_, h, .refl _ _ _, .int ..⟩
       unfold Builtin.copy_
       simp only [hst, List.getElem?_toArray, List.getElem?_cons_zero, List.getElem?_cons_succ, Sem.run_bind, run_und hu, Result.andThen_ok, run_size hsz, h3, h1, Sem.run_pure]
      ·rename_i b off
       obtain ⟨rfl, hs2⟩ := valM_some hs
       have key : ∀ (a' : Addr) (c' : Nat), d' = .slice (some a') dl c' → (vs ≠ [] → ∃ s, ρ b = some s ∧ a' = ⟨s.blk, s.off + off, none⟩) → DoesV P ρ m w (Builtin.copy_ ts ty #[d', x']) (goInt (Nat.min n dl)) m' := by
        intro a' c' he ha
        subst he
        obtain ⟨w', q1, q2, q3⟩ := storeA_rel h hs2 h2 ha
        refine ⟨ρ, w', goInt (Nat.min n dl), ?_, q2, q3, .int ..⟩
        unfold Builtin.copy_
        simp only [hst, List.getElem?_toArray, List.getElem?_cons_zero, List.getElem?_cons_succ, Sem.run_bind, run_und hu, Result.andThen_ok, run_size hsz, h3, h1, Sem.run_pure]
        simp [q1]
       have hvl : vs ≠ [] → 0 < dl := by
        intro hne
        refine Nat.pos_of_ne_zero fun h0 => hne ?_
        rw [h0, show Nat.min n 0 = 0 from Nat.min_zero _] at hvs
        exact firstA_zero hvs
       cases hd with
       | slice hb hc => exact key _ _ rfl fun _ => ⟨_, hb, rfl⟩
       | empty => exact key _ _ rfl fun hne => absurd (hvl hne) (by omega)
       | open_ hb hi hc ha => exact key _ _ rfl fun hne => ⟨_, hb, ha (by have := hvl hne; omega)⟩
      cases hs
     cases hs
    cases hs
   cases hs
  cases hs
 cases hs
theorem liesAt_bytes (hc : P.cellsOf e = 1) (count off n : Nat) (hn : off + n ≤ count) : liesAt P P.depth e count off e n = true := by
 have hd : P.depth = (2 * (P.types.size + Made.depth) + 1) + 1 := rfl
 rw [hd]
 simp only [liesAt, Bool.or_eq_true]
 left
 rw [hd]
 simp [rowAt, hc, hn, sameLayout, Nat.mod_one]
theorem run_loadB : ∀ (xs : List Int) (a : Addr) (acc : ByteArray), (∀ j x, xs[j]? = some x → w.cell? (a.add j) = some (.int .u8 x)) →
  (loadBytes a acc xs.length).run P w = .ok ⟨acc.data ++ (xs.map fun n => UInt8.ofNat n.toNat).toArray⟩ w
 | [], a, acc, _ => by simp [loadBytes]
 | x :: l, a, acc, h => by
  have h0 : w.cell? a = some (.int .u8 x) := by
   have := h 0 x rfl
   simpa [Addr.add] using this
  have ih := run_loadB l (a.add 1) (acc.push x.toNat.toUInt8) (fun j y hy => by
   have := h (j + 1) y (by simpa using hy)
   have e : (a.add 1).add j = a.add (j + 1) := by
    unfold Addr.add
    by_cases hj : j = 0
    ·subst hj; simp
    simp [hj]; omega
   rw [e]; exact this)
  simp only [List.length_cons, loadBytes, Sem.run_bind, run_load, h0, Result.andThen]
  rw [ih]
  congr 1
  apply ByteArray.ext
  simp [ByteArray.push]
theorem freeze_block (h : w.heap[b]? = some (.cells c e fr)) (hn : n ≠ 0) :
  w.freeze ⟨b, off, none⟩ n = setBlk w b (.cells c e (if fr.1 == fr.2 then (off, off + n) else (min fr.1 off, max fr.2 (off + n)))) := by
 unfold World.freeze setBlk
 rw [if_neg hn]
 congr 1
 apply Array.ext_getElem?
 intro j
 rw [Array.getElem?_modify, Array.getElem?_setIfInBounds]
 by_cases hj : b = j
 ·subst hj
  have hb : b < w.heap.size := by rw [Array.getElem?_eq_some_iff] at h; exact h.1
  simp only [if_true, h, Option.map_some, hb]
 simp [hj]
theorem unsafeString_nil (ts : Array TypeId) (ty : TypeId) (n : Value) : Builtin.unsafeString_ ts ty #[.pointer none, n] = (do
    let n ← asInt n
    let some _ := ts[0]? | stuck "unsafe.String: no argument types"
    if n < 0 then runtimePanic (.error "unsafe.String: len out of range")
    if n > IntKind.i64.max then unsupported (.unsafePointer "String: a length above the largest int")
    if n = 0 then pure (.string .empty) else runtimePanic (.error "unsafe.String: ptr is nil and len is not zero")) := rfl
theorem unsafeString_some (ts : Array TypeId) (ty : TypeId) (a : Addr) (n : Value) : Builtin.unsafeString_ ts ty #[.pointer (some a), n] = (do
    let n ← asInt n
    let some pt := ts[0]? | stuck "unsafe.String: no argument types"
    if n < 0 then runtimePanic (.error "unsafe.String: len out of range")
    if n > IntKind.i64.max then unsupported (.unsafePointer "String: a length above the largest int")
    if n = 0 then pure (.string .empty)
    else if ← variablesAt a (← elemOf pt) n.toNat then do
      let s ← loadBytes a .empty n.toNat
      freeze a n.toNat
      pure (.string s)
    else unsupported (.unsafePointer "String: not so many bytes at ptr")) := rfl
theorem unsafeStr_rel (h : Rel P ρ m w) (hs : unsafeStr P ts[0]? p n m = some (.val v m')) (hp : VRel ρ p p') (hn : VRel ρ n n') : DoesV P ρ m w (Builtin.unsafeString_ ts ty #[p', n']) v m' := by
 unfold unsafeStr at hs
 split at hs
 ·rename_i k
  cases hn
  split at hs
  ·rename_i a
   obtain ⟨ht, hs⟩ := bif_some hs
   obtain ⟨pt, hpt⟩ := Option.isSome_iff_exists.1 ht
   simp only [Option.some.injEq, Rs.val.injEq] at hs
   obtain ⟨rfl, rfl⟩ := hs
   refine ⟨ρ, w, .string .empty, ?_, h, .refl _ _ _, .string _⟩
   have hmax : IntKind.i64.max = 9223372036854775807 := rfl
   cases hp <;> simp [unsafeString_nil, unsafeString_some, hpt, asInt, asIntOf, hmax]
  cases hs
 ·rename_i k n hn0
  cases hn
  split at hs
  ·rename_i b off
   split at hs
   ·rename_i cs e g md mt hb
    split at hs
    ·rename_i hel
     split at hs
     ·rename_i vs hvs
      split at hs
      ·rename_i l hl
       obtain ⟨hc, hs⟩ := bif_some hs
       simp only [Bool.and_eq_true, Bool.or_eq_true, nbeq, nble, decide_eq_true_eq, Option.some.injEq, Rs.val.injEq] at hc hs
       obtain ⟨⟨⟨hpe, hc1⟩, hn32⟩, hmd⟩ := hc
       obtain ⟨rfl, rfl⟩ := hs
       have hpt : ∃ pt, ts[0]? = some pt ∧ P.underlying pt = some (.pointer e) := by
        unfold ptrElem at hpe
        split at hpe
        ·rename_i u hu
         obtain ⟨pt, q1, q2⟩ := Option.bind_eq_some_iff.1 hu
         simp only [nbeq, decide_eq_true_eq] at hpe
         exact ⟨pt, q1, by rw [q2, hpe]⟩
        cases hpe
       obtain ⟨pt, hpt, hpu⟩ := hpt
       obtain ⟨s, x, q1, q2, q3⟩ := h.obj _ _ hb
       have hvlen := rdCells_len hvs
       have hcon := q3
       obtain ⟨vs', hr, hvv, _⟩ := rdCells_rel2 hvs q3
       obtain ⟨ns, rfl, rfl⟩ := bytesOf_ints hl hvv
       obtain ⟨c, fr, rfl, hcs, hcell, hg1, hg2, hfr⟩ := q3
       have hvlen2 : ns.length = n := by rw [← hvlen, hvv.length_eq, List.length_map]
       simp only [rdCells] at hvs
       obtain ⟨hin, hvs⟩ := bif_some hvs
       simp only [nble, decide_eq_true_eq, Option.some.injEq] at hin hvs
       have hn1 : n ≠ 0 := fun e0 => hn0 (by rw [e0])
       have hro : isRo (.cells cs e g md mt) = false := by rcases hmd with rfl | rfl <;> rfl
       have hput := h.put2 (m0 := kill m mt) sub_kill kill_next (o' := .cells cs e g .frozen none) (y := .cells c e (if fr.1 == fr.2 then (s.off + off, s.off + off + n) else (min fr.1 (s.off + off), max fr.2 (s.off + off + n)))) hb q1 hro rfl (alone h hb q1 hro) (by
        refine ⟨c, _, rfl, hcs, hcell, hg1, hg2, ?_⟩
        by_cases hff : fr.1 = fr.2
        ·rw [if_pos (by simpa using hff)]
         exact .inr (by show s.off + off + n ≤ _; omega)
        rw [if_neg (by simpa using hff)]
        right
        show max fr.2 (s.off + off + n) ≤ _
        have : fr.2 ≤ s.off + cs.length := by
         rcases hmd with rfl | rfl
         ·exact absurd hfr hff
         rcases hfr with hfr | hfr
         ·exact absurd hfr hff
         exact hfr
        omega)
       cases hp with
       | ptr hpb =>
        rw [q1] at hpb
        cases hpb
        refine ⟨ρ, _, _, ?_, hput.1, hput.2, .string _⟩
        have hmax : IntKind.i64.max = 9223372036854775807 := rfl
        have b1 : ¬ (Int.ofNat n < 0) := by simp
        have b2 : ¬ (Int.ofNat n > 9223372036854775807) := by simp only [Int.ofNat_eq_natCast]; omega
        have b3 : ¬ (Int.ofNat n = 0) := by simp only [Int.ofNat_eq_natCast]; omega
        have b4 : (Int.ofNat n).toNat = n := rfl
        have hload := run_loadB (P := P) (w := w) ns ⟨s.blk, s.off + off, none⟩ .empty (by
         intro j y hj
         rw [Addr.add_eq, cell_of_block q2]
         have hj2 : (ns.map (Value.int .u8))[j]? = some (.int .u8 y) := by rw [List.getElem?_map, hj]; rfl
         have hjl := (List.getElem?_eq_some_iff.1 hj).1
         have hjv : ∃ u, vs[j]? = some u := ⟨_, List.getElem?_eq_getElem (by omega)⟩
         obtain ⟨u, hu⟩ := hjv
         obtain ⟨u', r1, r2⟩ := hvv.get hu
         rw [hj2] at r1
         cases r1
         have hu2 : cs[off + j]? = some u := by
          rw [← hvs, List.getElem?_take, if_pos (by omega), List.getElem?_drop] at hu
          exact hu
         obtain ⟨u2, r3, r4⟩ := hcell _ _ hu2
         obtain ⟨n8, rfl⟩ := bytesOf_get hl hu
         cases r2
         cases r4
         rw [← r3, Nat.add_assoc])
        rw [hvlen2] at hload
        have hlies := liesAt_bytes (P := P) (e := e) hc1 (c.size / P.cellsOf e) (s.off + off) n (by rw [hc1, Nat.div_one]; omega)
        simp only [unsafeString_some, hpt, Sem.run_bind, Sem.run_pure, Result.andThen_ok, asInt, asIntOf, b1, if_false, hmax, b2, b3, b4, elemOf, run_und hpu, variablesAt, run_program, run_shape, shape_of_cells q2, hlies, if_true, hload, run_freeze, freeze_block q2 hn1]
        congr 1
        simp
      cases hs
     cases hs
    cases hs
   cases hs
  cases hs
 cases hs
end
end Go.Ab
namespace Go.Ab
variable [Vals]
section
variable {P : Program} {ρ ρ' : Ren} {m m' : AW} {w w' : World} {ts : Tr Value} {e : Operand → Value}
theorem callB_rel (h : Rel P ρ m w) (hf : ∀ i, m.next ≤ i → i < m'.next → ρ i = none) (hs : callB P b args t m = some (.val v m')) (ha : VsRel ρ args args') :
  Does P ρ m w (builtin b t ty cs ⟨args'⟩) v m' := by
 unfold callB at hs
 split at hs
 ·split at hs
  ·cases ha with
   | cons h1 ha => cases ha with
    | cons h2 ha =>
     cases ha
     exact (appendV_rel h hf hs h1 h2).does
  cases hs
 ·split at hs
  ·cases ha with
   | cons h1 ha => cases ha with
    | cons h2 ha =>
     cases ha
     exact (copyV_rel h hs h1 h2).does
  cases hs
 ·split at hs
  ·cases ha with
   | cons h1 ha => cases ha with
    | cons h2 ha =>
     cases ha
     exact (deleteV_rel h hs h1 h2).does
  cases hs
 ·split at hs
  ·cases ha with
   | cons h1 ha => cases ha with
    | cons h2 ha =>
     cases ha
     exact (unsafeStr_rel h hs h1 h2).does
  cases hs
 cases hs
theorem Does.of_run (h : s.run P w = s2.run P w) (d : Does P ρ m w s2 v m') : Does P ρ m w s v m' := by
 obtain ⟨ρ', w', r, h1, h2⟩ := d
 exact ⟨ρ', w', r, by rw [h]; exact h1, h2⟩
def Local (o : Op) : Prop :=
 match o with
 | .call c => ∃ b, c.callee = .builtin b
 | .panic _ => False
 | _ => True
theorem opH_rel (hE : ERel P ρ ts e) (h : Rel P ρ m w) (hf : ∀ i, m.next ≤ i → i < m'.next → ρ i = none) (hs : opH P self ts o.op m = some (.val v m')) (hl : Local o.op) : Does P ρ m w (execOp e o) v m' := by
 cases ho : o.op with
 | store t a x =>
  rw [ho] at hs
  simp only [opH] at hs
  split at hs
  ·rename_i a2 ha
   split at hs
   ·rename_i x2 hx
    obtain ⟨rfl, h2⟩ := storeV_rel h hs (hE _ _ ha) (hE _ _ hx)
    unfold execOp
    rw [ho]
    exact Does.unit h2
   cases hs
  cases hs
 | mapUpdate t mp k x =>
  rw [ho] at hs
  simp only [opH] at hs
  split at hs
  ·rename_i mp2 k2 x2 he
   have := hE.list he
   cases this with
   | cons h1 this => cases this with
    | cons h2 this => cases this with
     | cons h3 this =>
      obtain ⟨rfl, h4⟩ := mapSet_rel h hs h1 h2 h3
      unfold execOp
      rw [ho]
      exact Does.unit h4
  cases hs
 | insert t mp k x =>
  rw [ho] at hs
  simp only [opH] at hs
  split at hs
  ·rename_i mp2 k2 x2 he
   have := hE.list he
   cases this with
   | cons h1 this => cases this with
    | cons h2 this => cases this with
     | cons h3 this =>
      obtain ⟨rfl, h4⟩ := mapSet_rel h hs h1 h2 h3
      unfold execOp
      rw [ho]
      exact Does.unit h4
  cases hs
 | range t x =>
  rw [ho] at hs
  simp only [opH] at hs
  split at hs
  ·rename_i x2 hx
   unfold execOp
   rw [ho]
   refine (rangeA_rel h (hf _ (Nat.le_refl _) ?_) hs (hE _ _ hx)).does
   unfold rangeA at hs
   split at hs
   ·split at hs
    ·simp only [Option.some.injEq, Rs.val.injEq] at hs
     rw [← hs.2]
     simp [AW.new]
    cases hs
   ·split at hs
    ·simp only [Option.some.injEq, Rs.val.injEq] at hs
     rw [← hs.2]
     simp [AW.new]
    cases hs
   ·split at hs
    ·split at hs
     ·simp only [Option.some.injEq, Rs.val.injEq] at hs
      rw [← hs.2]
      simp [AW.new]
     cases hs
    cases hs
   cases hs
  cases hs
 | next it isStr =>
  rw [ho] at hs
  simp only [opH] at hs
  split at hs
  ·rename_i x2 hx
   unfold execOp
   rw [ho]
   exact (nextA_rel h hs (hE _ _ hx)).does
  cases hs
 | entry it =>
  rw [ho] at hs
  simp only [opH] at hs
  split at hs
  ·rename_i x2 hx
   unfold execOp
   rw [ho]
   exact (entryA_rel h hs (hE _ _ hx)).does
  cases hs
 | call c =>
  rw [ho] at hs hl
  obtain ⟨b, hb⟩ := hl
  simp only [opH, callH, hb] at hs
  split at hs
  ·rename_i args ha
   have hcs := fun cs => callB_rel (ty := o.type) (cs := cs) h hf hs (hE.list ha)
   unfold execOp
   rw [ho]
   refine Does.of_run ?_ (hcs (c.args.map fun | .const _ => true | _ => false))
   simp only [resolve, hb, Sem.run_bind, Sem.run_pure, Result.andThen_ok, invoke]
   rw [map_arr c.args e]
   rfl
  cases hs
 | panic x => rw [ho] at hl; exact hl.elim
 | _ => rw [ho] at hs; simp [opH] at hs
end
end Go.Ab
namespace Go.Ab
variable [Vals]
def on (b : Frame) (a : Act) (todo : List Item) : Frame := { fn := b.fn, tmps := a.tmps, todo, defers := a.defers, mode := .run, kind := b.kind, roundOf := b.roundOf }
def off (b : Frame) (a : Act) (todo : List Item) (mode : FrameMode) : Frame := { fn := b.fn, tmps := a.tmps, todo, defers := a.defers, mode, kind := b.kind, roundOf := b.roundOf }
section
variable {P : Program} {b : Frame} {a : Act} {k : List Item} {cs : List Frame} {w w' : World} {ops : Array Oper}
theorem on_eval (b : Frame) (a : Act) (todo : List Item) : (on b a todo).eval = a.eval := by
 funext x
 cases x <;> rfl
theorem on_skip : step P (lone (on b a (.code .skip :: k)) cs w) = .next (lone (on b a k) cs w) := step_lone_go (by simp [stepG, stepG.exec, on])
theorem on_label : step P (lone (on b a (.code (.label l) :: k)) cs w) = .next (lone (on b a k) cs w) := step_lone_go (by simp [stepG, stepG.exec, on])
theorem on_inBlock {id : Nat} : step P (lone (on b a (.inBlock id :: k)) cs w) = .next (lone (on b a k) cs w) := step_lone_go (by simp [stepG, stepG.exec, on])
theorem on_inScope : step P (lone (on b a (.inScope c :: k)) cs w) = .next (lone (on b a k) cs w) := step_lone_go (by simp [stepG, stepG.exec, on])
theorem on_seq : step P (lone (on b a (.code (.seq x y) :: k)) cs w) = .next (lone (on b a (.code x :: .code y :: k)) cs w) := step_lone_go (by simp [stepG, stepG.exec, on])
theorem on_cond (h : a.eval c = .bool t) : step P (lone (on b a (.code (.cond c x y) :: k)) cs w) = .next (lone (on b a (.code (if t then x else y) :: k)) cs w) :=
 step_lone_go (by
  have := on_eval b a (.code (.cond c x y) :: k)
  simp only [on] at this
  simp [stepG, stepG.exec, on, this, h])
theorem on_block {id : Nat} : step P (lone (on b a (.code (.block id c) :: k)) cs w) = .next (lone (on b a (.code c :: .inBlock id :: k)) cs w) := step_lone_go (by simp [stepG, stepG.exec, on])
theorem on_loop : step P (lone (on b a (.code (.loop c) :: k)) cs w) = .next (lone (on b a (.code c :: .inLoop c :: k)) cs w) := step_lone_go (by simp [stepG, stepG.exec, on])
theorem on_inLoop : step P (lone (on b a (.inLoop c :: k)) cs w) = .next (lone (on b a (.code c :: .inLoop c :: k)) cs w) := step_lone_go (by simp [stepG, stepG.exec, on])
theorem on_scope : step P (lone (on b a (.code (.scope c) :: k)) cs w) = .next (lone (on b a (.code c :: .inScope c :: k)) cs w) := step_lone_go (by simp [stepG, stepG.exec, on])
theorem on_exit {id : Nat} (h : exitTo id k = some k') : step P (lone (on b a (.code (.exit id) :: k)) cs w) = .next (lone (on b a k') cs w) := step_lone_go (by simp [stepG, stepG.exec, on, h])
theorem on_goto (h : gotoIn l k = some k') : step P (lone (on b a (.code (.goto l) :: k)) cs w) = .next (lone (on b a k') cs w) := step_lone_go (by simp [stepG, stepG.exec, on, h])
theorem on_ret (hr : b.roundOf = none) : step P (lone (on b a (.code .ret :: k)) cs w) = .next (lone (off b a (.code .ret :: k) .returning) cs w) := step_lone_go (by simp [stepG, stepG.exec, on, off, hr])
theorem on_end (hr : b.roundOf = none) : step P (lone (on b a []) cs w) = .next (lone (off b a [] .returning) cs w) := step_lone_go (by simp [stepG, stepG.exec, on, off, hr])
theorem on_region {id : Nat} : step P (lone (on b a (.code (.region id ops false) :: k)) cs w) = .next (lone (on b a (.inRegion ops (List.range ops.size) :: k)) cs w) := step_lone_go (by simp [stepG, stepG.exec, on])
theorem on_region_draw {id : Nat} : step P (lone (on b a (.code (.region id ops true) :: k)) cs w) =
  .next (lone (on b a (.inRegion ops (Region.schedule (P.follows .mixedOrders) ops (w.tape w.drawn (.order b.fn id))) :: k)) cs { w with drawn := w.drawn + 1 }) :=
 step_lone_go (by simp [stepG, stepG.exec, on, choose, Sem.run, Question.forced, Question.cut])
theorem on_region_end : step P (lone (on b a (.inRegion ops [] :: k)) cs w) = .next (lone (on b a k) cs w) := step_lone_go (by simp [stepG, stepG.exec, on])
theorem on_finish (i : Nat) (rest : List Nat) (v : Value) : (on b a (.inRegion ops (i :: rest) :: k)).finish v = on b (a.put ((ops[i]?).bind (·.dst)) v) (.inRegion ops rest :: k) := by
 cases h : (ops[i]?).bind (·.dst) <;> simp [Frame.finish, on, Act.put, h]
theorem on_op_skip (h : ((ops[i]?).map (Region.wanted · (yielded ops a.tmps))).getD false = false) :
  step P (lone (on b a (.inRegion ops (i :: rest) :: k)) cs w) = .next (lone (on b (a.put ((ops[i]?).bind (·.dst)) undef) (.inRegion ops rest :: k)) cs w) := by
 rw [← on_finish]
 exact step_lone_go (by
  have h' := h
  simp only [on] at *
  simp [stepG, stepG.exec, h'])
def NoDefer (o : Op) : Prop := ∀ c, o ≠ .defer c
theorem on_op (ho : ops[i]? = some o) (hw : Region.wanted o (yielded ops a.tmps) = true) (hd : NoDefer o.op) :
  stepG P true { frame := on b a (.inRegion ops (i :: rest) :: k), callers := cs, status := .running, dying := none } w = stepG.apply P true (on b a (.inRegion ops (i :: rest) :: k)) cs none (execOp a.eval o) w := by
 have he := on_eval b a (.inRegion ops (i :: rest) :: k)
 simp only [on] at he
 simp only [stepG, stepG.exec, stepG.oper, Frame.oper?, on, ho, hw, he, Option.map_some, Option.getD_some, if_true]
 split
 ·rename_i hc
  exact absurd hc (hd _)
 rfl
theorem op_value (ho : ops[i]? = some o) (hw : Region.wanted o (yielded ops a.tmps) = true) (hd : NoDefer o.op) (hr : (execOp a.eval o).run P w = .ok (.value v) w') :
  step P (lone (on b a (.inRegion ops (i :: rest) :: k)) cs w) = .next (lone (on b (a.put o.dst v) (.inRegion ops rest :: k)) cs w') := by
 have hf := on_finish (b := b) (a := a) (k := k) (ops := ops) i rest v
 rw [ho] at hf
 simp only [Option.bind_some] at hf
 rw [← hf]
 refine step_lone_go ?_
 rw [on_op ho hw hd]
 simp [stepG.apply, hr]
theorem op_skip (ho : ops[i]? = some o) (hw : Region.wanted o (yielded ops a.tmps) = true) (hd : NoDefer o.op) (hr : (execOp a.eval o).run P w = .ok .skip w') :
  step P (lone (on b a (.inRegion ops (i :: rest) :: k)) cs w) = .next (lone (on b (a.put o.dst undef) (.inRegion ops rest :: k)) cs w') := by
 have hf := on_finish (b := b) (a := a) (k := k) (ops := ops) i rest undef
 rw [ho] at hf
 simp only [Option.bind_some] at hf
 rw [← hf]
 refine step_lone_go ?_
 rw [on_op ho hw hd]
 simp [stepG.apply, hr]
theorem op_enter (ho : ops[i]? = some o) (hw : Region.wanted o (yielded ops a.tmps) = true) (hd : NoDefer o.op) (hr : (execOp a.eval o).run P w = .ok (.enter f args) w') :
  step P (lone (on b a (.inRegion ops (i :: rest) :: k)) cs w) = .next (lone (Frame.enter P f args .normal) (on b a (.inRegion ops (i :: rest) :: k) :: cs) w') := by
 refine step_lone_go ?_
 rw [on_op ho hw hd]
 simp [stepG.apply, hr, on]
theorem op_round (ho : ops[i]? = some o) (hw : Region.wanted o (yielded ops a.tmps) = true) (hd : NoDefer o.op) (hr : (execOp a.eval o).run P w = .ok (.round l f tmps x y) w') :
  step P (lone (on b a (.inRegion ops (i :: rest) :: k)) cs w) = .next (lone (Frame.round l f tmps x y .normal) (on b a (.inRegion ops (i :: rest) :: k) :: cs) w') := by
 refine step_lone_go ?_
 rw [on_op ho hw hd]
 simp [stepG.apply, hr, on]
theorem op_panic (ho : ops[i]? = some o) (hw : Region.wanted o (yielded ops a.tmps) = true) (hd : NoDefer o.op) (hr : (execOp a.eval o).run P w = .halt (.panic v) w') :
  step P (lone (on b a (.inRegion ops (i :: rest) :: k)) cs w) = .next (lone (off b a (.inRegion ops (i :: rest) :: k) (.panicking [{ v := v, recovered := false }])) cs w') := by
 refine step_lone_go ?_
 rw [on_op ho hw hd]
 simp [stepG.apply, hr, on, off, Frame.raise]
theorem op_defer (ho : ops[i]? = some o) (hw : Region.wanted o (yielded ops a.tmps) = true) (hop : o.op = .defer c) (hb : b.roundOf = none) (hr : (execOp a.eval o).run P w = .ok (.defer d) w') :
  step P (lone (on b a (.inRegion ops (i :: rest) :: k)) cs w) = .next (lone (on b ((⟨a.tmps, d :: a.defers⟩ : Act).put o.dst undef) (.inRegion ops rest :: k)) cs w') := by
 have hf := on_finish (b := b) (a := ⟨a.tmps, d :: a.defers⟩) (k := k) (ops := ops) i rest undef
 rw [ho] at hf
 simp only [Option.bind_some] at hf
 rw [← hf]
 refine step_lone_go ?_
 have key : stepG P true { frame := on b a (.inRegion ops (i :: rest) :: k), callers := cs, status := .running, dying := none } w = stepG.apply P true (on b a (.inRegion ops (i :: rest) :: k)) cs none (execOp a.eval o) w := by
  have he := on_eval b a (.inRegion ops (i :: rest) :: k)
  simp only [on] at he
  simp only [stepG, stepG.exec, stepG.oper, Frame.oper?, on, ho, hw, he, Option.map_some, Option.getD_some, if_true]
  split
  ·rename_i hc _
   rw [hb] at hc
   cases hc
  rfl
 rw [key]
 simp [stepG.apply, hr, on]
theorem op_recover (ho : ops[i]? = some o) (hw : Region.wanted o (yielded ops a.tmps) = true) (hd : NoDefer o.op) (hb : b.roundOf = none) (hq : ∀ fr : Frame, fr.kind = b.kind → tryRecover fr cs = none) (hr : (execOp a.eval o).run P w = .ok .recover w') :
  step P (lone (on b a (.inRegion ops (i :: rest) :: k)) cs w) = .next (lone (on b (a.put o.dst .nilIface) (.inRegion ops rest :: k)) cs w') := by
 have hf := on_finish (b := b) (a := a) (k := k) (ops := ops) i rest .nilIface
 rw [ho] at hf
 simp only [Option.bind_some] at hf
 rw [← hf]
 refine step_lone_go ?_
 rw [on_op ho hw hd]
 have := hq (on b a (.inRegion ops (i :: rest) :: k)) rfl
 simp only [on, hb] at this
 simp [stepG.apply, hr, on, hb, this]
end
end Go.Ab
namespace Go.Ab
variable [Vals]
structure Mono (m m' : AW) : Prop where
 next : m.next ≤ m'.next
 lo : m'.lo = m.lo
 log : ∀ b, b ∈ m.log → b ∈ m'.log
 same : m.lo ≤ m.next → ∀ b, b < m.lo → b ∉ m'.log → m'.heap.get b = m.heap.get b
theorem Mono.refl (m : AW) : Mono m m := ⟨Nat.le_refl _, rfl, fun _ h => h, fun _ _ _ _ => rfl⟩
theorem Mono.trans (h : Mono a b) (k : Mono b c) : Mono a c where
 next := Nat.le_trans h.next k.next
 lo := k.lo.trans h.lo
 log := fun x hx => k.log x (h.log x hx)
 same := fun hl x hx hn => by
  have h1 := h.next
  rw [k.same (by rw [h.lo]; omega) x (by rw [h.lo]; exact hx) hn, h.same hl x hx fun hb => hn (k.log x hb)]
theorem Mono.set (m : AW) (c : Nat) (o : Option AObj) : Mono m (m.set c o) where
 next := Nat.le_refl _
 lo := rfl
 log := fun b hb => by
  simp only [AW.set]
  cases Nat.blt c m.lo
  ·exact hb
  exact List.mem_cons_of_mem _ hb
 same := fun _ b hb hn => by
  simp only [AW.set] at hn ⊢
  rw [Tr.get_set]
  split
  ·rename_i e
   subst e
   have : Nat.blt b m.lo = true := by rw [nblt]; simpa using hb
   rw [this] at hn
   exact absurd (List.mem_cons_self) hn
  rfl
theorem Mono.new (m : AW) (o : AObj) : Mono m (m.new o) where
 next := by simp [AW.new]
 lo := rfl
 log := fun _ h => h
 same := fun hl b hb _ => by
  simp only [AW.new, Tr.get_set]
  rw [if_neg (by omega)]
theorem Mono.kill (m : AW) (y : Option Nat) : Mono m (Ab.kill m y) := by
 cases y with
 | none => exact .refl _
 | some y => exact .set _ _ _
def Rs.m : Rs → AW
 | .val _ m => m
 | .pan _ m => m
variable {P : Program} {m m' : AW}
theorem storeA_mono {b off : Nat} (h : storeA m b off vs = some m') : Mono m m' := by
 unfold storeA at h
 split at h
 ·cases h; exact .refl _
 split at h
 ·obtain ⟨_, h⟩ := bif_some h
  cases h
  exact (Mono.kill _ _).trans (.set _ _ _)
 cases h
theorem appendA_mono (h : appendA P e m s n vs = some (v, m')) : Mono m m' := by
 unfold appendA at h
 split at h
 ·split at h
  ·obtain ⟨_, h⟩ := bif_some h
   cases h
   exact .refl _
  cases h
 ·split at h
  ·generalize hc : (!(_ && _)) = c at h
   cases c with
   | true => simp at h
   | false =>
    simp only [cond_false] at h
    split at h
    ·obtain ⟨_, h⟩ := bif_some h
     cases h
     exact .new _ _
    ·rename_i b off
     cases hb : Nat.blt _ big with
     | true =>
      rw [hb] at h
      simp only [cond_true] at h
      cases hl : Nat.ble _ _ with
      | true =>
       rw [hl] at h
       simp only [cond_true] at h
       obtain ⟨m2, h2, h⟩ := Option.map_eq_some_iff.1 h
       cases h
       exact storeA_mono h2
      | false =>
       rw [hl] at h
       simp only [cond_false] at h
       split at h
       ·obtain ⟨m2, h2, h⟩ := Option.map_eq_some_iff.1 h
        cases h
        exact .new _ _
       obtain ⟨_, h⟩ := bif_some h
       cases h
       exact .new _ _
     | false =>
      rw [hb] at h
      simp only [cond_false] at h
      split at h
      ·obtain ⟨_, h⟩ := bif_some h
       cases h
       exact ((Mono.kill _ _).trans (Mono.set _ _ _)).trans (Mono.new _ _)
      cases h
    cases h
  cases h
 cases h
theorem valM_mono (h : valM v x = some r) (hx : ∀ m2, x = some m2 → Mono m m2) : Mono m r.m := by
 unfold valM at h
 split at h
 ·cases h
  exact hx _ rfl
 cases h
theorem valP_mono (h : valP x = some r) (hx : ∀ v m2, x = some (v, m2) → Mono m m2) : Mono m r.m := by
 unfold valP at h
 split at h
 ·cases h
  exact hx _ _ rfl
 cases h
theorem storeV_mono (h : storeV P t a x m = some r) : Mono m r.m := by
 unfold storeV at h
 split at h
 ·split at h
  ·obtain ⟨_, h⟩ := bif_some h
   exact valM_mono h fun _ => storeA_mono
  cases h
 cases h
theorem mapSet_mono (h : mapSet P t mp k x m = some r) : Mono m r.m := by
 unfold mapSet at h
 split at h
 ·split at h
  ·obtain ⟨_, h⟩ := bif_some h
   split at h
   ·split at h
    ·cases h
     exact .set _ _ _
    cases h
   cases h
  cases h
 cases h
theorem rangeA_mono (h : rangeA P t x m = some r) : Mono m r.m := by
 unfold rangeA at h
 split at h
 ·split at h
  ·cases h
   exact .new _ _
  cases h
 ·split at h
  ·cases h
   exact .new _ _
  cases h
 ·split at h
  ·split at h
   ·cases h
    exact .new _ _
   cases h
  cases h
 cases h
theorem nextA_mono (h : nextA x b m = some r) : Mono m r.m := by
 unfold nextA at h
 split at h
 ·split at h
  ·obtain ⟨_, h⟩ := bif_some h
   generalize Nat.blt _ _ = c at h
   cases c with
   | true => cases h; exact .set _ _ _
   | false => cases h; exact .refl _
  ·cases b with
   | true => cases h
   | false =>
    simp only [cond_false] at h
    split at h
    ·cases h; exact .refl _
    split at h
    ·split at h
     ·cases h; exact .refl _
     ·cases h; exact .set _ _ _
     cases h
    cases h
  cases h
 cases h
theorem entryA_mono (h : entryA x m = some r) : Mono m r.m := by
 unfold entryA at h
 split at h
 ·split at h
  ·split at h
   ·split at h
    ·split at h
     ·rename_i clock _ _ e _
      revert h
      generalize Nat.beq _ _ = c
      intro h
      cases c with
      | true => cases h; exact .refl _
      | false => cases h
     cases h
    cases h
   cases h
  cases h
 cases h
theorem appendV_mono (h : appendV P t xt s x m = some r) : Mono m r.m := by
 unfold appendV at h
 split at h
 ·split at h
  ·split at h
   ·split at h
    ·obtain ⟨_, h⟩ := bif_some h
     split at h
     ·exact valP_mono h fun _ _ => appendA_mono
     cases h
    cases h
   ·split at h
    ·split at h
     ·exact valP_mono h fun _ _ => appendA_mono
     cases h
    cases h
   cases h
  cases h
 cases h
theorem copyV_mono (h : copyV P t d x m = some r) : Mono m r.m := by
 unfold copyV at h
 split at h
 ·split at h
  ·split at h
   ·split at h
    ·split at h
     ·split at h
      ·obtain ⟨_, h⟩ := bif_some h
       cases h
       exact .refl _
      ·exact valM_mono h fun _ => storeA_mono
      cases h
     cases h
    cases h
   cases h
  cases h
 cases h
theorem deleteV_mono (h : deleteV P t mp k m = some r) : Mono m r.m := by
 unfold deleteV at h
 split at h
 ·obtain ⟨_, h⟩ := bif_some h
  split at h
  ·cases h
   exact .refl _
  ·split at h
   ·split at h
    ·cases h
     exact .set _ _ _
    ·cases h
     exact .refl _
    cases h
   cases h
  cases h
 cases h
theorem unsafeStr_mono (h : unsafeStr P t p n m = some r) : Mono m r.m := by
 unfold unsafeStr at h
 split at h
 ·split at h
  ·obtain ⟨_, h⟩ := bif_some h
   cases h
   exact .refl _
  cases h
 ·split at h
  ·split at h
   ·split at h
    ·split at h
     ·split at h
      ·obtain ⟨_, h⟩ := bif_some h
       cases h
       exact (Mono.kill _ _).trans (Mono.set _ _ _)
      cases h
     cases h
    cases h
   cases h
  cases h
 cases h
theorem callB_mono (h : callB P b args t m = some r) : Mono m r.m := by
 unfold callB at h
 split at h
 ·split at h
  ·exact appendV_mono h
  cases h
 ·split at h
  ·exact copyV_mono h
  cases h
 ·split at h
  ·exact deleteV_mono h
  cases h
 ·split at h
  ·exact unsafeStr_mono h
  cases h
 cases h
section
variable {self : Self} (hM : ∀ fr t m out, self fr t m = some out → Mono m out.m)
include hM
theorem callA_mono (h : callA self f args m = some r) : Mono m r.m := by
 unfold callA at h
 split at h
 ·rename_i heq
  cases h
  exact hM _ _ _ _ heq
 ·rename_i heq
  cases h
  exact hM _ _ _ _ heq
 cases h
theorem callV_mono (h : callV self f args m = some r) : Mono m r.m := by
 unfold callV at h
 split at h
 ·exact callA_mono hM h
 ·split at h
  ·rename_i heq
   cases h
   exact hM _ _ _ _ heq
  ·rename_i heq
   cases h
   exact hM _ _ _ _ heq
  cases h
 cases h
theorem opH_mono (h : opH P self ts o m = some r) : Mono m r.m := by
 unfold opH at h
 split at h
 ·split at h
  ·split at h
   ·exact storeV_mono h
   cases h
  cases h
 ·split at h
  ·exact mapSet_mono h
  cases h
 ·split at h
  ·exact mapSet_mono h
  cases h
 ·split at h
  ·exact rangeA_mono h
  cases h
 ·split at h
  ·exact nextA_mono h
  cases h
 ·split at h
  ·exact entryA_mono h
  cases h
 ·unfold callH at h
  split at h
  ·split at h
   ·exact callB_mono h
   ·split at h
    ·exact callV_mono hM h
    cases h
   split at h
   ·split at h
    ·exact callA_mono hM h
    cases h
   cases h
  cases h
 ·unfold panicV at h
  split at h
  ·cases h
   exact .refl _
  cases h
 cases h
theorem doOp_mono (h : doOp P self ts o m = some r) : Mono m r.m := by
 unfold doOp at h
 split at h
 ·unfold doP at h
  split at h
  ·cases h; exact .refl _
  cases h
 ·unfold doL at h
  split at h
  ·cases h; exact .refl _
  ·split at h
   ·cases h; exact .refl _
   cases h
  cases h
 ·unfold doA at h
  split at h
  ·cases h; exact .new _ _
  cases h
 exact opH_mono hM h
theorem iops_mono {n : Nat} {q : Bool} {ops : Array Oper} : ∀ (l : List Oper) (ts : Tr Value) (m : AW) (out : Out), iops P self n q ops l ts m = some out → Mono m out.m
 | [], ts, m, out, h => by
  simp only [iops, Option.some.injEq] at h
  subst h
  exact .refl _
 | o :: l, ts, m, out, h => by
  unfold iops at h
  generalize wantedA ops ts o = c at h
  cases c with
  | true =>
   simp only [cond_true] at h
   split at h
   ·split at h
    ·rename_i heq
     exact (doOp_mono hM heq).trans (iops_mono l _ _ _ h)
    ·rename_i heq
     cases h
     exact doOp_mono hM heq
    cases h
   ·split at h
    ·obtain ⟨_, h⟩ := bif_some h
     exact iops_mono l _ _ _ h
    cases h
   obtain ⟨_, h⟩ := bif_some h
   exact iops_mono l _ _ _ h
  | false => exact iops_mono l _ _ _ h
theorem mem_below {lo b : Nat} : ∀ {l : List Nat}, b ∈ l → b < lo → b ∈ below lo l
 | x :: l, h, hb => by
  have _ := hM
  unfold below
  cases h with
  | head =>
   have : Nat.blt b lo = true := by rw [nblt]; simpa using hb
   rw [this]
   exact List.mem_cons_self
  | tail _ h =>
   have := mem_below h hb
   cases Nat.blt x lo
   ·exact this
   exact List.mem_cons_of_mem _ this
omit hM in
theorem hide_out {pre c : Nat} {h : Tr AObj} : ∀ {l : List (Nat × Nat)}, (∀ j, (j, c) ∈ l → pre.testBit j = true) → (hideB pre l h).get c = h.get c
 | [], _ => rfl
 | (j, b) :: l, hl => by
  have ih := hide_out (h := h) (l := l) fun j hj => hl j (List.mem_cons_of_mem _ hj)
  unfold hideB
  cases hp : pre.testBit j with
  | true => exact ih
  | false =>
   simp only [cond_false, Tr.get_set]
   rw [if_neg ?_]
   ·exact ih
   rintro rfl
   rw [hl j List.mem_cons_self] at hp
   cases hp
omit hM in
theorem hide_in {pre c j : Nat} {h : Tr AObj} : ∀ {l : List (Nat × Nat)}, (j, c) ∈ l → pre.testBit j = false → (hideB pre l h).get c = none
 | (k, b) :: l, hl, hj => by
  unfold hideB
  cases hl with
  | head =>
   rw [hj]
   simp only [cond_false, Tr.get_set, if_true]
  | tail _ hl =>
   have ih := hide_in (h := h) hl hj
   cases pre.testBit k with
   | true => exact ih
   | false =>
    simp only [cond_false, Tr.get_set]
    split
    ·rfl
    exact ih
omit hM in
theorem show_out {pre c : Nat} {old h : Tr AObj} : ∀ {l : List (Nat × Nat)}, (∀ j, (j, c) ∈ l → pre.testBit j = true) → (showB pre old l h).get c = h.get c
 | [], _ => rfl
 | (j, b) :: l, hl => by
  have ih := show_out (old := old) (h := h) (l := l) fun j hj => hl j (List.mem_cons_of_mem _ hj)
  unfold showB
  cases hp : pre.testBit j with
  | true => exact ih
  | false =>
   simp only [cond_false, Tr.get_set]
   rw [if_neg ?_]
   ·exact ih
   rintro rfl
   rw [hl j List.mem_cons_self] at hp
   cases hp
omit hM in
theorem show_in {pre c j : Nat} {old h : Tr AObj} : ∀ {l : List (Nat × Nat)}, (j, c) ∈ l → pre.testBit j = false → (showB pre old l h).get c = old.get c
 | (k, b) :: l, hl, hj => by
  unfold showB
  cases hl with
  | head =>
   rw [hj]
   simp only [cond_false, Tr.get_set, if_true]
  | tail _ hl =>
   have ih := show_in (old := old) (h := h) hl hj
   cases pre.testBit k with
   | true => exact ih
   | false =>
    simp only [cond_false, Tr.get_set]
    split
    ·rename_i e
     rw [e]
    exact ih
omit hM in
theorem seen_spec {pre b j : Nat} : ∀ {l : List (Nat × Nat)}, seenB pre b l = true → (j, b) ∈ l → pre.testBit j = true
 | (k, c) :: l, h, hl => by
  simp only [seenB, Bool.and_eq_true, Bool.or_eq_true] at h
  cases hl with
  | head => exact h.1.resolve_right (by simp [nbeq])
  | tail _ hl => exact seen_spec h.2 hl
omit hM in
theorem plain_in {pre c j : Nat} {old : Tr AObj} : ∀ {l : List (Nat × Nat)}, plainB pre old l = true → (j, c) ∈ l → pre.testBit j = false → plainO (old.get c) = true
 | (k, b) :: l, h, hl, hj => by
  simp only [plainB, Bool.and_eq_true, Bool.or_eq_true] at h
  cases hl with
  | head => exact h.1.resolve_left (by rw [hj]; simp)
  | tail _ hl => exact plain_in h.2 hl hj
theorem apart_mono (h : Mono ⟨hideB pre as m.heap, m.next, base, []⟩ m') (has : ∀ x ∈ as, base ≤ x.2) (hlo : m.lo = lo) (h1 : lo ≤ base) (h2 : base ≤ m.next) : Mono m ⟨showB pre m.heap as m'.heap, m'.next, lo, below lo m'.log ++ m.log⟩ where
 next := h.next
 lo := hlo.symm
 log := fun b hb => List.mem_append_right _ hb
 same := fun _ b hb hn => by
  have hout : ∀ j, (j, b) ∈ as → pre.testBit j = true := fun j hj => by
   have := has _ hj
   simp only at this
   rw [hlo] at hb
   omega
  have h3 := h.same h2 b (by show b < base; omega) fun hm => hn (List.mem_append_left _ ?_)
  ·show (showB pre m.heap as m'.heap).get b = _
   rw [show_out hout, h3]
   exact hide_out hout
  rw [hlo] at hb
  exact mem_below (self := self) hM hm hb
theorem dops_mono {n : Nat} {ops : Array Oper} {base lo : Nat} (hb : lo ≤ base) : ∀ (l : List (Oper × Info)) (rs : List (Nat × Nat)) (ws : List (Nat × List Nat)) (as : List (Nat × Nat)) (ts : Tr Value) (m : AW) (out : Out), m.lo = lo → base ≤ m.next → (∀ x ∈ as, base ≤ x.2) → dops P self n ops base lo l rs ws as ts m = some out → Mono m out.m
 | [], rs, ws, as, ts, m, out, _, _, _, h => by
  simp only [dops, Option.some.injEq] at h
  subst h
  exact .refl _
 | (o, i) :: l, rs, ws, as, ts, m, out, hlo, hn, has, h => by
  unfold dops at h
  generalize wantedA ops ts o = c at h
  cases c with
  | true =>
   simp only [cond_true] at h
   split at h
   ·split at h
    ·exact dops_mono hb l _ _ _ _ _ _ hlo hn has h
    ·split at h
     ·rename_i i2 _ _ _ _ _
      revert h
      generalize (i.full && seenB _ _ _) = c1
      intro h
      cases c1 with
      | true => exact dops_mono hb l _ _ _ _ _ _ hlo hn has h
      | false =>
       simp only [cond_false] at h
       obtain ⟨_, h⟩ := bif_some h
       exact dops_mono hb l _ _ _ _ _ _ hlo hn has h
     cases h
    cases h
   ·obtain ⟨_, h⟩ := bif_some h
    split at h
    ·rename_i v m2 heq
     obtain ⟨_, h⟩ := bif_some h
     have h1 := apart_mono hM (doOp_mono hM heq) has hlo hb hn
     exact h1.trans (dops_mono hb l _ _ _ _ _ _ rfl (Nat.le_trans hn h1.next) has h)
    cases h
   ·split at h
    ·rename_i v m2 heq
     have h1 := doOp_mono hM heq
     exact h1.trans (dops_mono hb l _ _ _ _ _ _ (h1.lo.trans hlo) (Nat.le_trans hn h1.next) (fun x hx => by
      cases hx with
      | head => exact hn
      | tail _ hx => exact has x hx) h)
    cases h
   split at h
   ·rename_i v m2 heq
    have h1 := doOp_mono hM heq
    exact h1.trans (dops_mono hb l _ _ _ _ _ _ (h1.lo.trans hlo) (Nat.le_trans hn h1.next) has h)
   cases h
  | false => exact dops_mono hb l _ _ _ _ _ _ hlo hn has h
end
end Go.Ab
namespace Go.Ab
variable [Vals]
variable {P : Program}
section
variable {self : Self} (hM : ∀ fr t m out, self fr t m = some out → Mono m out.m)
include hM
theorem stScope_mono (h : stScope self fr body rest m = some out) : Mono m out.m := by
 unfold stScope at h
 split at h
 ·rename_i heq
  have h1 := hM _ _ _ _ heq
  split at h
  ·exact h1.trans (hM _ _ _ _ h)
  cases h
  exact h1
 exact hM _ _ _ _ h
theorem setLoop_mono (h : setLoop m l st p = some m') : Mono m m' := by
 have _ := hM
 unfold setLoop at h
 split at h
 ·cases h
  exact .set _ _ _
 cases h
omit hM in
theorem outOf_mono (h : outOf v x = some out) (hx : ∀ m2, x = some m2 → Mono m m2) : Mono m out.m := by
 unfold outOf at h
 split at h
 ·cases h
  exact hx _ rfl
 cases h
omit hM in
theorem panOf_mono (h : panOf P fn v m = some out) : m = out.m := by
 unfold panOf at h
 obtain ⟨_, h⟩ := bif_some h
 cases h
 rfl
theorem endRound_mono (h : endRound P fn l r = some out) (hr : ∀ o, r = some o → Mono m o.m) : Mono m out.m := by
 unfold endRound at h
 split at h
 ·exact outOf_mono h fun _ hs => (hr _ rfl).trans (setLoop_mono hM hs)
 ·exact outOf_mono h fun _ hs => (hr _ rfl).trans (setLoop_mono hM hs)
 ·exact outOf_mono h fun _ hs => (hr _ rfl).trans (setLoop_mono hM hs)
 ·have h1 := hr _ rfl
  rw [← panOf_mono h]
  exact h1
 cases h
theorem stYield_mono (h : stYield P self l args m = some out) : Mono m out.m := by
 unfold stYield at h
 split at h
 ·obtain ⟨_, h⟩ := bif_some h
  split at h
  ·rename_i heq
   have h1 := hM _ _ _ _ heq
   unfold stBody at h
   split at h
   ·exact endRound_mono hM h fun _ ho => (h1.trans (.set _ _ _)).trans (hM _ _ _ _ ho)
   cases h
  ·rename_i heq
   have h1 := hM _ _ _ _ heq
   rw [← panOf_mono h]
   exact h1
  cases h
 cases h
theorem retFn_mono (h : retFn P fn ts m = some out) : Mono m out.m := by
 have _ := hM
 unfold retFn at h
 split at h
 ·cases h
  exact .refl _
 cases h
theorem runD_mono : ∀ (ds : List Value) {m m' : AW}, runD self ds m = some m' → Mono m m'
 | [], m, m', h => by
  cases h
  exact .refl _
 | v :: ds, m, m', h => by
  unfold runD at h
  split at h
  ·split at h
   ·rename_i heq
    exact (hM _ _ _ _ heq).trans (runD_mono ds h)
   cases h
  cases h
theorem retD_mono (h : retD P self fn ts m = some out) : Mono m out.m := by
 unfold retD at h
 split at h
 ·rename_i heq
  exact (runD_mono hM _ heq).trans (retFn_mono hM h)
 cases h
theorem stFb_mono (h : stFb P self f fn c args m = some out) : Mono m out.m := by
 unfold stFb at h
 obtain ⟨_, h⟩ := bif_some h
 split at h
 ·rename_i heq
  exact (hM _ _ _ _ heq).trans (retD_mono hM h)
 ·rename_i heq
  exact (hM _ _ _ _ heq).trans (retD_mono hM h)
 ·rename_i heq
  have h1 := hM _ _ _ _ heq
  split at h
  ·cases h
   exact h1
  cases h
 cases h
omit hM in
theorem bytesA_new (h : bytesA P fn args m = some (v, m2)) : ∃ o, m2 = m.new o := by
 unfold bytesA at h
 split at h
 ·split at h
  ·split at h
   ·obtain ⟨_, h⟩ := bif_some h
    cases h
    exact ⟨_, rfl⟩
   cases h
  cases h
 cases h
theorem stFn_mono (h : stFn P self f args m = some out) : Mono m out.m := by
 unfold stFn at h
 split at h
 ·cases h
 split at h
 ·split at h
  ·cases h
   exact .refl _
  split at h
  ·obtain ⟨_, h⟩ := bif_some h
   cases h
   exact .refl _
  split at h
  ·rename_i hv
   cases h
   obtain ⟨o, rfl⟩ := bytesA_new hv
   exact .new _ _
  cases h
 split at h
 ·obtain ⟨_, h⟩ := bif_some h
  cases h
  exact .refl _
 exact stFb_mono hM h
theorem stDfn_mono (h : stDfn P self f args m = some out) : Mono m out.m := by
 unfold stDfn at h
 split at h
 ·cases h
 split at h
 ·cases h
 exact stFb_mono hM h
theorem endRF_mono (h : endRF fr l m = some out) : Mono m out.m := by
 have _ := hM
 unfold endRF at h
 split at h
 ·split at h
  ·cases h
  split at h
  ·cases h; exact .set _ _ _
  ·cases h; exact .set _ _ _
  ·cases h; exact .set _ _ _
  cases h
 cases h
theorem beginRF_mono (h : beginRF fr ps as bo m = some (l, m2)) : Mono m m2 := by
 have _ := hM
 unfold beginRF at h
 split at h
 ·split at h
  ·cases h
   exact .new _ _
  cases h
 cases h
 exact (Mono.new _ _).trans (Mono.new _ _)
theorem stCode_mono (h : stCode P self fr c m = some out) : Mono m out.m := by
 unfold stCode at h
 split at h
 ·cases h; exact .refl _
 ·cases h; exact .refl _
 ·unfold stSeq at h
  split at h
  ·rename_i heq
   exact (hM _ _ _ _ heq).trans (hM _ _ _ _ h)
  exact hM _ _ _ _ h
 ·unfold stCond at h
  split at h
  ·exact hM _ _ _ _ h
  ·exact hM _ _ _ _ h
  cases h
 ·unfold stBlock at h
  split at h
  ·rename_i heq
   have h1 := hM _ _ _ _ heq
   generalize Nat.beq _ _ = c at h
   cases c with
   | true => cases h; exact h1
   | false => cases h; exact h1
  exact hM _ _ _ _ h
 ·unfold stLoop at h
  split at h
  ·rename_i heq
   exact (hM _ _ _ _ heq).trans (hM _ _ _ _ h)
  exact hM _ _ _ _ h
 ·cases h; exact .refl _
 ·cases h; exact .refl _
 ·cases h; exact .refl _
 ·exact hM _ _ _ _ h
 ·rename_i draw
  cases draw with
  | true =>
   simp only [cond_true] at h
   unfold drawA at h
   obtain ⟨hb, h⟩ := bif_some h
   simp only [nble, Bool.and_eq_true, decide_eq_true_eq] at hb
   have hb := hb.1
   exact dops_mono hM hb _ _ _ _ _ _ _ rfl (Nat.le_refl _) (fun x hx => by cases hx) h
  | false => exact iops_mono hM _ _ _ _ h
 ·unfold stRF at h
  split at h
  ·split at h
   ·rename_i heq
    have h1 := beginRF_mono hM heq
    split at h
    ·rename_i heq2
     exact (h1.trans (hM _ _ _ _ heq2)).trans (endRF_mono hM h)
    ·rename_i heq2
     have h2 := hM _ _ _ _ heq2
     cases h
     exact h1.trans h2
    cases h
   cases h
  cases h
 cases h
theorem istep_mono (h : istep P self fr t m = some out) : Mono m out.m := by
 unfold istep at h
 split at h
 ·exact stCode_mono hM h
 ·exact stScope_mono hM h
 ·exact stFn_mono hM h
 ·exact stDfn_mono hM h
 exact stYield_mono hM h
end
theorem irun_mono : ∀ (k : Nat) (fr : AFr) (t : Task) (m : AW) (out : Out), irun P k fr t m = some out → Mono m out.m
 | 0, _, _, _, _, h => by simp [irun] at h
 | k + 1, fr, t, m, out, h => istep_mono (fun fr t m out => irun_mono k fr t m out) h
end Go.Ab
namespace Go.Ab
variable [Vals]
section
variable {P : Program} {ρ ρ' : Ren} {m m' : AW} {w w' : World} {ts : Tr Value}
def Fresh (ρ : Ren) (m m' : AW) : Prop := ∀ i, m.next ≤ i → i < m'.next → ρ i = none
def mark1 (B : Nat) : Deferred := { target := .collected B, args := #[] }
inductive Mix (ρ : Ren) : List Value → List Nat → List Deferred → Prop where
 | nil : Mix ρ [] [] []
 | mark {dv : List Value} {Bs : List Nat} {ds : List Deferred} (B : Nat) (h : Mix ρ dv Bs ds) : Mix ρ dv (B :: Bs) (mark1 B :: ds)
 | call {dv : List Value} {Bs : List Nat} {ds : List Deferred} {g : FuncId} {a a' c c' : List Value} (ha : VsRel ρ a a') (hc : VsRel ρ c c') (h : Mix ρ dv Bs ds) : Mix ρ (.func (.func g) ⟨a⟩ ⟨c⟩ :: dv) Bs ({ target := .fn (.func g) ⟨c'⟩, args := ⟨a'⟩ } :: ds)
theorem Mix.mono (h : Mix ρ dv Bs ds) (hle : ρ.le ρ') : Mix ρ' dv Bs ds := by
 induction h with
 | nil => exact .nil
 | mark B _ ih => exact .mark B ih
 | call ha hc _ ih => exact .call (ha.mono hle) (hc.mono hle) ih
def Defs (ρ : Ren) (n0 : Nat) (m : AW) (w : World) (dv : List Value) (ds : List Deferred) : Prop :=
 ∃ Bs : List Nat, Mix ρ dv Bs ds ∧ Bs.Nodup ∧ ∀ B ∈ Bs, n0 ≤ B ∧ B < w.heap.size ∧ w.heap[B]? = some (.deferred (some [])) ∧ ¬ Own ρ m B
theorem mark_grow (g : Grow ρ ρ' m m' w w') (h : n0 ≤ B ∧ B < w.heap.size ∧ w.heap[B]? = some (.deferred (some [])) ∧ ¬ Own ρ m B) : n0 ≤ B ∧ B < w'.heap.size ∧ w'.heap[B]? = some (.deferred (some [])) ∧ ¬ Own ρ' m' B := by
 obtain ⟨q1, q2, q3, q4⟩ := h
 refine ⟨q1, Nat.lt_of_lt_of_le q2 g.size, by rw [g.keep B q2 q4]; exact q3, fun ho => ?_⟩
 rcases g.own B ho with h5 | h5
 ·exact q4 h5
 omega
theorem Defs.grow (h : Defs ρ n0 m w dv ds) (g : Grow ρ ρ' m m' w w') : Defs ρ' n0 m' w' dv ds := by
 obtain ⟨Bs, h1, h2, h3⟩ := h
 refine ⟨Bs, h1.mono g.le, h2, fun B hB => ?_⟩
 obtain ⟨q1, q2, q3, q4⟩ := h3 B hB
 refine ⟨q1, Nat.lt_of_lt_of_le q2 g.size, by rw [g.keep B q2 q4]; exact q3, fun ho => ?_⟩
 rcases g.own B ho with h5 | h5
 ·exact q4 h5
 omega
structure FOk (ρ : Ren) (n0 : Nat) (fr : AFr) (b : Frame) (a : Act) (m : AW) (w : World) : Prop where
 fn : b.fn = fr.fn
 tmps : TsRel ρ fr.n fr.ts a.tmps
 round : (∃ l s, fr.round = some l ∧ ρ l = some s ∧ b.roundOf = some s.blk ∧ a.defers = []) ∨ (fr.round = none ∧ b.roundOf = none ∧ Defs ρ n0 m w (defsOf fr.ts) a.defers)
theorem FOk.grow (h : FOk ρ n0 fr b a m w) (g : Grow ρ ρ' m m' w w') (hd : a'.defers = a.defers) (hts : defsOf ts = defsOf fr.ts) (ht : TsRel ρ' fr.n ts a'.tmps) : FOk ρ' n0 (fr.with ts) b a' m' w' where
 fn := h.fn
 tmps := ht
 round := by
  rcases h.round with ⟨l, s, h1, h2, h3, h4⟩ | ⟨h1, h2, h3⟩
  ·exact .inl ⟨l, s, h1, g.le _ _ h2, h3, by rw [hd]; exact h4⟩
  exact .inr ⟨h1, h2, by
   show Defs ρ' n0 m' w' (defsOf ts) a'.defers
   rw [hd, hts]
   exact h3.grow g⟩
theorem put_defs (hn : n ≤ dIx) : defsOf (put n ts d v) = defsOf ts := by
 have : (put n ts d v).get dIx = ts.get dIx := by
  unfold Ab.put
  cases d with
  | none => rfl
  | some d =>
   simp only
   cases hb : Nat.blt d n with
   | false => rfl
   | true =>
    rw [nblt, decide_eq_true_eq] at hb
    simp only [cond_true, Tr.get_set]
    rw [if_neg ?_]
    intro e
    have h2 : d < dIx := Nat.lt_of_lt_of_le hb hn
    rw [← e] at h2
    exact Nat.lt_irrefl _ h2
 unfold defsOf
 rw [this]
theorem defsOf_set (ts : Tr Value) (l : List Value) : defsOf (ts.set dIx (some (.tuple ⟨l⟩))) = l := by
 unfold defsOf
 rw [Tr.get_set, if_pos rfl]
def NR (b : Frame) (cs : List Frame) : Prop := b.roundOf = none → ∀ fr : Frame, fr.kind = b.kind → tryRecover fr cs = none
def Ends (ρ : Ren) (b : Frame) (a : Act) (k : List Item) (ex : Ex) (f : Frame) : Prop :=
 match ex with
 | .normal => f = on b a k
 | .exit id => ∃ k', f = on b a (.code (.exit id) :: k') ∧ exitTo id k' = exitTo id k
 | .goto l => ∃ k', f = on b a (.code (.goto l) :: k') ∧ gotoIn l k' = gotoIn l k
 | .ret => ∃ k', f = on b a (.code .ret :: k')
 | .panic v => ∃ k' v', f = off b a k' (.panicking [{ v := v', recovered := false }]) ∧ VRel ρ v v'
def Starts (c : Code) (k todo : List Item) : Prop := todo = .code c :: k ∨ ∃ body, c = .loop body ∧ todo = .inLoop body :: k
def Follows (P : Program) (fr : AFr) (m : AW) (out : Out) (start : List Item → List Item → Prop) : Prop :=
 ∀ (ρ : Ren) (w : World) (b : Frame) (a : Act) (n0 : Nat) (k : List Item) (cs : List Frame) (todo : List Item), NR b cs → Rel P ρ m w → Fresh ρ m out.m → FOk ρ n0 fr b a m w → n0 ≤ w.heap.size → start k todo →
  ∃ ρ' w' a' f, Steps P (lone (on b a todo) cs w) (lone f cs w') ∧ Ends ρ' b a' k out.ex f ∧ Rel P ρ' out.m w' ∧ Grow ρ ρ' m out.m w w' ∧ FOk ρ' n0 (fr.with out.ts) b a' out.m w'
def Goes (P : Program) (kd : CallKind) (fr : Frame) (w : World) (v : Value) : Prop :=
 fr.mode = .returning ∧ fr.defers = [] ∧ fr.kind = kd ∧ ∃ fn, P.funcs[fr.fn]? = some fn ∧ (results fn fr.tmps).run P w = .ok v w
def FollowsK (P : Program) (kd : CallKind) (f : FuncId) (args : List Value) (m : AW) (out : Out) : Prop :=
  ∀ (ρ : Ren) (w : World) (args' : List Value) (cs : List Frame), (∀ fr : Frame, fr.kind = kd → tryRecover fr cs = none) → Rel P ρ m w → Fresh ρ m out.m → VsRel ρ args args' →
    ∃ ρ' w', Rel P ρ' out.m w' ∧ Grow ρ ρ' m out.m w w' ∧
      ((∃ v', out.ex = .ret ∧ VRel ρ' out.v v' ∧ (callFunc f ⟨args'⟩).run P w = .ok (.value v') w') ∨
       ((callFunc f ⟨args'⟩).run P w = .ok (.enter f ⟨args'⟩) w ∧ ∃ fr, fr.fn = f ∧ Steps P (lone (Frame.enter P f ⟨args'⟩ kd) cs w) (lone fr cs w') ∧
         ((∃ v', out.ex = .ret ∧ VRel ρ' out.v v' ∧ Goes P kd fr w' v') ∨ (∃ v v', out.ex = .panic v ∧ VRel ρ' v v' ∧ fr.leaving P w' (.panicked [{ v := v', recovered := false }])))))
def FollowsFn (P : Program) (f : FuncId) (args : List Value) (m : AW) (out : Out) : Prop :=
  ∀ (ρ : Ren) (w : World) (args' : List Value) (cs : List Frame), Rel P ρ m w → Fresh ρ m out.m → VsRel ρ args args' →
    ∃ ρ' w', Rel P ρ' out.m w' ∧ Grow ρ ρ' m out.m w w' ∧
      ((∃ v', out.ex = .ret ∧ VRel ρ' out.v v' ∧ (callFunc f ⟨args'⟩).run P w = .ok (.value v') w') ∨
       ((callFunc f ⟨args'⟩).run P w = .ok (.enter f ⟨args'⟩) w ∧ ∃ fr, fr.fn = f ∧ Steps P (lone (Frame.enter P f ⟨args'⟩ .normal) cs w) (lone fr cs w') ∧
         ((∃ v', out.ex = .ret ∧ VRel ρ' out.v v' ∧ fr.leaving P w' (.returned v')) ∨ (∃ v v', out.ex = .panic v ∧ VRel ρ' v v' ∧ fr.leaving P w' (.panicked [{ v := v', recovered := false }])))))
theorem FollowsK.fn (h : FollowsK P .normal f args m out) : FollowsFn P f args m out := by
 intro ρ w args' cs hr hf ha
 obtain ⟨ρ', w', q1, q2, q3⟩ := h ρ w args' cs (fun fr hk => by simp [tryRecover, hk]) hr hf ha
 refine ⟨ρ', w', q1, q2, ?_⟩
 rcases q3 with q3 | ⟨q4, fr, q5, q6, q7⟩
 ·exact .inl q3
 refine .inr ⟨q4, fr, q5, q6, ?_⟩
 rcases q7 with ⟨v', h1, h2, h3, h4, h5, h6⟩ | q7
 ·exact .inl ⟨v', h1, h2, h3, h4, h5, h6⟩
 exact .inr q7
def FollowsYield (P : Program) (l : Nat) (args : List Value) (m : AW) (out : Out) : Prop :=
  ∀ (ρ : Ren) (w : World) (args' : List Value) (c : Frame) (cs : List Frame) (s : Spot), Rel P ρ m w → Fresh ρ m out.m → VsRel ρ args args' → ρ l = some s →
    ∃ ρ' w' f tmps x y, (Instr.yield s.blk ⟨args'⟩).run P w = .ok (.round s.blk f tmps x y) w ∧ Rel P ρ' out.m w' ∧ Grow ρ ρ' m out.m w w' ∧
      ((∃ v', out.ex = .ret ∧ VRel ρ' out.v v' ∧ Steps P (lone (Frame.round s.blk f tmps x y .normal) (c :: cs) w) (lone (c.finish v') cs w')) ∨
       (∃ v v', out.ex = .panic v ∧ VRel ρ' v v' ∧ Steps P (lone (Frame.round s.blk f tmps x y .normal) (c :: cs) w) (lone (c.raise [{ v := v', recovered := false }]) cs w')))
def Sound (P : Program) (fr : AFr) (t : Task) (m : AW) (out : Out) : Prop :=
 match t with
 | .code c => Follows P fr m out (Starts c)
 | .scope body rest => Follows P fr m out fun k todo => todo = .code rest :: .inScope body :: k
 | .fn f args => FollowsFn P f args m out
 | .dfn f args => FollowsK P .deferred f args m out
 | .yield l args => FollowsYield P l args m out
theorem TsRel.put {a : Act} (h : TsRel ρ n ts a.tmps) (hv : VRel ρ v v') (d : Option Tmp) : TsRel ρ n (Ab.put n ts d v) (a.put d v').tmps := by
 cases d with
 | none => exact h
 | some d =>
  obtain ⟨⟨h1, h3⟩, h2⟩ := h
  refine ⟨⟨by simp [Act.put, h1], h3⟩, fun t htd => ?_⟩
  simp only [Ab.put, Act.put]
  by_cases hd : d < n
  ·have : Nat.blt d n = true := by rw [nblt]; simpa using hd
   rw [this]
   simp only [cond_true, Tr.get_set]
   by_cases ht : t = d
   ·subst ht
    simp only [if_true, Option.getD_some]
    rw [Array.getD_eq_getD_getElem?, Array.getElem?_setIfInBounds_self_of_lt (by rw [h1]; exact hd)]
    exact hv
   rw [if_neg ht, Array.getD_eq_getD_getElem?, Array.getElem?_setIfInBounds_ne (fun e => ht e.symm), ← Array.getD_eq_getD_getElem?]
   exact h2 t htd
  have : Nat.blt d n = false := by rw [nblt]; simpa using hd
  rw [this]
  simp only [cond_false]
  rw [Array.setIfInBounds_eq_of_size_le (by rw [h1]; exact Nat.le_of_not_lt hd)]
  exact h2 t htd
theorem Act.put_defers' (a : Act) (d : Option Tmp) (v : Value) : (a.put d v).defers = a.defers := by cases d <;> rfl
theorem erel_of {a : Act} (h : TsRel ρ n ts a.tmps) (hg : ∀ g, g < P.globals.size → ∃ c, ρ g = some ⟨g, 0, c⟩) : ERel P ρ ts a.eval := by
 intro x v hx
 cases x with
 | tmp t =>
  simp only [ev] at hx
  obtain ⟨hlt, hx⟩ := bif_some hx
  rw [nblt, decide_eq_true_eq] at hlt
  cases hx
  exact h.2 t hlt
 | const c =>
  simp only [ev] at hx
  obtain ⟨hgr, hx⟩ := bif_some hx
  cases hx
  exact ground_rel ρ _ hgr
 | global g =>
  simp only [ev] at hx
  obtain ⟨hlt, hx⟩ := bif_some hx
  simp only [nblt, decide_eq_true_eq] at hlt
  cases hx
  obtain ⟨c, hc⟩ := hg g hlt
  exact .ptr hc
 | func f =>
  simp only [ev, Option.some.injEq] at hx
  subst hx
  exact .func .nil .nil
theorem bool_rel (h : VRel ρ v v') (b : Bool) : v = .bool b ↔ v' = .bool b := by
 by_cases hs : ∃ i, v = .chan (some i)
 ·obtain ⟨i, rfl⟩ := hs
  cases h
  have := Vals.sc i
  cases hv : Vals.val i <;> simp_all [scalar]
 cases h <;> first | exact absurd ⟨_, rfl⟩ hs | simp
theorem guard_rel (h : VRel ρ (x.getD undef) (y.getD undef)) (want : Bool) :
  (fun z : Option Value => match z with | some (.bool b) => b == want | _ => false) x = ((fun z : Option Value => match z with | some (.bool b) => some b | _ => none) y == some want) := by
 simp only
 have key := bool_rel h
 by_cases hb : ∃ b, x.getD undef = .bool b
 ·obtain ⟨b, hb⟩ := hb
  have hy := (key b).1 hb
  have hx' : x = some (.bool b) := by cases x <;> simp_all [undef]
  have hy' : y = some (.bool b) := by cases y <;> simp_all [undef]
  subst hx'
  subst hy'
  rfl
 have e1 : ∀ z : Option Value, (∀ b, z ≠ some (.bool b)) → (match z with | some (.bool b) => b == want | _ => false) = false := by
  intro z hz
  split
  ·exact absurd rfl (hz _)
  rfl
 have e2 : ∀ z : Option Value, (∀ b, z ≠ some (.bool b)) → (match z with | some (.bool b) => some b | _ => none) = none := by
  intro z hz
  split
  ·exact absurd rfl (hz _)
  rfl
 rw [e1 x fun b e => hb ⟨b, by rw [e]; rfl⟩, e2 y fun b e => hb ⟨b, (key b).2 (by rw [e]; rfl)⟩]
 rfl
theorem wanted_rel {a : Act} (h : TsRel ρ n ts a.tmps) (ops : Array Oper) (o : Oper) : wantedA ops ts o = Region.wanted o (yielded ops a.tmps) := by
 unfold wantedA Region.wanted
 cases o.guard with
 | none => rfl
 | some jw =>
  obtain ⟨j, want⟩ := jw
  simp only [yielded]
  cases hd : (ops[j]?).bind (·.dst) with
  | none => simp
  | some t =>
   simp only [Option.bind_some]
   cases hb : Nat.blt t dIx with
   | true =>
    rw [nblt, decide_eq_true_eq] at hb
    have h2 := h.2 t hb
    rw [Array.getD_eq_getD_getElem?] at h2
    exact guard_rel h2 want
   | false =>
    have : ¬ t < dIx := fun hlt => by
     have : Nat.blt t dIx = true := by rw [nblt]; simpa using hlt
     rw [this] at hb
     cases hb
    have : a.tmps[t]? = none := Array.getElem?_eq_none (by rw [h.1.1]; exact Nat.le_trans h.1.2 (Nat.le_of_not_lt this))
    rw [this]
    rfl
end
end Go.Ab