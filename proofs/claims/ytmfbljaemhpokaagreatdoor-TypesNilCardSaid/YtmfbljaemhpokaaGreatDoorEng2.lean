/-
  The engine, part 2: an interpreter over abstract memories, and the proof that the model's machine does what it reckons. Conditions: none.
-/
import Derived.Test.YtmfbljaemhpokaaGreatDoorEng1
import Derived.Lib.Bytealg
import Derived.Laws.Externs

/-
  THE ENGINE, 21: append, copy, unsafe.String; the builtin functions with effects, together.
-/
namespace Go.Ab
section
variable {P : Program} {ρ ρ' : Ren} {m m' : AW} {w w' : World}

theorem zeroFits_some {e : TypeId} {sz : Nat} (h : zeroFits P e sz = true) : ∃ z, zeroT P e = some z ∧ (cellsOfV z).length = sz := by
  unfold zeroFits at h
  split at h
  · rename_i z hz
    simp only [nbeq, decide_eq_true_eq] at h
    exact ⟨z, hz, h⟩
  · cases h

theorem appendA_rel (h : Rel P ρ m w) (hf : ∀ i, m.next ≤ i → i < m'.next → ρ i = none) {ts : Array TypeId} {ty st e : TypeId} {n : Nat} {s s' x' v : Value} {vs vs' : List Value} (hs : appendA P e m s n vs = some (v, m')) (hsr : VRel ρ s s') (hv : VsRel ρ vs vs')
    (hA : ∀ sz, sizeT P e = some sz → AppArg P w ts e sz x' n vs') (hv0 : n = 0 → vs' = []) (hst : ts[0]? = some st) (hu : P.underlying st = some (.slice e)) (hse : (sizeT P e).isSome) : DoesV P ρ m w (Builtin.append_ ts ty #[s', x']) v m' := by
  obtain ⟨sz, hsz⟩ := Option.isSome_iff_exists.1 hse
  have hA := hA sz hsz
  obtain ⟨i, hi⟩ : ∃ i, P.info? e = some i := by
    unfold sizeT at hsz
    cases hh : P.info? e with
    | none => rw [hh] at hsz; cases hsz
    | some i => exact ⟨i, rfl⟩
  unfold appendA at hs
  split at hs
  · have hv0 := hv0 rfl
    subst hv0
    split at hs
    · rename_i a len cap
      obtain ⟨hle, hs⟩ := bif_some hs
      simp only [nble, decide_eq_true_eq, Option.some.injEq, Prod.mk.injEq] at hle hs
      obtain ⟨rfl, rfl⟩ := hs
      have key : ∀ (a' : Option Addr) (cap' : Nat), s' = .slice a' len cap' → len ≤ cap' → DoesV P ρ m w (Builtin.append_ ts ty #[s', x']) (.slice a len cap) m := by
        intro a' cap' he hle'
        subst he
        refine ⟨ρ, w, _, append_in (n := 0) hA hst hu hsz hi (by omega) (by omega) ?_, h, .refl _ _ _, hsr⟩
        cases a' <;> simp [storeCells]
      cases hsr with
      | sliceNil hc => exact key _ _ rfl hle
      | slice hb hc => exact key _ _ rfl hle
      | empty => exact key _ _ rfl (by omega)
      | open_ hb hic hc ha => exact key _ _ rfl (by omega)
    · cases hs
  · rename_i a len cap hn0
    have hn0 : n ≠ 0 := by intro e0; exact hn0 e0
    rw [hsz, hi] at hs
    simp only at hs
    cases hck : (zeroFits P e sz && Nat.beq vs.length (n * sz) && flats vs && Nat.ble (len + n) 4294967296 && Nat.ble i.bytes 1024 && Nat.ble 1 i.bytes && Nat.ble 1 sz) with
    | false => rw [hck] at hs; cases hs
    | true =>
    rw [hck] at hs
    simp only [Bool.not_true, cond_false] at hs
    simp only [Bool.and_eq_true, nbeq, nble, decide_eq_true_eq] at hck
    obtain ⟨⟨⟨⟨⟨⟨hzf, hvl⟩, hfl⟩, h32⟩, hb⟩, hb1⟩, hsz1⟩ := hck
    obtain ⟨z, hz, hzl⟩ := zeroFits_some hzf
    have hn1 : 1 ≤ n := by omega
    have hbn : i.bytes * n ≤ 281474976710656 := by
      have : i.bytes * n ≤ 1024 * 4294967296 := Nat.mul_le_mul hb (by omega)
      omega
    have hvne : vs ≠ [] := by
      intro e0
      rw [e0] at hvl
      have : 1 * 1 ≤ n * sz := Nat.mul_le_mul hn1 hsz1
      simp at hvl
      omega
    -- a new row
    have fresh : ∀ (old old' : List Value) (base : Option Addr) (c : Nat), s' = .slice base len c → ¬ len + n ≤ c → VsRel ρ old old' → old.length = len * sz → (∀ d, (Builtin.firstCells sz len (.slice base len c)).run P { w with drawn := d } = .ok ⟨old'⟩ { w with drawn := d }) →
        ρ m.next = none → DoesV P ρ m w (Builtin.append_ ts ty #[s', x']) (.slice (some ⟨m.next, 0, none⟩) (len + n) top) (m.new (.cells (old ++ vs) e true .plain none)) := by
      intro old old' base c he hle ho hol hrun hfr
      subst he
      obtain ⟨cap, c1, c2, hr⟩ := append_out (ty := ty) hA hst hu hsz hi hb hb1 hle h32 hz hzl hrun
      exact fresh_rel h hfr (by simp) ho hv hol hvl hzl hsz c1 c2 hr
    split at hs
    · obtain ⟨hc, hs⟩ := bif_some hs
      simp only [Bool.and_eq_true, nbeq, decide_eq_true_eq, Option.some.injEq, Prod.mk.injEq] at hc hs
      obtain ⟨rfl, rfl⟩ := hc
      obtain ⟨rfl, rfl⟩ := hs
      cases hsr
      exact fresh [] [] none 0 rfl (by omega) .nil (by simp) (fun d => first_nil _ rfl) (hf _ (Nat.le_refl _) (by simp [AW.new]))
    · rename_i b off
      by_cases hbig : cap < big
      · simp only [nblt, hbig, decide_true, cond_true] at hs
        by_cases hle : len + n ≤ cap
        · simp only [nble, hle, decide_true, cond_true] at hs
          obtain ⟨m2, hst2, hs⟩ := Option.map_eq_some_iff.1 hs
          simp only [Prod.mk.injEq] at hs
          obtain ⟨rfl, rfl⟩ := hs
          cases hsr with
          | slice hb2 hc2 =>
            rename_i s
            obtain ⟨w', q1, q2, q3⟩ := storeA_rel h hst2 hv (a' := ⟨s.blk, s.off + (off + len * sz), none⟩) (fun _ => ⟨s, hb2, rfl⟩)
            refine ⟨ρ, w', _, append_in hA hst hu hsz hi hbn hle ?_, q2, q3, .slice hb2 hc2⟩
            simp only [Addr.add_eq, Nat.add_assoc]
            exact q1
          | empty => omega
          | open_ hb2 hi2 hc2 ha2 =>
            simp only [big, top] at *
            omega
        · simp only [nble, hle, decide_false, cond_false] at hs
          have real : ∃ a' c', s' = .slice (some a') len c' ∧ c' = cap := by
            cases hsr with
            | slice hb2 hc2 => exact ⟨_, _, rfl, rfl⟩
            | empty => exact ⟨_, _, rfl, rfl⟩
            | open_ hb2 hi2 hc2 ha2 =>
              simp only [big, top] at *
              omega
          obtain ⟨a', c', rfl, rfl⟩ := real
          split at hs
          · rename_i o ho
            obtain ⟨old, hold, hs⟩ := Option.map_eq_some_iff.1 hs
            simp only [Prod.mk.injEq] at hs
            obtain ⟨rfl, rfl⟩ := hs
            have hfr := hf _ (Nat.le_refl _) (by simp [AW.new])
            by_cases hl0 : len = 0
            · have : old = [] := List.eq_nil_of_length_eq_zero (by rw [rdCells_len hold, hl0, Nat.zero_mul])
              subst this
              exact fresh [] [] _ _ rfl hle .nil (by simp [hl0]) (fun d => first_nil _ hl0) hfr
            · obtain ⟨s, x, q1, q2, q3⟩ := h.obj _ _ ho
              obtain ⟨a2, c2, he, ha⟩ := slice_addr hsr q1
              cases he
              have ha := ha (by omega)
              subst ha
              obtain ⟨old', hr, hov, hol⟩ := rdCells_rel2 hold q3
              exact fresh old old' _ _ rfl hle hov hol (fun d => hr { w with drawn := d } q2) hfr
          · obtain ⟨hc, hs⟩ := bif_some hs
            simp only [nbeq, decide_eq_true_eq, Option.some.injEq, Prod.mk.injEq] at hc hs
            obtain ⟨rfl, rfl⟩ := hs
            exact fresh [] [] _ _ rfl hle .nil (by simp [hc]) (fun d => first_nil _ hc) (hf _ (Nat.le_refl _) (by simp [AW.new]))
      · simp only [nblt, hbig, decide_false, cond_false] at hs
        split at hs
        · rename_i cs e' md mate hbo
          obtain ⟨hc, hs2⟩ := bif_some hs
          clear hs
          simp only [Bool.and_eq_true, Bool.or_eq_true, Bool.not_eq_true', decide_eq_false_iff_not, nbeq, nble, decide_eq_true_eq, Option.some.injEq, Prod.mk.injEq] at hc hs2
          obtain ⟨⟨⟨⟨rfl, hmd⟩, hoff⟩, hk⟩, hfz⟩ := hc
          obtain ⟨rfl, rfl⟩ := hs2
          have hfr := hf _ (Nat.le_refl _) (by simp [AW.new, AW.set, kill_next])
          cases hsr with
          | slice hb2 hc2 => exact absurd hc2 hbig
          | empty => simp [big] at hbig
          | open_ hb2 hi2 hc2 ha2 =>
            rename_i j a' s
            have hj : top - (top - j) = j := by simp only [big, top] at *; omega
            rw [hj] at hoff
            by_cases hle : len + n ≤ s.cap - j
            · have ha := ha2 (by omega)
              subst ha
              obtain ⟨w', q1, q2, q3, q4⟩ := grow_in_place h hfr hbo hb2 hsz hmd hoff rfl hk hfz (by omega) hv hvl hfl hn1
              refine ⟨_, w', _, append_in hA hst hu hsz hi hbn hle ?_, q2, q3, q4⟩
              simp only [Addr.add_eq, Nat.add_assoc]
              exact q1
            · obtain ⟨s2, x, q1, q2, q3⟩ := h.obj _ _ hbo
              rw [hb2] at q1
              cases q1
              have hro : isRo (.cells cs e true md mate) = false := by cases md <;> first | rfl | exact absurd rfl hmd
              have hrd : rdCells (.cells cs e true md mate) off (len * sz) = some ((cs.take (off + len * sz)).drop off) := by
                simp only [rdCells, nble, hk, decide_true, cond_true, List.drop_take, Nat.add_sub_cancel_left]
              have hx2 : XRel P ρ s (.cells (cs.take (off + len * sz)) e true md (some m.next)) x := by
                obtain ⟨c, fr, rfl, hcs, hcell, hg1, hg2, hfz2⟩ := q3
                refine ⟨c, fr, rfl, by rw [List.length_take]; omega, ?_, fun hh => (by cases hh), hg2, ?_⟩
                · intro i v hiv
                  have hil := (List.getElem?_eq_some_iff.1 hiv).1
                  rw [List.length_take] at hil
                  rw [List.getElem?_take, if_pos (by omega)] at hiv
                  exact hcell _ _ hiv
                · rw [List.length_take]
                  cases md with
                  | plain => exact hfz2
                  | strish => exact hfz2
                  | frozen =>
                    rcases hfz with hfz | hfz
                    · rcases hfz2 with hfz2 | hfz2
                      · exact .inl hfz2
                      · exact .inr (by omega)
                    · exact absurd rfl hfz
                  | ro => trivial
              have hput := h.put2 (m0 := kill m mate) sub_kill kill_next (o' := .cells (cs.take (off + len * sz)) e true md (some m.next)) (y := x) hbo hb2 hro (by cases md <;> first | rfl | exact absurd rfl hmd) (alone h hbo hb2 hro) hx2
              rw [setBlk_same q2] at hput
              have hnx : ((kill m mate).set b (some (.cells (cs.take (off + len * sz)) e true md (some m.next)))).next = m.next := kill_next
              have fin : ∀ (old' : List Value), VsRel ρ ((cs.take (off + len * sz)).drop off) old' → (∀ d, (Builtin.firstCells sz len (.slice (some a') len (s.cap - j))).run P { w with drawn := d } = .ok ⟨old'⟩ { w with drawn := d }) →
                  DoesV P ρ m w (Builtin.append_ ts ty #[.slice (some a') len (s.cap - j), x']) (.slice (some ⟨m.next, 0, none⟩) (len + n) top)
                    (((kill m mate).set b (some (.cells (cs.take (off + len * sz)) e true md (some m.next)))).new (.cells ((cs.take (off + len * sz)).drop off ++ vs) e true md (some b))) := by
                intro old' hov hrun
                obtain ⟨cap, c1, c2, hr⟩ := append_out (ty := ty) hA hst hu hsz hi hb hb1 hle h32 hz hzl hrun
                have := fresh_rel (m := (kill m mate).set b (some (.cells (cs.take (off + len * sz)) e true md (some m.next)))) (mt := some b) hput.1 (by rw [hnx]; exact hfr) hmd hov hv (rdCells_len hrd) hvl hzl hsz c1 c2 hr
                rw [hnx] at this
                obtain ⟨ρ', w', v', t1, t2, t3, t4⟩ := this
                exact ⟨ρ', w', v', t1, t2, hput.2.trans t3, t4⟩
              by_cases hl0 : len = 0
              · have he : (cs.take (off + len * sz)).drop off = [] := List.eq_nil_of_length_eq_zero (by rw [rdCells_len hrd, hl0, Nat.zero_mul])
                have := fin [] (by rw [he]; exact .nil) (fun d => first_nil _ hl0)
                exact this
              · have ha := ha2 (by omega)
                subst ha
                obtain ⟨old', hr, hov, hol⟩ := rdCells_rel2 hrd q3
                exact fin old' hov (fun d => hr { w with drawn := d } q2)
        · cases hs
    · simp at hs
  · cases hs

end
end Go.Ab

/-
  THE ENGINE, 22: the builtin functions with effects, together.
-/
namespace Go.Ab
section
variable {P : Program} {ρ ρ' : Ren} {m m' : AW} {w w' : World}

theorem firstA_zero {sz : Nat} {x : Value} {vs : List Value} (h : firstA m sz 0 x = some vs) : vs = [] := by
  unfold firstA at h
  split at h
  · simpa using h.symm
  · simpa using h.symm
  · simpa using h.symm
  · cases h

theorem valP_some {v : Value} {x : Option (Value × AW)} (h : valP x = some (.val v m')) : x = some (v, m') := by
  unfold valP at h
  split at h
  · simp only [Option.some.injEq, Rs.val.injEq] at h
    obtain ⟨rfl, rfl⟩ := h
    rfl
  · cases h

theorem VsRel.ground_self {zs : List Value} {t : TypeId} {sz n : Nat} (h : zerosT P t sz n = some zs) : VsRel ρ zs zs := by
  unfold zerosT at h
  by_cases h0 : n * sz = 0
  · simp only [nbeq, h0, decide_true, cond_true, Option.some.injEq] at h
    subst h
    exact .nil
  · simp only [nbeq, h0, decide_false, cond_false] at h
    split at h
    · rename_i z hz
      obtain ⟨hl, h⟩ := bif_some h
      simp only [Option.some.injEq] at h
      subst h
      exact ((zero_rel hz).cells).replicateL n
    · cases h

theorem appendV_rel (h : Rel P ρ m w) (hf : ∀ i, m.next ≤ i → i < m'.next → ρ i = none) {ts : Array TypeId} {ty : TypeId} {s s' x x' v : Value} (hs : appendV P ts[0]? ts[1]? s x m = some (.val v m')) (hsr : VRel ρ s s') (hx : VRel ρ x x') :
    DoesV P ρ m w (Builtin.append_ ts ty #[s', x']) v m' := by
  unfold appendV at hs
  split at hs
  · rename_i e ht
    obtain ⟨st, hst, hu⟩ := Option.bind_eq_some_iff.1 ht
    split at hs
    · rename_i sz hsz
      split at hs
      · rename_i k hxt
        obtain ⟨xt, hxt1, hxt2⟩ := Option.bind_eq_some_iff.1 hxt
        split at hs
        · rename_i n hn
          obtain ⟨hle, hs⟩ := bif_some hs
          simp only [nble, decide_eq_true_eq] at hle
          obtain ⟨k', rfl⟩ := asInt_some hn hx
          split at hs
          · rename_i zs hz
            refine appendA_rel h hf (valP_some hs) hsr (VsRel.ground_self hz) (fun sz2 h2 => ?_) (fun h0 => ?_) hst hu (by rw [hsz]; rfl)
            · rw [hsz] at h2
              cases h2
              exact .zeros hxt1 hxt2 rfl hle hz
            · subst h0
              simpa [zerosT, nbeq] using hz.symm
          · cases hs
        · cases hs
      · rename_i td hni hxt
        obtain ⟨xt, hxt1, hxt2⟩ := Option.bind_eq_some_iff.1 hxt
        split at hs
        · rename_i n hn
          split at hs
          · rename_i vs hvs
            obtain ⟨vs', h1, h2, h3⟩ := firstA_rel h hvs hx hn (Nat.le_refl _)
            refine appendA_rel h hf (valP_some hs) hsr h2 (fun sz2 h2 => ?_) (fun h0 => ?_) hst hu (by rw [hsz]; rfl)
            · rw [hsz] at h2
              cases h2
              exact .cells hxt1 hxt2 (fun k hk => hni k (by rw [hk])) h3 h1
            · subst h0
              have := firstA_zero hvs
              subst this
              cases h2
              rfl
          · cases hs
        · cases hs
      · cases hs
    · cases hs
  · cases hs

theorem copyV_rel (h : Rel P ρ m w) {ts : Array TypeId} {ty : TypeId} {d d' x x' v : Value} (hs : copyV P ts[0]? d x m = some (.val v m')) (hd : VRel ρ d d') (hx : VRel ρ x x') : DoesV P ρ m w (Builtin.copy_ ts ty #[d', x']) v m' := by
  unfold copyV at hs
  split at hs
  · rename_i a dl cp
    split at hs
    · rename_i e ht
      obtain ⟨st, hst, hu⟩ := Option.bind_eq_some_iff.1 ht
      split at hs
      · rename_i sz hsz
        split at hs
        · rename_i n hn
          split at hs
          · rename_i vs hvs
            obtain ⟨vs', h1, h2, h3⟩ := firstA_rel h hvs hx hn (Nat.min_le_left _ _)
            have h1 := h1 w.drawn
            split at hs
            · obtain ⟨hc, hs⟩ := bif_some hs
              simp only [nbeq, decide_eq_true_eq, Option.some.injEq, Rs.val.injEq] at hc hs
              obtain ⟨rfl, rfl⟩ := hs
              cases hd
              refine ⟨ρ, w, goInt (Nat.min n dl), ?_, h, .refl _ _ _, .int ..⟩
              unfold Builtin.copy_
              simp only [hst, List.getElem?_toArray, List.getElem?_cons_zero, List.getElem?_cons_succ, Sem.run_bind, run_und hu, Result.andThen_ok, run_size hsz, h3, h1, Sem.run_pure]
            · rename_i b off
              obtain ⟨rfl, hs2⟩ := valM_some hs
              have key : ∀ (a' : Addr) (c' : Nat), d' = .slice (some a') dl c' → (vs ≠ [] → ∃ s, ρ b = some s ∧ a' = ⟨s.blk, s.off + off, none⟩) → DoesV P ρ m w (Builtin.copy_ ts ty #[d', x']) (goInt (Nat.min n dl)) m' := by
                intro a' c' he ha
                subst he
                obtain ⟨w', q1, q2, q3⟩ := storeA_rel h hs2 h2 ha
                refine ⟨ρ, w', goInt (Nat.min n dl), ?_, q2, q3, .int ..⟩
                unfold Builtin.copy_
                simp only [hst, List.getElem?_toArray, List.getElem?_cons_zero, List.getElem?_cons_succ, Sem.run_bind, run_und hu, Result.andThen_ok, run_size hsz, h3, h1, Sem.run_pure]
                simp [q1]
              have hvl : vs ≠ [] → 0 < dl := by
                intro hne
                refine Nat.pos_of_ne_zero fun h0 => hne ?_
                rw [h0, show Nat.min n 0 = 0 from Nat.min_zero _] at hvs
                exact firstA_zero hvs
              cases hd with
              | slice hb hc => exact key _ _ rfl fun _ => ⟨_, hb, rfl⟩
              | empty => exact key _ _ rfl fun hne => absurd (hvl hne) (by omega)
              | open_ hb hi hc ha => exact key _ _ rfl fun hne => ⟨_, hb, ha (by have := hvl hne; omega)⟩
            · cases hs
          · cases hs
        · cases hs
      · cases hs
    · cases hs
  · cases hs

theorem liesAt_bytes {e : TypeId} (hc : P.cellsOf e = 1) (count off n : Nat) (hn : off + n ≤ count) : liesAt P P.depth e count off e n = true := by
  have hd : P.depth = (2 * (P.types.size + Made.depth) + 1) + 1 := rfl
  rw [hd]
  simp only [liesAt, Bool.or_eq_true]
  left
  rw [hd]
  simp [rowAt, hc, hn, sameLayout, Nat.mod_one]

theorem run_loadB : ∀ (xs : List Int) (a : Addr) (acc : ByteArray), (∀ j x, xs[j]? = some x → w.cell? (a.add j) = some (.int .u8 x)) →
    (loadBytes a acc xs.length).run P w = .ok ⟨acc.data ++ (xs.map fun n => UInt8.ofNat n.toNat).toArray⟩ w
  | [], a, acc, _ => by simp [loadBytes]
  | x :: l, a, acc, h => by
    have h0 : w.cell? a = some (.int .u8 x) := by
      have := h 0 x rfl
      simpa [Addr.add] using this
    have ih := run_loadB l (a.add 1) (acc.push x.toNat.toUInt8) (fun j y hy => by
      have := h (j + 1) y (by simpa using hy)
      have e : (a.add 1).add j = a.add (j + 1) := by
        unfold Addr.add
        by_cases hj : j = 0
        · subst hj; simp
        · simp [hj]; omega
      rw [e]; exact this)
    simp only [List.length_cons, loadBytes, Sem.run_bind, run_load, h0, Result.andThen]
    rw [ih]
    congr 1
    apply ByteArray.ext
    simp [ByteArray.push]

theorem freeze_block {b off n : Nat} {c : Array Value} {e : TypeId} {fr : Nat × Nat} (h : w.heap[b]? = some (.cells c e fr)) (hn : n ≠ 0) :
    w.freeze ⟨b, off, none⟩ n = setBlk w b (.cells c e (if fr.1 == fr.2 then (off, off + n) else (min fr.1 off, max fr.2 (off + n)))) := by
  unfold World.freeze setBlk
  rw [if_neg hn]
  congr 1
  apply Array.ext_getElem?
  intro j
  rw [Array.getElem?_modify, Array.getElem?_setIfInBounds]
  by_cases hj : b = j
  · subst hj
    have hb : b < w.heap.size := by rw [Array.getElem?_eq_some_iff] at h; exact h.1
    simp only [if_true, h, Option.map_some, hb]
  · simp [hj]

theorem unsafeString_nil (ts : Array TypeId) (ty : TypeId) (n : Value) : Builtin.unsafeString_ ts ty #[.pointer none, n] = (do
    let n ← asInt n
    let some _ := ts[0]? | stuck "unsafe.String: no argument types"
    if n < 0 then runtimePanic (.error "unsafe.String: len out of range")
    if n > IntKind.i64.max then unsupported (.unsafePointer "String: a length above the largest int")
    if n = 0 then pure (.string .empty) else runtimePanic (.error "unsafe.String: ptr is nil and len is not zero")) := rfl

theorem unsafeString_some (ts : Array TypeId) (ty : TypeId) (a : Addr) (n : Value) : Builtin.unsafeString_ ts ty #[.pointer (some a), n] = (do
    let n ← asInt n
    let some pt := ts[0]? | stuck "unsafe.String: no argument types"
    if n < 0 then runtimePanic (.error "unsafe.String: len out of range")
    if n > IntKind.i64.max then unsupported (.unsafePointer "String: a length above the largest int")
    if n = 0 then pure (.string .empty)
    else if ← variablesAt a (← elemOf pt) n.toNat then do
      let s ← loadBytes a .empty n.toNat
      freeze a n.toNat
      pure (.string s)
    else unsupported (.unsafePointer "String: not so many bytes at ptr")) := rfl

theorem unsafeStr_rel (h : Rel P ρ m w) {ts : Array TypeId} {ty : TypeId} {p n p' n' v : Value} (hs : unsafeStr P ts[0]? p n m = some (.val v m')) (hp : VRel ρ p p') (hn : VRel ρ n n') : DoesV P ρ m w (Builtin.unsafeString_ ts ty #[p', n']) v m' := by
  unfold unsafeStr at hs
  split at hs
  · rename_i k
    cases hn
    split at hs
    · rename_i a
      obtain ⟨ht, hs⟩ := bif_some hs
      obtain ⟨pt, hpt⟩ := Option.isSome_iff_exists.1 ht
      simp only [Option.some.injEq, Rs.val.injEq] at hs
      obtain ⟨rfl, rfl⟩ := hs
      refine ⟨ρ, w, .string .empty, ?_, h, .refl _ _ _, .string _⟩
      have hmax : IntKind.i64.max = 9223372036854775807 := rfl
      cases hp <;> simp [unsafeString_nil, unsafeString_some, hpt, asInt, asIntOf, hmax]
    · cases hs
  · rename_i k n hn0
    cases hn
    split at hs
    · rename_i b off
      split at hs
      · rename_i cs e g md mt hb
        split at hs
        · rename_i hel
          split at hs
          · rename_i vs hvs
            split at hs
            · rename_i l hl
              obtain ⟨hc, hs⟩ := bif_some hs
              simp only [Bool.and_eq_true, Bool.or_eq_true, nbeq, nble, decide_eq_true_eq, Option.some.injEq, Rs.val.injEq] at hc hs
              obtain ⟨⟨⟨hpe, hc1⟩, hn32⟩, hmd⟩ := hc
              obtain ⟨rfl, rfl⟩ := hs
              have hpt : ∃ pt, ts[0]? = some pt ∧ P.underlying pt = some (.pointer e) := by
                unfold ptrElem at hpe
                split at hpe
                · rename_i u hu
                  obtain ⟨pt, q1, q2⟩ := Option.bind_eq_some_iff.1 hu
                  simp only [nbeq, decide_eq_true_eq] at hpe
                  exact ⟨pt, q1, by rw [q2, hpe]⟩
                · cases hpe
              obtain ⟨pt, hpt, hpu⟩ := hpt
              obtain ⟨s, x, q1, q2, q3⟩ := h.obj _ _ hb
              have hvlen := rdCells_len hvs
              have hcon := q3
              obtain ⟨vs', hr, hvv, _⟩ := rdCells_rel2 hvs q3
              obtain ⟨ns, rfl, rfl⟩ := bytesOf_ints hl hvv
              obtain ⟨c, fr, rfl, hcs, hcell, hg1, hg2, hfr⟩ := q3
              have hvlen2 : ns.length = n := by rw [← hvlen, hvv.length_eq, List.length_map]
              simp only [rdCells] at hvs
              obtain ⟨hin, hvs⟩ := bif_some hvs
              simp only [nble, decide_eq_true_eq, Option.some.injEq] at hin hvs
              have hn1 : n ≠ 0 := fun e0 => hn0 (by rw [e0])
              have hro : isRo (.cells cs e g md mt) = false := by rcases hmd with rfl | rfl <;> rfl
              have hput := h.put2 (m0 := kill m mt) sub_kill kill_next (o' := .cells cs e g .frozen none) (y := .cells c e (if fr.1 == fr.2 then (s.off + off, s.off + off + n) else (min fr.1 (s.off + off), max fr.2 (s.off + off + n)))) hb q1 hro rfl (alone h hb q1 hro) (by
                refine ⟨c, _, rfl, hcs, hcell, hg1, hg2, ?_⟩
                by_cases hff : fr.1 = fr.2
                · rw [if_pos (by simpa using hff)]
                  exact .inr (by show s.off + off + n ≤ _; omega)
                · rw [if_neg (by simpa using hff)]
                  right
                  show max fr.2 (s.off + off + n) ≤ _
                  have : fr.2 ≤ s.off + cs.length := by
                    rcases hmd with rfl | rfl
                    · exact absurd hfr hff
                    · rcases hfr with hfr | hfr
                      · exact absurd hfr hff
                      · exact hfr
                  omega)
              cases hp with
              | ptr hpb =>
                rw [q1] at hpb
                cases hpb
                refine ⟨ρ, _, _, ?_, hput.1, hput.2, .string _⟩
                have hmax : IntKind.i64.max = 9223372036854775807 := rfl
                have b1 : ¬ (Int.ofNat n < 0) := by simp
                have b2 : ¬ (Int.ofNat n > 9223372036854775807) := by simp only [Int.ofNat_eq_natCast]; omega
                have b3 : ¬ (Int.ofNat n = 0) := by simp only [Int.ofNat_eq_natCast]; omega
                have b4 : (Int.ofNat n).toNat = n := rfl
                have hload := run_loadB (P := P) (w := w) ns ⟨s.blk, s.off + off, none⟩ .empty (by
                  intro j y hj
                  rw [Addr.add_eq, cell_of_block q2]
                  have hj2 : (ns.map (Value.int .u8))[j]? = some (.int .u8 y) := by rw [List.getElem?_map, hj]; rfl
                  have hjl := (List.getElem?_eq_some_iff.1 hj).1
                  have hjv : ∃ u, vs[j]? = some u := ⟨_, List.getElem?_eq_getElem (by omega)⟩
                  obtain ⟨u, hu⟩ := hjv
                  obtain ⟨u', r1, r2⟩ := hvv.get hu
                  rw [hj2] at r1
                  cases r1
                  have hu2 : cs[off + j]? = some u := by
                    rw [← hvs, List.getElem?_take, if_pos (by omega), List.getElem?_drop] at hu
                    exact hu
                  obtain ⟨u2, r3, r4⟩ := hcell _ _ hu2
                  cases r2
                  cases r4
                  rw [← r3, Nat.add_assoc])
                rw [hvlen2] at hload
                have hlies := liesAt_bytes (P := P) (e := e) hc1 (c.size / P.cellsOf e) (s.off + off) n (by rw [hc1, Nat.div_one]; omega)
                simp only [unsafeString_some, hpt, Sem.run_bind, Sem.run_pure, Result.andThen_ok, asInt, asIntOf, b1, if_false, hmax, b2, b3, b4, elemOf, run_und hpu, variablesAt, run_program, run_shape, shape_of_cells q2, hlies, if_true, hload, run_freeze, freeze_block q2 hn1]
                congr 1
                simp
            · cases hs
          · cases hs
        · cases hs
      · cases hs
    · cases hs
  · cases hs

end
end Go.Ab

/-
  THE ENGINE, 23: every operation with effects that calls nobody.
-/
namespace Go.Ab
section
variable {P : Program} {ρ ρ' : Ren} {m m' : AW} {w w' : World} {ts : Tr Value} {e : Operand → Value}

theorem callB_rel (h : Rel P ρ m w) (hf : ∀ i, m.next ≤ i → i < m'.next → ρ i = none) {b : Builtin} {t : Array TypeId} {ty : TypeId} {cs : Array Bool} {args args' : List Value} {v : Value} (hs : callB P b args t m = some (.val v m')) (ha : VsRel ρ args args') :
    Does P ρ m w (builtin b t ty cs ⟨args'⟩) v m' := by
  unfold callB at hs
  split at hs
  · split at hs
    · cases ha with
      | cons h1 ha => cases ha with
        | cons h2 ha =>
          cases ha
          exact (appendV_rel h hf hs h1 h2).does
    · cases hs
  · split at hs
    · cases ha with
      | cons h1 ha => cases ha with
        | cons h2 ha =>
          cases ha
          exact (copyV_rel h hs h1 h2).does
    · cases hs
  · split at hs
    · cases ha with
      | cons h1 ha => cases ha with
        | cons h2 ha =>
          cases ha
          exact (deleteV_rel h hs h1 h2).does
    · cases hs
  · split at hs
    · cases ha with
      | cons h1 ha => cases ha with
        | cons h2 ha =>
          cases ha
          exact (unsafeStr_rel h hs h1 h2).does
    · cases hs
  · cases hs

theorem Does.of_run {s s2 : Sem Next} {v : Value} (h : s.run P w = s2.run P w) (d : Does P ρ m w s2 v m') : Does P ρ m w s v m' := by
  obtain ⟨ρ', w', r, h1, h2⟩ := d
  exact ⟨ρ', w', r, by rw [h]; exact h1, h2⟩

/-- An operation that calls nobody. -/
def Local (o : Op) : Prop :=
  match o with
  | .call c => ∃ b, c.callee = .builtin b
  | .panic _ => False
  | _ => True

theorem opH_rel {self : Self} (hE : ERel P ρ ts e) (h : Rel P ρ m w) (hf : ∀ i, m.next ≤ i → i < m'.next → ρ i = none) {o : Oper} {v : Value} (hs : opH P self ts o.op m = some (.val v m')) (hl : Local o.op) : Does P ρ m w (execOp e o) v m' := by
  cases ho : o.op with
  | store t a x =>
    rw [ho] at hs
    simp only [opH] at hs
    split at hs
    · rename_i a2 ha
      split at hs
      · rename_i x2 hx
        obtain ⟨rfl, h2⟩ := storeV_rel h hs (hE _ _ ha) (hE _ _ hx)
        unfold execOp
        rw [ho]
        exact Does.unit h2
      · cases hs
    · cases hs
  | mapUpdate t mp k x =>
    rw [ho] at hs
    simp only [opH] at hs
    split at hs
    · rename_i mp2 k2 x2 he
      have := hE.list he
      cases this with
      | cons h1 this => cases this with
        | cons h2 this => cases this with
          | cons h3 this =>
            obtain ⟨rfl, h4⟩ := mapSet_rel h hs h1 h2 h3
            unfold execOp
            rw [ho]
            exact Does.unit h4
    · cases hs
  | insert t mp k x =>
    rw [ho] at hs
    simp only [opH] at hs
    split at hs
    · rename_i mp2 k2 x2 he
      have := hE.list he
      cases this with
      | cons h1 this => cases this with
        | cons h2 this => cases this with
          | cons h3 this =>
            obtain ⟨rfl, h4⟩ := mapSet_rel h hs h1 h2 h3
            unfold execOp
            rw [ho]
            exact Does.unit h4
    · cases hs
  | range t x =>
    rw [ho] at hs
    simp only [opH] at hs
    split at hs
    · rename_i x2 hx
      unfold execOp
      rw [ho]
      refine (rangeA_rel h (hf _ (Nat.le_refl _) ?_) hs (hE _ _ hx)).does
      unfold rangeA at hs
      split at hs
      · split at hs
        · simp only [Option.some.injEq, Rs.val.injEq] at hs
          rw [← hs.2]
          simp [AW.new]
        · cases hs
      · cases hs
    · cases hs
  | next it isStr =>
    rw [ho] at hs
    simp only [opH] at hs
    split at hs
    · rename_i x2 hx
      unfold execOp
      rw [ho]
      exact (nextA_rel h hs (hE _ _ hx)).does
    · cases hs
  | call c =>
    rw [ho] at hs hl
    obtain ⟨b, hb⟩ := hl
    simp only [opH, callH, hb] at hs
    split at hs
    · rename_i args ha
      have hcs := fun cs => callB_rel (ty := o.type) (cs := cs) h hf hs (hE.list ha)
      unfold execOp
      rw [ho]
      refine Does.of_run ?_ (hcs (c.args.map fun | .const _ => true | _ => false))
      simp only [resolve, hb, Sem.run_bind, Sem.run_pure, Result.andThen_ok, invoke]
      rw [map_arr c.args e]
      rfl
    · cases hs
  | panic x => rw [ho] at hl; exact hl.elim
  | _ => rw [ho] at hs; simp [opH] at hs

end
end Go.Ab

/-
  THE ENGINE, 24: the machine's steps in a frame that may be a round's.
-/
namespace Go.Ab

def on (b : Frame) (a : Act) (todo : List Item) : Frame := { fn := b.fn, tmps := a.tmps, todo, defers := a.defers, mode := .run, kind := b.kind, roundOf := b.roundOf }
def off (b : Frame) (a : Act) (todo : List Item) (mode : FrameMode) : Frame := { fn := b.fn, tmps := a.tmps, todo, defers := a.defers, mode, kind := b.kind, roundOf := b.roundOf }

section
variable {P : Program} {b : Frame} {a : Act} {k : List Item} {cs : List Frame} {w w' : World} {ops : Array Oper}

theorem on_eval (b : Frame) (a : Act) (todo : List Item) : (on b a todo).eval = a.eval := by
  funext x
  cases x <;> rfl

theorem on_skip : step P (lone (on b a (.code .skip :: k)) cs w) = .next (lone (on b a k) cs w) := step_lone_go (by simp [stepG, stepG.exec, on])
theorem on_label {l : Nat} : step P (lone (on b a (.code (.label l) :: k)) cs w) = .next (lone (on b a k) cs w) := step_lone_go (by simp [stepG, stepG.exec, on])
theorem on_inBlock {id : Nat} : step P (lone (on b a (.inBlock id :: k)) cs w) = .next (lone (on b a k) cs w) := step_lone_go (by simp [stepG, stepG.exec, on])
theorem on_inScope {c : Code} : step P (lone (on b a (.inScope c :: k)) cs w) = .next (lone (on b a k) cs w) := step_lone_go (by simp [stepG, stepG.exec, on])
theorem on_seq {x y : Code} : step P (lone (on b a (.code (.seq x y) :: k)) cs w) = .next (lone (on b a (.code x :: .code y :: k)) cs w) := step_lone_go (by simp [stepG, stepG.exec, on])
theorem on_cond {c : Operand} {x y : Code} {t : Bool} (h : a.eval c = .bool t) : step P (lone (on b a (.code (.cond c x y) :: k)) cs w) = .next (lone (on b a (.code (if t then x else y) :: k)) cs w) :=
  step_lone_go (by
    have := on_eval b a (.code (.cond c x y) :: k)
    simp only [on] at this
    simp [stepG, stepG.exec, on, this, h])
theorem on_block {id : Nat} {c : Code} : step P (lone (on b a (.code (.block id c) :: k)) cs w) = .next (lone (on b a (.code c :: .inBlock id :: k)) cs w) := step_lone_go (by simp [stepG, stepG.exec, on])
theorem on_loop {c : Code} : step P (lone (on b a (.code (.loop c) :: k)) cs w) = .next (lone (on b a (.code c :: .inLoop c :: k)) cs w) := step_lone_go (by simp [stepG, stepG.exec, on])
theorem on_inLoop {c : Code} : step P (lone (on b a (.inLoop c :: k)) cs w) = .next (lone (on b a (.code c :: .inLoop c :: k)) cs w) := step_lone_go (by simp [stepG, stepG.exec, on])
theorem on_scope {c : Code} : step P (lone (on b a (.code (.scope c) :: k)) cs w) = .next (lone (on b a (.code c :: .inScope c :: k)) cs w) := step_lone_go (by simp [stepG, stepG.exec, on])
theorem on_exit {id : Nat} {k' : List Item} (h : exitTo id k = some k') : step P (lone (on b a (.code (.exit id) :: k)) cs w) = .next (lone (on b a k') cs w) := step_lone_go (by simp [stepG, stepG.exec, on, h])
theorem on_goto {l : Nat} {k' : List Item} (h : gotoIn l k = some k') : step P (lone (on b a (.code (.goto l) :: k)) cs w) = .next (lone (on b a k') cs w) := step_lone_go (by simp [stepG, stepG.exec, on, h])
theorem on_ret (hr : b.roundOf = none) : step P (lone (on b a (.code .ret :: k)) cs w) = .next (lone (off b a (.code .ret :: k) .returning) cs w) := step_lone_go (by simp [stepG, stepG.exec, on, off, hr])
theorem on_end (hr : b.roundOf = none) : step P (lone (on b a []) cs w) = .next (lone (off b a [] .returning) cs w) := step_lone_go (by simp [stepG, stepG.exec, on, off, hr])
theorem on_region {id : Nat} : step P (lone (on b a (.code (.region id ops false) :: k)) cs w) = .next (lone (on b a (.inRegion ops (List.range ops.size) :: k)) cs w) := step_lone_go (by simp [stepG, stepG.exec, on])
theorem on_region_draw {id : Nat} : step P (lone (on b a (.code (.region id ops true) :: k)) cs w) =
    .next (lone (on b a (.inRegion ops (Region.schedule (P.follows .mixedOrders) ops (w.tape w.drawn (.order b.fn id))) :: k)) cs { w with drawn := w.drawn + 1 }) :=
  step_lone_go (by simp [stepG, stepG.exec, on, choose, Sem.run, Question.forced, Question.cut])
theorem on_region_end : step P (lone (on b a (.inRegion ops [] :: k)) cs w) = .next (lone (on b a k) cs w) := step_lone_go (by simp [stepG, stepG.exec, on])

theorem on_finish (i : Nat) (rest : List Nat) (v : Value) : (on b a (.inRegion ops (i :: rest) :: k)).finish v = on b (a.put ((ops[i]?).bind (·.dst)) v) (.inRegion ops rest :: k) := by
  cases h : (ops[i]?).bind (·.dst) <;> simp [Frame.finish, on, Act.put, h]

theorem on_op_skip {i : Nat} {rest : List Nat} (h : ((ops[i]?).map (Region.wanted · (yielded ops a.tmps))).getD false = false) :
    step P (lone (on b a (.inRegion ops (i :: rest) :: k)) cs w) = .next (lone (on b (a.put ((ops[i]?).bind (·.dst)) undef) (.inRegion ops rest :: k)) cs w) := by
  rw [← on_finish]
  exact step_lone_go (by
    have h' := h
    simp only [on] at *
    simp [stepG, stepG.exec, h'])

def NoDefer (o : Op) : Prop := ∀ c, o ≠ .defer c

theorem on_op {i : Nat} {rest : List Nat} {o : Oper} (ho : ops[i]? = some o) (hw : Region.wanted o (yielded ops a.tmps) = true) (hd : NoDefer o.op) :
    stepG P true { frame := on b a (.inRegion ops (i :: rest) :: k), callers := cs, status := .running, dying := none } w = stepG.apply P true (on b a (.inRegion ops (i :: rest) :: k)) cs none (execOp a.eval o) w := by
  have he := on_eval b a (.inRegion ops (i :: rest) :: k)
  simp only [on] at he
  simp only [stepG, stepG.exec, stepG.oper, Frame.oper?, on, ho, hw, he, Option.map_some, Option.getD_some, if_true]
  split
  · rename_i hc
    exact absurd hc (hd _)
  · rfl

theorem op_value {i : Nat} {rest : List Nat} {o : Oper} {v : Value} (ho : ops[i]? = some o) (hw : Region.wanted o (yielded ops a.tmps) = true) (hd : NoDefer o.op) (hr : (execOp a.eval o).run P w = .ok (.value v) w') :
    step P (lone (on b a (.inRegion ops (i :: rest) :: k)) cs w) = .next (lone (on b (a.put o.dst v) (.inRegion ops rest :: k)) cs w') := by
  have hf := on_finish (b := b) (a := a) (k := k) (ops := ops) i rest v
  rw [ho] at hf
  simp only [Option.bind_some] at hf
  rw [← hf]
  refine step_lone_go ?_
  rw [on_op ho hw hd]
  simp [stepG.apply, hr]

theorem op_skip {i : Nat} {rest : List Nat} {o : Oper} (ho : ops[i]? = some o) (hw : Region.wanted o (yielded ops a.tmps) = true) (hd : NoDefer o.op) (hr : (execOp a.eval o).run P w = .ok .skip w') :
    step P (lone (on b a (.inRegion ops (i :: rest) :: k)) cs w) = .next (lone (on b (a.put o.dst undef) (.inRegion ops rest :: k)) cs w') := by
  have hf := on_finish (b := b) (a := a) (k := k) (ops := ops) i rest undef
  rw [ho] at hf
  simp only [Option.bind_some] at hf
  rw [← hf]
  refine step_lone_go ?_
  rw [on_op ho hw hd]
  simp [stepG.apply, hr]

theorem op_enter {i : Nat} {rest : List Nat} {o : Oper} {f : FuncId} {args : Array Value} (ho : ops[i]? = some o) (hw : Region.wanted o (yielded ops a.tmps) = true) (hd : NoDefer o.op) (hr : (execOp a.eval o).run P w = .ok (.enter f args) w') :
    step P (lone (on b a (.inRegion ops (i :: rest) :: k)) cs w) = .next (lone (Frame.enter P f args .normal) (on b a (.inRegion ops (i :: rest) :: k) :: cs) w') := by
  refine step_lone_go ?_
  rw [on_op ho hw hd]
  simp [stepG.apply, hr, on]

theorem op_round {i : Nat} {rest : List Nat} {o : Oper} {l : Nat} {f : FuncId} {tmps : Array Value} {x y : Code} (ho : ops[i]? = some o) (hw : Region.wanted o (yielded ops a.tmps) = true) (hd : NoDefer o.op) (hr : (execOp a.eval o).run P w = .ok (.round l f tmps x y) w') :
    step P (lone (on b a (.inRegion ops (i :: rest) :: k)) cs w) = .next (lone (Frame.round l f tmps x y .normal) (on b a (.inRegion ops (i :: rest) :: k) :: cs) w') := by
  refine step_lone_go ?_
  rw [on_op ho hw hd]
  simp [stepG.apply, hr, on]

theorem op_panic {i : Nat} {rest : List Nat} {o : Oper} {v : Value} (ho : ops[i]? = some o) (hw : Region.wanted o (yielded ops a.tmps) = true) (hd : NoDefer o.op) (hr : (execOp a.eval o).run P w = .halt (.panic v) w') :
    step P (lone (on b a (.inRegion ops (i :: rest) :: k)) cs w) = .next (lone (off b a (.inRegion ops (i :: rest) :: k) (.panicking [{ v := v, recovered := false }])) cs w') := by
  refine step_lone_go ?_
  rw [on_op ho hw hd]
  simp [stepG.apply, hr, on, off, Frame.raise]

end
end Go.Ab

/-
  THE ENGINE, 25: what a run leaves alone in the abstract memory.
-/
namespace Go.Ab

structure Mono (m m' : AW) : Prop where
  next : m.next ≤ m'.next
  lo : m'.lo = m.lo
  log : ∀ b, b ∈ m.log → b ∈ m'.log
  same : m.lo ≤ m.next → ∀ b, b < m.lo → b ∉ m'.log → m'.heap.get b = m.heap.get b

theorem Mono.refl (m : AW) : Mono m m := ⟨Nat.le_refl _, rfl, fun _ h => h, fun _ _ _ _ => rfl⟩

theorem Mono.trans {a b c : AW} (h : Mono a b) (k : Mono b c) : Mono a c where
  next := Nat.le_trans h.next k.next
  lo := k.lo.trans h.lo
  log := fun x hx => k.log x (h.log x hx)
  same := fun hl x hx hn => by
    have h1 := h.next
    rw [k.same (by rw [h.lo]; omega) x (by rw [h.lo]; exact hx) hn, h.same hl x hx fun hb => hn (k.log x hb)]

theorem Mono.set (m : AW) (c : Nat) (o : Option AObj) : Mono m (m.set c o) where
  next := Nat.le_refl _
  lo := rfl
  log := fun b hb => by
    simp only [AW.set]
    cases Nat.blt c m.lo
    · exact hb
    · exact List.mem_cons_of_mem _ hb
  same := fun _ b hb hn => by
    simp only [AW.set] at hn ⊢
    rw [Tr.get_set]
    split
    · rename_i e
      subst e
      have : Nat.blt b m.lo = true := by rw [nblt]; simpa using hb
      rw [this] at hn
      exact absurd (List.mem_cons_self) hn
    · rfl

theorem Mono.new (m : AW) (o : AObj) : Mono m (m.new o) where
  next := by simp [AW.new]
  lo := rfl
  log := fun _ h => h
  same := fun hl b hb _ => by
    simp only [AW.new, Tr.get_set]
    rw [if_neg (by omega)]

theorem Mono.kill (m : AW) (y : Option Nat) : Mono m (Ab.kill m y) := by
  cases y with
  | none => exact .refl _
  | some y => exact .set _ _ _

def Rs.m : Rs → AW
  | .val _ m => m
  | .pan _ m => m

variable {P : Program} {m m' : AW}

theorem storeA_mono {b off : Nat} {vs : List Value} (h : storeA m b off vs = some m') : Mono m m' := by
  unfold storeA at h
  split at h
  · cases h; exact .refl _
  · split at h
    · obtain ⟨_, h⟩ := bif_some h
      cases h
      exact (Mono.kill _ _).trans (.set _ _ _)
    · cases h

theorem appendA_mono {e : TypeId} {s v : Value} {n : Nat} {vs : List Value} (h : appendA P e m s n vs = some (v, m')) : Mono m m' := by
  unfold appendA at h
  split at h
  · split at h
    · obtain ⟨_, h⟩ := bif_some h
      cases h
      exact .refl _
    · cases h
  · split at h
    · generalize hc : (!(_ && _)) = c at h
      cases c with
      | true => simp at h
      | false =>
        simp only [cond_false] at h
        split at h
        · obtain ⟨_, h⟩ := bif_some h
          cases h
          exact .new _ _
        · rename_i b off
          cases hb : Nat.blt _ big with
          | true =>
            rw [hb] at h
            simp only [cond_true] at h
            cases hl : Nat.ble _ _ with
            | true =>
              rw [hl] at h
              simp only [cond_true] at h
              obtain ⟨m2, h2, h⟩ := Option.map_eq_some_iff.1 h
              cases h
              exact storeA_mono h2
            | false =>
              rw [hl] at h
              simp only [cond_false] at h
              split at h
              · obtain ⟨m2, h2, h⟩ := Option.map_eq_some_iff.1 h
                cases h
                exact .new _ _
              · obtain ⟨_, h⟩ := bif_some h
                cases h
                exact .new _ _
          | false =>
            rw [hb] at h
            simp only [cond_false] at h
            split at h
            · obtain ⟨_, h⟩ := bif_some h
              cases h
              exact ((Mono.kill _ _).trans (Mono.set _ _ _)).trans (Mono.new _ _)
            · cases h
        · cases h
    · cases h
  · cases h

theorem valM_mono {v : Value} {x : Option AW} {r : Rs} (h : valM v x = some r) (hx : ∀ m2, x = some m2 → Mono m m2) : Mono m r.m := by
  unfold valM at h
  split at h
  · cases h
    exact hx _ rfl
  · cases h

theorem valP_mono {x : Option (Value × AW)} {r : Rs} (h : valP x = some r) (hx : ∀ v m2, x = some (v, m2) → Mono m m2) : Mono m r.m := by
  unfold valP at h
  split at h
  · cases h
    exact hx _ _ rfl
  · cases h

theorem storeV_mono {t : TypeId} {a x : Value} {r : Rs} (h : storeV P t a x m = some r) : Mono m r.m := by
  unfold storeV at h
  split at h
  · split at h
    · obtain ⟨_, h⟩ := bif_some h
      exact valM_mono h fun _ => storeA_mono
    · cases h
  · cases h

theorem mapSet_mono {t : TypeId} {mp k x : Value} {r : Rs} (h : mapSet P t mp k x m = some r) : Mono m r.m := by
  unfold mapSet at h
  split at h
  · split at h
    · obtain ⟨_, h⟩ := bif_some h
      split at h
      · split at h
        · cases h
          exact .set _ _ _
        · cases h
      · cases h
    · cases h
  · cases h

theorem rangeA_mono {t : TypeId} {x : Value} {r : Rs} (h : rangeA P t x m = some r) : Mono m r.m := by
  unfold rangeA at h
  split at h
  · split at h
    · cases h
      exact .new _ _
    · cases h
  · cases h

theorem nextA_mono {x : Value} {b : Bool} {r : Rs} (h : nextA x b m = some r) : Mono m r.m := by
  unfold nextA at h
  split at h
  · split at h
    · obtain ⟨_, h⟩ := bif_some h
      generalize Nat.blt _ _ = c at h
      cases c with
      | true => cases h; exact .set _ _ _
      | false => cases h; exact .refl _
    · cases h
  · cases h

theorem appendV_mono {t xt : Option TypeId} {s x : Value} {r : Rs} (h : appendV P t xt s x m = some r) : Mono m r.m := by
  unfold appendV at h
  split at h
  · split at h
    · split at h
      · split at h
        · obtain ⟨_, h⟩ := bif_some h
          split at h
          · exact valP_mono h fun _ _ => appendA_mono
          · cases h
        · cases h
      · split at h
        · split at h
          · exact valP_mono h fun _ _ => appendA_mono
          · cases h
        · cases h
      · cases h
    · cases h
  · cases h

theorem copyV_mono {t : Option TypeId} {d x : Value} {r : Rs} (h : copyV P t d x m = some r) : Mono m r.m := by
  unfold copyV at h
  split at h
  · split at h
    · split at h
      · split at h
        · split at h
          · split at h
            · obtain ⟨_, h⟩ := bif_some h
              cases h
              exact .refl _
            · exact valM_mono h fun _ => storeA_mono
            · cases h
          · cases h
        · cases h
      · cases h
    · cases h
  · cases h

theorem deleteV_mono {t : Option TypeId} {mp k : Value} {r : Rs} (h : deleteV P t mp k m = some r) : Mono m r.m := by
  unfold deleteV at h
  split at h
  · obtain ⟨_, h⟩ := bif_some h
    split at h
    · cases h
      exact .refl _
    · split at h
      · split at h
        · cases h
          exact .set _ _ _
        · cases h
          exact .refl _
        · cases h
      · cases h
    · cases h
  · cases h

theorem unsafeStr_mono {t : Option TypeId} {p n : Value} {r : Rs} (h : unsafeStr P t p n m = some r) : Mono m r.m := by
  unfold unsafeStr at h
  split at h
  · split at h
    · obtain ⟨_, h⟩ := bif_some h
      cases h
      exact .refl _
    · cases h
  · split at h
    · split at h
      · split at h
        · split at h
          · split at h
            · obtain ⟨_, h⟩ := bif_some h
              cases h
              exact (Mono.kill _ _).trans (Mono.set _ _ _)
            · cases h
          · cases h
        · cases h
      · cases h
    · cases h
  · cases h

theorem callB_mono {b : Builtin} {args : List Value} {t : Array TypeId} {r : Rs} (h : callB P b args t m = some r) : Mono m r.m := by
  unfold callB at h
  split at h
  · split at h
    · exact appendV_mono h
    · cases h
  · split at h
    · exact copyV_mono h
    · cases h
  · split at h
    · exact deleteV_mono h
    · cases h
  · split at h
    · exact unsafeStr_mono h
    · cases h
  · cases h

section
variable {self : Self} (hM : ∀ fr t m out, self fr t m = some out → Mono m out.m)
include hM

theorem callA_mono {f : FuncId} {args : List Value} {r : Rs} (h : callA self f args m = some r) : Mono m r.m := by
  unfold callA at h
  split at h
  · rename_i heq
    cases h
    exact hM _ _ _ _ heq
  · rename_i heq
    cases h
    exact hM _ _ _ _ heq
  · cases h

theorem callV_mono {f : Value} {args : List Value} {r : Rs} (h : callV self f args m = some r) : Mono m r.m := by
  unfold callV at h
  split at h
  · exact callA_mono hM h
  · split at h
    · rename_i heq
      cases h
      exact hM _ _ _ _ heq
    · rename_i heq
      cases h
      exact hM _ _ _ _ heq
    · cases h
  · cases h

theorem opH_mono {ts : Tr Value} {o : Op} {r : Rs} (h : opH P self ts o m = some r) : Mono m r.m := by
  unfold opH at h
  split at h
  · split at h
    · split at h
      · exact storeV_mono h
      · cases h
    · cases h
  · split at h
    · exact mapSet_mono h
    · cases h
  · split at h
    · exact mapSet_mono h
    · cases h
  · split at h
    · exact rangeA_mono h
    · cases h
  · split at h
    · exact nextA_mono h
    · cases h
  · unfold callH at h
    split at h
    · split at h
      · exact callB_mono h
      · split at h
        · exact callV_mono hM h
        · cases h
      · cases h
    · cases h
  · unfold panicV at h
    split at h
    · cases h
      exact .refl _
    · cases h
  · cases h

theorem doOp_mono {ts : Tr Value} {o : Op} {r : Rs} (h : doOp P self ts o m = some r) : Mono m r.m := by
  unfold doOp at h
  split at h
  · unfold doP at h
    split at h
    · cases h; exact .refl _
    · cases h
  · unfold doL at h
    split at h
    · cases h; exact .refl _
    · split at h
      · cases h; exact .refl _
      · cases h
    · cases h
  · unfold doA at h
    split at h
    · cases h; exact .new _ _
    · cases h
  · exact opH_mono hM h

theorem iops_mono {n : Nat} {ops : Array Oper} : ∀ (l : List Oper) (ts : Tr Value) (m : AW) (out : Out), iops P self n ops l ts m = some out → Mono m out.m
  | [], ts, m, out, h => by
    simp only [iops, Option.some.injEq] at h
    subst h
    exact .refl _
  | o :: l, ts, m, out, h => by
    unfold iops at h
    generalize wantedA ops ts o = c at h
    cases c with
    | true =>
      simp only [cond_true] at h
      split at h
      · rename_i heq
        exact (doOp_mono hM heq).trans (iops_mono l _ _ _ h)
      · rename_i heq
        cases h
        exact doOp_mono hM heq
      · cases h
    | false => exact iops_mono l _ _ _ h

theorem mem_below {lo b : Nat} : ∀ {l : List Nat}, b ∈ l → b < lo → b ∈ below lo l
  | x :: l, h, hb => by
    have _ := hM
    unfold below
    cases h with
    | head =>
      have : Nat.blt b lo = true := by rw [nblt]; simpa using hb
      rw [this]
      exact List.mem_cons_self
    | tail _ h =>
      have := mem_below h hb
      cases Nat.blt x lo
      · exact this
      · exact List.mem_cons_of_mem _ this

/-- An operation whose writes are listed apart. -/
theorem apart_mono {m m' : AW} {base lo : Nat} (h : Mono ⟨m.heap, m.next, base, []⟩ m') (hlo : m.lo = lo) (h1 : lo ≤ base) (h2 : base ≤ m.next) : Mono m ⟨m'.heap, m'.next, lo, below lo m'.log ++ m.log⟩ where
  next := h.next
  lo := hlo.symm
  log := fun b hb => List.mem_append_right _ hb
  same := fun _ b hb hn => by
    refine h.same h2 b (by show b < base; omega) fun hm => hn (List.mem_append_left _ ?_)
    rw [hlo] at hb
    exact mem_below (self := self) hM hm hb

theorem dops_mono {n : Nat} {ops : Array Oper} {base lo : Nat} (hb : lo ≤ base) : ∀ (l : List (Oper × Info)) (rs : List (Nat × Nat)) (ws : List (Nat × List Nat)) (ts : Tr Value) (m : AW) (out : Out), m.lo = lo → base ≤ m.next → dops P self n ops base lo l rs ws ts m = some out → Mono m out.m
  | [], rs, ws, ts, m, out, _, _, h => by
    simp only [dops, Option.some.injEq] at h
    subst h
    exact .refl _
  | (o, i) :: l, rs, ws, ts, m, out, hlo, hn, h => by
    unfold dops at h
    generalize wantedA ops ts o = c at h
    cases c with
    | true =>
      simp only [cond_true] at h
      split at h
      · split at h
        · exact dops_mono hb l _ _ _ _ _ hlo hn h
        · obtain ⟨_, h⟩ := bif_some h
          split at h
          · exact dops_mono hb l _ _ _ _ _ hlo hn h
          · cases h
        · cases h
      · obtain ⟨_, h⟩ := bif_some h
        split at h
        · rename_i v m2 heq
          obtain ⟨_, h⟩ := bif_some h
          have h1 := apart_mono hM (doOp_mono hM heq) hlo hb hn
          exact h1.trans (dops_mono hb l _ _ _ _ _ rfl (Nat.le_trans hn h1.next) h)
        · cases h
      · split at h
        · rename_i v m2 heq
          have h1 := doOp_mono hM heq
          exact h1.trans (dops_mono hb l _ _ _ _ _ (h1.lo.trans hlo) (Nat.le_trans hn h1.next) h)
        · cases h
    | false => exact dops_mono hb l _ _ _ _ _ hlo hn h

end
end Go.Ab

/-
  THE ENGINE, 26: what a run leaves alone in the abstract memory: whole runs.
-/
namespace Go.Ab
variable {P : Program}

section
variable {self : Self} (hM : ∀ fr t m out, self fr t m = some out → Mono m out.m)
include hM

theorem stScope_mono {fr : AFr} {body rest : Code} {m : AW} {out : Out} (h : stScope self fr body rest m = some out) : Mono m out.m := by
  unfold stScope at h
  split at h
  · rename_i heq
    have h1 := hM _ _ _ _ heq
    split at h
    · exact h1.trans (hM _ _ _ _ h)
    · cases h
      exact h1
  · exact hM _ _ _ _ h

theorem setLoop_mono {m m' : AW} {l : Nat} {st : LoopState} {p : Option Code} (h : setLoop m l st p = some m') : Mono m m' := by
  have _ := hM
  unfold setLoop at h
  split at h
  · cases h
    exact .set _ _ _
  · cases h

omit hM in
theorem outOf_mono {m : AW} {v : Value} {x : Option AW} {out : Out} (h : outOf v x = some out) (hx : ∀ m2, x = some m2 → Mono m m2) : Mono m out.m := by
  unfold outOf at h
  split at h
  · cases h
    exact hx _ rfl
  · cases h

omit hM in
theorem panOf_mono {m : AW} {fn : FuncId} {v : Value} {out : Out} (h : panOf P fn v m = some out) : m = out.m := by
  unfold panOf at h
  obtain ⟨_, h⟩ := bif_some h
  cases h
  rfl

theorem endRound_mono {m : AW} {fn : FuncId} {l : Nat} {r : Option Out} {out : Out} (h : endRound P fn l r = some out) (hr : ∀ o, r = some o → Mono m o.m) : Mono m out.m := by
  unfold endRound at h
  split at h
  · exact outOf_mono h fun _ hs => (hr _ rfl).trans (setLoop_mono hM hs)
  · exact outOf_mono h fun _ hs => (hr _ rfl).trans (setLoop_mono hM hs)
  · exact outOf_mono h fun _ hs => (hr _ rfl).trans (setLoop_mono hM hs)
  · have h1 := hr _ rfl
    rw [← panOf_mono h]
    exact h1
  · cases h

theorem stYield_mono {l : Nat} {args : List Value} {m : AW} {out : Out} (h : stYield P self l args m = some out) : Mono m out.m := by
  unfold stYield at h
  split at h
  · obtain ⟨_, h⟩ := bif_some h
    split at h
    · rename_i heq
      have h1 := hM _ _ _ _ heq
      unfold stBody at h
      split at h
      · exact endRound_mono hM h fun _ ho => (h1.trans (.set _ _ _)).trans (hM _ _ _ _ ho)
      · cases h
    · rename_i heq
      have h1 := hM _ _ _ _ heq
      rw [← panOf_mono h]
      exact h1
    · cases h
  · cases h

theorem retFn_mono {fn : Func} {ts : Tr Value} {m : AW} {out : Out} (h : retFn P fn ts m = some out) : Mono m out.m := by
  have _ := hM
  unfold retFn at h
  split at h
  · cases h
    exact .refl _
  · cases h

theorem stFn_mono {f : FuncId} {args : List Value} {m : AW} {out : Out} (h : stFn P self f args m = some out) : Mono m out.m := by
  unfold stFn at h
  split at h
  · cases h
  · split at h
    · split at h
      · cases h
        exact .refl _
      · cases h
    · obtain ⟨_, h⟩ := bif_some h
      split at h
      · rename_i heq
        exact (hM _ _ _ _ heq).trans (retFn_mono hM h)
      · rename_i heq
        exact (hM _ _ _ _ heq).trans (retFn_mono hM h)
      · rename_i heq
        have h1 := hM _ _ _ _ heq
        cases h
        exact h1
      · cases h

theorem endRF_mono {fr : AFr} {l : Nat} {m : AW} {out : Out} (h : endRF fr l m = some out) : Mono m out.m := by
  have _ := hM
  unfold endRF at h
  split at h
  · split at h
    · cases h
    · split at h
      · cases h; exact .set _ _ _
      · cases h; exact .set _ _ _
      · cases h; exact .set _ _ _
      · cases h
  · cases h

theorem beginRF_mono {fr : AFr} {ps : List Tmp} {as bo : Code} {m m2 : AW} {l : Nat} (h : beginRF fr ps as bo m = some (l, m2)) : Mono m m2 := by
  have _ := hM
  unfold beginRF at h
  split at h
  · split at h
    · cases h
      exact .new _ _
    · cases h
  · cases h
    exact (Mono.new _ _).trans (Mono.new _ _)

theorem stCode_mono {fr : AFr} {c : Code} {m : AW} {out : Out} (h : stCode P self fr c m = some out) : Mono m out.m := by
  unfold stCode at h
  split at h
  · cases h; exact .refl _
  · cases h; exact .refl _
  · unfold stSeq at h
    split at h
    · rename_i heq
      exact (hM _ _ _ _ heq).trans (hM _ _ _ _ h)
    · exact hM _ _ _ _ h
  · unfold stCond at h
    split at h
    · exact hM _ _ _ _ h
    · exact hM _ _ _ _ h
    · cases h
  · unfold stBlock at h
    split at h
    · rename_i heq
      have h1 := hM _ _ _ _ heq
      generalize Nat.beq _ _ = c at h
      cases c with
      | true => cases h; exact h1
      | false => cases h; exact h1
    · exact hM _ _ _ _ h
  · unfold stLoop at h
    split at h
    · rename_i heq
      exact (hM _ _ _ _ heq).trans (hM _ _ _ _ h)
    · exact hM _ _ _ _ h
  · cases h; exact .refl _
  · cases h; exact .refl _
  · cases h; exact .refl _
  · exact hM _ _ _ _ h
  · rename_i draw
    cases draw with
    | true =>
      simp only [cond_true] at h
      unfold drawA at h
      obtain ⟨hb, h⟩ := bif_some h
      simp only [nble, Bool.and_eq_true, decide_eq_true_eq] at hb
      have hb := hb.1
      exact dops_mono hM hb _ _ _ _ _ _ rfl (Nat.le_refl _) h
    | false => exact iops_mono hM _ _ _ _ h
  · unfold stRF at h
    split at h
    · split at h
      · rename_i heq
        have h1 := beginRF_mono hM heq
        split at h
        · rename_i heq2
          exact (h1.trans (hM _ _ _ _ heq2)).trans (endRF_mono hM h)
        · rename_i heq2
          have h2 := hM _ _ _ _ heq2
          cases h
          exact h1.trans h2
        · cases h
      · cases h
    · cases h
  · cases h

theorem istep_mono {fr : AFr} {t : Task} {m : AW} {out : Out} (h : istep P self fr t m = some out) : Mono m out.m := by
  unfold istep at h
  split at h
  · exact stCode_mono hM h
  · exact stScope_mono hM h
  · exact stFn_mono hM h
  · exact stYield_mono hM h
end

theorem irun_mono : ∀ (k : Nat) (fr : AFr) (t : Task) (m : AW) (out : Out), irun P k fr t m = some out → Mono m out.m
  | 0, _, _, _, _, h => by simp [irun] at h
  | k + 1, fr, t, m, out, h => istep_mono (fun fr t m out => irun_mono k fr t m out) h

end Go.Ab

/-
  THE ENGINE, 27: what it is that a run is followed by the machine.
-/
namespace Go.Ab
section
variable {P : Program} {ρ ρ' : Ren} {m m' : AW} {w w' : World} {ts : Tr Value}

def Fresh (ρ : Ren) (m m' : AW) : Prop := ∀ i, m.next ≤ i → i < m'.next → ρ i = none

def mark1 (B : Nat) : Deferred := { target := .collected B, args := #[] }

/-- The deferred calls that a frame has: none, in the blocks of its loops over functions. -/
def Defs (ρ : Ren) (n0 : Nat) (m : AW) (w : World) (ds : List Deferred) : Prop :=
  ∃ Bs : List Nat, ds = Bs.map mark1 ∧ Bs.Nodup ∧ ∀ B ∈ Bs, n0 ≤ B ∧ B < w.heap.size ∧ w.heap[B]? = some (.deferred (some [])) ∧ ¬ Own ρ m B

theorem Defs.grow {n0 : Nat} {ds : List Deferred} (h : Defs ρ n0 m w ds) (g : Grow ρ ρ' m m' w w') : Defs ρ' n0 m' w' ds := by
  obtain ⟨Bs, h1, h2, h3⟩ := h
  refine ⟨Bs, h1, h2, fun B hB => ?_⟩
  obtain ⟨q1, q2, q3, q4⟩ := h3 B hB
  refine ⟨q1, Nat.lt_of_lt_of_le q2 g.size, by rw [g.keep B q2 q4]; exact q3, fun ho => ?_⟩
  rcases g.own B ho with h5 | h5
  · exact q4 h5
  · omega

structure FOk (ρ : Ren) (n0 : Nat) (fr : AFr) (b : Frame) (a : Act) (m : AW) (w : World) : Prop where
  fn : b.fn = fr.fn
  tmps : TsRel ρ fr.n fr.ts a.tmps
  round : (∃ l s, fr.round = some l ∧ ρ l = some s ∧ b.roundOf = some s.blk ∧ a.defers = []) ∨ (fr.round = none ∧ b.roundOf = none ∧ Defs ρ n0 m w a.defers)

theorem FOk.grow {n0 : Nat} {fr : AFr} {b : Frame} {a a' : Act} {ts : Tr Value} (h : FOk ρ n0 fr b a m w) (g : Grow ρ ρ' m m' w w') (hd : a'.defers = a.defers) (ht : TsRel ρ' fr.n ts a'.tmps) : FOk ρ' n0 (fr.with ts) b a' m' w' where
  fn := h.fn
  tmps := ht
  round := by
    rcases h.round with ⟨l, s, h1, h2, h3, h4⟩ | ⟨h1, h2, h3⟩
    · exact .inl ⟨l, s, h1, g.le _ _ h2, h3, by rw [hd]; exact h4⟩
    · exact .inr ⟨h1, h2, by rw [hd]; exact h3.grow g⟩

/-- Where a piece of code has ended. -/
def Ends (ρ : Ren) (b : Frame) (a : Act) (k : List Item) (ex : Ex) (f : Frame) : Prop :=
  match ex with
  | .normal => f = on b a k
  | .exit id => ∃ k', f = on b a (.code (.exit id) :: k') ∧ exitTo id k' = exitTo id k
  | .goto l => ∃ k', f = on b a (.code (.goto l) :: k') ∧ gotoIn l k' = gotoIn l k
  | .ret => ∃ k', f = on b a (.code .ret :: k')
  | .panic v => ∃ k' v', f = off b a k' (.panicking [{ v := v', recovered := false }]) ∧ VRel ρ v v'

def Starts (c : Code) (k todo : List Item) : Prop := todo = .code c :: k ∨ ∃ body, c = .loop body ∧ todo = .inLoop body :: k

/-- A piece of code run from a list of things to do. -/
def Follows (P : Program) (fr : AFr) (m : AW) (out : Out) (start : List Item → List Item → Prop) : Prop :=
  ∀ (ρ : Ren) (w : World) (b : Frame) (a : Act) (n0 : Nat) (k : List Item) (cs : List Frame) (todo : List Item), Rel P ρ m w → Fresh ρ m out.m → FOk ρ n0 fr b a m w → n0 ≤ w.heap.size → start k todo →
    ∃ ρ' w' a' f, Steps P (lone (on b a todo) cs w) (lone f cs w') ∧ Ends ρ' b a' k out.ex f ∧ Rel P ρ' out.m w' ∧ Grow ρ ρ' m out.m w w' ∧ FOk ρ' n0 (fr.with out.ts) b a' out.m w'

def FollowsFn (P : Program) (f : FuncId) (args : List Value) (m : AW) (out : Out) : Prop :=
  ∀ (ρ : Ren) (w : World) (args' : List Value) (cs : List Frame), Rel P ρ m w → Fresh ρ m out.m → VsRel ρ args args' →
    ∃ ρ' w', Rel P ρ' out.m w' ∧ Grow ρ ρ' m out.m w w' ∧
      ((∃ v', out.ex = .ret ∧ VRel ρ' out.v v' ∧ (callFunc f ⟨args'⟩).run P w = .ok (.value v') w') ∨
       ((callFunc f ⟨args'⟩).run P w = .ok (.enter f ⟨args'⟩) w ∧ ∃ fr, fr.fn = f ∧ Steps P (lone (Frame.enter P f ⟨args'⟩ .normal) cs w) (lone fr cs w') ∧
         ((∃ v', out.ex = .ret ∧ VRel ρ' out.v v' ∧ fr.leaving P w' (.returned v')) ∨ (∃ v v', out.ex = .panic v ∧ VRel ρ' v v' ∧ fr.leaving P w' (.panicked [{ v := v', recovered := false }])))))

def FollowsYield (P : Program) (l : Nat) (args : List Value) (m : AW) (out : Out) : Prop :=
  ∀ (ρ : Ren) (w : World) (args' : List Value) (c : Frame) (cs : List Frame) (s : Spot), Rel P ρ m w → Fresh ρ m out.m → VsRel ρ args args' → ρ l = some s →
    ∃ ρ' w' f tmps x y, (Instr.yield s.blk ⟨args'⟩).run P w = .ok (.round s.blk f tmps x y) w ∧ Rel P ρ' out.m w' ∧ Grow ρ ρ' m out.m w w' ∧
      ((∃ v', out.ex = .ret ∧ VRel ρ' out.v v' ∧ Steps P (lone (Frame.round s.blk f tmps x y .normal) (c :: cs) w) (lone (c.finish v') cs w')) ∨
       (∃ v v', out.ex = .panic v ∧ VRel ρ' v v' ∧ Steps P (lone (Frame.round s.blk f tmps x y .normal) (c :: cs) w) (lone (c.raise [{ v := v', recovered := false }]) cs w')))

def Sound (P : Program) (fr : AFr) (t : Task) (m : AW) (out : Out) : Prop :=
  match t with
  | .code c => Follows P fr m out (Starts c)
  | .scope body rest => Follows P fr m out fun k todo => todo = .code rest :: .inScope body :: k
  | .fn f args => FollowsFn P f args m out
  | .yield l args => FollowsYield P l args m out

/-! ### Temporaries -/

theorem TsRel.put {n : Nat} {a : Act} {v v' : Value} (h : TsRel ρ n ts a.tmps) (hv : VRel ρ v v') (d : Option Tmp) : TsRel ρ n (Ab.put n ts d v) (a.put d v').tmps := by
  cases d with
  | none => exact h
  | some d =>
    obtain ⟨h1, h2⟩ := h
    refine ⟨by simp [Act.put, h1], fun t => ?_⟩
    simp only [Ab.put, Act.put]
    by_cases hd : d < n
    · have : Nat.blt d n = true := by rw [nblt]; simpa using hd
      rw [this]
      simp only [cond_true, Tr.get_set]
      by_cases ht : t = d
      · subst ht
        simp only [if_true, Option.getD_some]
        rw [Array.getD_eq_getD_getElem?, Array.getElem?_setIfInBounds_self_of_lt (by rw [h1]; exact hd)]
        exact hv
      · rw [if_neg ht, Array.getD_eq_getD_getElem?, Array.getElem?_setIfInBounds_ne (fun e => ht e.symm), ← Array.getD_eq_getD_getElem?]
        exact h2 t
    · have : Nat.blt d n = false := by rw [nblt]; simpa using hd
      rw [this]
      simp only [cond_false]
      rw [Array.setIfInBounds_eq_of_size_le (by rw [h1]; exact Nat.le_of_not_lt hd)]
      exact h2 t

theorem Act.put_defers' (a : Act) (d : Option Tmp) (v : Value) : (a.put d v).defers = a.defers := by cases d <;> rfl

theorem erel_of {n : Nat} {a : Act} (h : TsRel ρ n ts a.tmps) (hg : ∀ g, g < P.globals.size → ∃ c, ρ g = some ⟨g, 0, c⟩) : ERel P ρ ts a.eval := by
  intro x v hx
  cases x with
  | tmp t =>
    simp only [ev, Option.some.injEq] at hx
    subst hx
    exact h.2 t
  | const c =>
    simp only [ev] at hx
    obtain ⟨hgr, hx⟩ := bif_some hx
    cases hx
    exact ground_rel ρ _ hgr
  | global g =>
    simp only [ev] at hx
    obtain ⟨hlt, hx⟩ := bif_some hx
    simp only [nblt, decide_eq_true_eq] at hlt
    cases hx
    obtain ⟨c, hc⟩ := hg g hlt
    exact .ptr hc
  | func f =>
    simp only [ev, Option.some.injEq] at hx
    subst hx
    exact .func .nil .nil

theorem bool_rel {v v' : Value} (h : VRel ρ v v') (b : Bool) : v = .bool b ↔ v' = .bool b := by
  cases h <;> simp

theorem wanted_rel {n : Nat} {a : Act} (h : TsRel ρ n ts a.tmps) (ops : Array Oper) (o : Oper) : wantedA ops ts o = Region.wanted o (yielded ops a.tmps) := by
  unfold wantedA Region.wanted
  cases o.guard with
  | none => rfl
  | some jw =>
    obtain ⟨j, want⟩ := jw
    simp only [yielded]
    cases hd : (ops[j]?).bind (·.dst) with
    | none => simp
    | some t =>
      simp only [Option.bind_some]
      have h2 := h.2 t
      rw [Array.getD_eq_getD_getElem?] at h2
      cases hx : ts.get t with
      | none =>
        rw [hx] at h2
        cases hy : a.tmps[t]? with
        | none => simp
        | some y =>
          rw [hy] at h2
          simp only [Option.getD_none, Option.getD_some] at h2
          unfold undef at h2
          generalize (#[] : Array Value) = z at h2
          cases h2
          simp
      | some x =>
        rw [hx] at h2
        simp only [Option.getD_some] at h2
        cases hy : a.tmps[t]? with
        | none =>
          rw [hy] at h2
          simp only [Option.getD_none] at h2
          unfold undef at h2
          generalize (#[] : Array Value) = z at h2
          cases h2
          simp
        | some y =>
          rw [hy] at h2
          simp only [Option.getD_some] at h2
          cases h2 <;> simp

end
end Go.Ab

/-
  THE ENGINE, 28: one operation, followed by the machine.
-/
namespace Go.Ab
section
variable {P : Program} {ρ ρ' : Ren} {m m' : AW} {w w' : World} {ts : Tr Value} {self : Self}

theorem doOp_nodefer {o : Op} {r : Rs} (h : doOp P self ts o m = some r) : NoDefer o := by
  rintro c rfl
  simp [doOp, cls, opH] at h

theorem valM_val {v : Value} {x : Option AW} {u : Value} (h : valM v x = some (.pan u m')) : False := by
  unfold valM at h
  split at h <;> cases h
theorem valP_val {x : Option (Value × AW)} {u : Value} (h : valP x = some (.pan u m')) : False := by
  unfold valP at h
  split at h <;> cases h

theorem callB_pan {b : Builtin} {args : List Value} {t : Array TypeId} {u : Value} (h : callB P b args t m = some (.pan u m')) : False := by
  unfold callB at h
  split at h
  · split at h
    · unfold appendV at h
      split at h
      · split at h
        · split at h
          · split at h
            · obtain ⟨_, h⟩ := bif_some h
              split at h
              · exact valP_val h
              · cases h
            · cases h
          · split at h
            · split at h
              · exact valP_val h
              · cases h
            · cases h
          · cases h
        · cases h
      · cases h
    · cases h
  · split at h
    · unfold copyV at h
      split at h
      · split at h
        · split at h
          · split at h
            · split at h
              · split at h
                · obtain ⟨_, h⟩ := bif_some h
                  cases h
                · exact valM_val h
                · cases h
              · cases h
            · cases h
          · cases h
        · cases h
      · cases h
    · cases h
  · split at h
    · unfold deleteV at h
      split at h
      · obtain ⟨_, h⟩ := bif_some h
        split at h
        · cases h
        · split at h
          · split at h <;> cases h
          · cases h
        · cases h
      · cases h
    · cases h
  · split at h
    · unfold unsafeStr at h
      split at h
      · split at h
        · obtain ⟨_, h⟩ := bif_some h
          cases h
        · cases h
      · split at h
        · split at h
          · split at h
            · split at h
              · split at h
                · obtain ⟨_, h⟩ := bif_some h
                  cases h
                · cases h
              · cases h
            · cases h
          · cases h
        · cases h
      · cases h
    · cases h
  · cases h

theorem opH_pan {o : Op} {u : Value} (h : opH P self ts o m = some (.pan u m')) (hl : Local o) : False := by
  unfold opH at h
  split at h
  · split at h
    · split at h
      · unfold storeV at h
        split at h
        · split at h
          · obtain ⟨_, h⟩ := bif_some h
            exact valM_val h
          · cases h
        · cases h
      · cases h
    · cases h
  · split at h
    · unfold mapSet at h
      split at h
      · split at h
        · obtain ⟨_, h⟩ := bif_some h
          split at h
          · split at h <;> cases h
          · cases h
        · cases h
      · cases h
    · cases h
  · split at h
    · unfold mapSet at h
      split at h
      · split at h
        · obtain ⟨_, h⟩ := bif_some h
          split at h
          · split at h <;> cases h
          · cases h
        · cases h
      · cases h
    · cases h
  · split at h
    · unfold rangeA at h
      split at h
      · split at h <;> cases h
      · cases h
    · cases h
  · split at h
    · unfold nextA at h
      split at h
      · split at h
        · obtain ⟨_, h⟩ := bif_some h
          generalize Nat.blt _ _ = c at h
          cases c <;> cases h
        · cases h
      · cases h
    · cases h
  · obtain ⟨b, hb⟩ := hl
    simp only [callH, hb] at h
    split at h
    · exact callB_pan h
    · cases h
  · exact hl
  · cases h

theorem callFunc_args (a b c : List Value) : (⟨a⟩ : Array Value) ++ ⟨b⟩ ++ ⟨c⟩ = ⟨a ++ b ++ c⟩ := by simp

/-- Where an operation ends. -/
def OpEnds (P : Program) (ρ : Ren) (m : AW) (w : World) (b : Frame) (a : Act) (cs : List Frame) (todo next : List Item) (dst : Option Tmp) (r : Rs) : Prop :=
  match r with
  | .val v m' => ∃ ρ' w' v', Steps P (lone (on b a todo) cs w) (lone (on b (a.put dst v') next) cs w') ∧ Rel P ρ' m' w' ∧ Grow ρ ρ' m m' w w' ∧ VRel ρ' v v'
  | .pan v m' => ∃ ρ' w' v', Steps P (lone (on b a todo) cs w) (lone (off b a todo (.panicking [{ v := v', recovered := false }])) cs w') ∧ Rel P ρ' m' w' ∧ Grow ρ ρ' m m' w w' ∧ VRel ρ' v v'

/-- What the machine does at an operation that is carried out. -/
theorem op_follows (hS : ∀ fr t m out, self fr t m = some out → Sound P fr t m out) {ops : Array Oper} {i : Nat} {rest : List Nat} {o : Oper} {b : Frame} {a : Act} {k : List Item} {cs : List Frame} (ho : ops[i]? = some o) (hw : Region.wanted o (yielded ops a.tmps) = true)
    {e : Operand → Value} (hx : execOp a.eval o = execOp e o) (hE : ERel P ρ ts e) (hr : Rel P ρ m w) {r : Rs} (h : doOp P self ts o.op m = some r) (hf : Fresh ρ m r.m) :
    OpEnds P ρ m w b a cs (.inRegion ops (i :: rest) :: k) (.inRegion ops rest :: k) o.dst r := by
  have hd := doOp_nodefer h
  unfold doOp at h
  split at h
  · unfold doP at h
    split at h
    · rename_i v hv
      cases h
      obtain ⟨v', q1, q2⟩ := opP_rel hE hv w
      exact ⟨ρ, w, v', .one (op_value ho hw hd (by rw [hx]; exact q1)), hr, .refl _ _ _, q2⟩
    · cases h
  · unfold doL at h
    split at h
    · rename_i v hv
      cases h
      obtain ⟨v', q1, q2⟩ := opL_imm hE hv w
      exact ⟨ρ, w, v', .one (op_value ho hw hd (by rw [hx]; exact q1)), hr, .refl _ _ _, q2⟩
    · rename_i bl f hv
      split at h
      · rename_i v hb
        cases h
        obtain ⟨ob, hb1, hb2⟩ := Option.bind_eq_some_iff.1 hb
        obtain ⟨s, x, q1, q2, q3⟩ := hr.obj _ _ hb1
        obtain ⟨v', r1, r2⟩ := opL_rd hE hv hb2 ⟨q1, q2, q3⟩
        exact ⟨ρ, w, v', .one (op_value ho hw hd (by rw [hx]; exact r1)), hr, .refl _ _ _, r2⟩
      · cases h
    · cases h
  · unfold doA at h
    split at h
    · rename_i x f hv
      cases h
      obtain ⟨s, q1, q2, q3, q4⟩ := opA_rel hE hv
      obtain ⟨cap, y, w1, v', r1, r2, r3, r4⟩ := q4 w
      have hfr := hf _ (Nat.le_refl _) (by simp [Rs.m, AW.new])
      have hle : ρ.le (ρ.set m.next ⟨w.heap.size, 0, cap⟩) := Ren.le_set hfr
      obtain ⟨t1, t2⟩ := r4 (ρ.set m.next ⟨w.heap.size, 0, cap⟩) m.next hle (Ren.set_same _ _ _)
      have hn := hr.new hfr r2 r3 t1
      refine ⟨_, w1, v', .one (op_value ho hw hd ?_), hn.1, hn.2, t2⟩
      rw [hx]
      rw [q1]
      simp only [Sem.run_bind, r1, Result.andThen_ok, Sem.run_pure]
    · cases h
  · have loc : ∀ v m', r = .val v m' → Local o.op → ∃ ρ' w' v', Steps P (lone (on b a (.inRegion ops (i :: rest) :: k)) cs w) (lone (on b (a.put o.dst v') (.inRegion ops rest :: k)) cs w') ∧ Rel P ρ' m' w' ∧ Grow ρ ρ' m m' w w' ∧ VRel ρ' v v' := by
      intro v m' hrv hl
      subst hrv
      obtain ⟨ρ', w', x, q1, q2, q3, q4⟩ := opH_rel hE hr hf h hl
      rcases q4 with ⟨v', rfl, q5⟩ | ⟨rfl, rfl⟩
      · exact ⟨ρ', w', v', .one (op_value ho hw hd (by rw [hx]; exact q1)), q2, q3, q5⟩
      · exact ⟨ρ', w', undef, .one (Ab.op_skip ho hw hd (by rw [hx]; exact q1)), q2, q3, undef_rel _⟩
    by_cases hl : Local o.op
    · cases r with
      | val v m' => exact loc v m' rfl hl
      | pan v m' => exact (opH_pan h hl).elim
    · cases hop : o.op with
      | call c =>
        cases hc : c.callee with
        | builtin bn => exact absurd (by rw [hop]; exact ⟨bn, hc⟩) hl
        | invoke x nm =>
          rw [hop] at h
          simp only [opH, callH, hc] at h
          split at h <;> cases h
        | value f =>
          rw [hop] at h
          simp only [opH, callH, hc] at h
          split at h
          · rename_i args ha
            split at h
            · rename_i fv hfv
              have hargs := hE.list ha
              have hfr := hE _ _ hfv
              have hex : execOp e o = (do let d ← Deferred.ofValue (e f) (c.args.map e); invoke d.target d.args) := by
                unfold execOp
                rw [hop]
                simp only [resolve, hc]
              rw [map_arr] at hex
              unfold callV at h
              split at h
              · rename_i g first captured
                generalize he : e f = fv' at hfr hex
                cases hfr with
                | func h1 h2 =>
                  rename_i first' captured'
                  have hrun : (execOp e o).run P w = (callFunc g ⟨first' ++ c.args.toList.map e ++ captured'⟩).run P w := by
                    rw [hex]
                    simp only [Deferred.ofValue, Sem.run_bind, Sem.run_pure, Result.andThen_ok, invoke, callFunc_args]
                  unfold callA at h
                  split at h
                  · rename_i heq
                    cases h
                    have hs := hS _ _ _ _ heq
                    obtain ⟨ρ', w', q1, q2, q3⟩ := hs ρ w _ (on b a (.inRegion ops (i :: rest) :: k) :: cs) hr hf ((h1.append hargs).append h2)
                    rcases q3 with ⟨v', _, q4, q5⟩ | ⟨q5, fr, q6, q7, q8⟩
                    · exact ⟨ρ', w', v', .one (op_value ho hw hd (by rw [hx, hrun]; exact q5)), q1, q2, q4⟩
                    · rcases q8 with ⟨v', _, q9, q10⟩ | ⟨_, _, q9, _⟩
                      · refine ⟨ρ', w', v', ?_, q1, q2, q9⟩
                        refine .head (op_enter ho hw hd (by rw [hx, hrun]; exact q5)) (q7.trans (.one ?_))
                        rw [step_leave_returned q10, on_finish, ho]
                        rfl
                      · cases q9
                  · rename_i heq
                    cases h
                    have hs := hS _ _ _ _ heq
                    obtain ⟨ρ', w', q1, q2, q3⟩ := hs ρ w _ (on b a (.inRegion ops (i :: rest) :: k) :: cs) hr hf ((h1.append hargs).append h2)
                    rcases q3 with ⟨v', q4, _⟩ | ⟨q5, fr, q6, q7, q8⟩
                    · cases q4
                    · rcases q8 with ⟨v', q9, _⟩ | ⟨v2, v', q9, q10, q11⟩
                      · cases q9
                      · cases q9
                        refine ⟨ρ', w', v', ?_, q1, q2, q10⟩
                        refine .head (op_enter ho hw hd (by rw [hx, hrun]; exact q5)) (q7.trans (.one ?_))
                        rw [step_leave_panicked q11]
                        rfl
                  · cases h
              · rename_i l x1 x2
                generalize he : e f = fv' at hfr hex
                cases hfr with
                | yield hl2 =>
                  rename_i s
                  have hrun : (execOp e o).run P w = (Instr.yield s.blk ⟨c.args.toList.map e⟩).run P w := by
                    rw [hex]
                    simp only [Deferred.ofValue, Sem.run_bind, Sem.run_pure, Result.andThen_ok, invoke]
                    rw [show (⟨[]⟩ : Array Value) ++ (⟨c.args.toList.map e⟩ : Array Value) = ⟨c.args.toList.map e⟩ by simp]
                  split at h
                  · rename_i heq
                    cases h
                    have hs := hS _ _ _ _ heq
                    obtain ⟨ρ', w', f2, tmps, x, y, q0, q1, q2, q3⟩ := hs ρ w _ (on b a (.inRegion ops (i :: rest) :: k)) cs s hr hf hargs hl2
                    rcases q3 with ⟨v', _, q4, q5⟩ | ⟨_, _, q9, _⟩
                    · refine ⟨ρ', w', v', ?_, q1, q2, q4⟩
                      rw [on_finish, ho] at q5
                      exact .head (op_round ho hw hd (by rw [hx, hrun]; exact q0)) q5
                    · cases q9
                  · rename_i heq
                    cases h
                    have hs := hS _ _ _ _ heq
                    obtain ⟨ρ', w', f2, tmps, x, y, q0, q1, q2, q3⟩ := hs ρ w _ (on b a (.inRegion ops (i :: rest) :: k)) cs s hr hf hargs hl2
                    rcases q3 with ⟨v', q9, _⟩ | ⟨v2, v', q9, q4, q5⟩
                    · cases q9
                    · cases q9
                      exact ⟨ρ', w', v', .head (op_round ho hw hd (by rw [hx, hrun]; exact q0)) q5, q1, q2, q4⟩
                  · cases h
              · cases h
            · cases h
          · cases h
      | panic x =>
        rw [hop] at h
        simp only [opH] at h
        unfold panicV at h
        split at h
        · rename_i t v hxv
          cases h
          have hv := hE _ _ hxv
          generalize he : e x = xv at hv
          cases hv with
          | iface hv2 =>
            refine ⟨ρ, w, _, .one (op_panic ho hw hd ?_), hr, .refl _ _ _, .iface hv2⟩
            rw [hx]
            unfold execOp
            rw [hop]
            simp only [he, Instr.panic, Sem.run_bind]
            rfl
        · cases h
      | _ => exact absurd (by rw [hop]; trivial) hl

end
end Go.Ab

/-
  THE ENGINE, 29: regions in the order of their text; code.
-/
namespace Go.Ab
section
variable {P : Program} {ρ ρ' : Ren} {m m' : AW} {w w' : World} {ts : Tr Value} {self : Self}

theorem Fresh.left {m1 m2 : AW} (h : Fresh ρ m m2) (h1 : m1.next ≤ m2.next) : Fresh ρ m m1 := fun i a b => h i a (by omega)
theorem Fresh.right {m1 m2 : AW} (h : Fresh ρ m m2) (g : Grow ρ ρ' m m1 w w') : Fresh ρ' m1 m2 := fun i a b => by
  have := g.next
  rw [g.only i (.inr a)]
  exact h i (by omega) b

/-- What is to be shown of a piece of code, at one place. -/
def Reaches (P : Program) (ρ : Ren) (w : World) (fr : AFr) (b : Frame) (a : Act) (n0 : Nat) (k : List Item) (cs : List Frame) (todo : List Item) (m : AW) (out : Out) : Prop :=
  ∃ ρ' w' a' f, Steps P (lone (on b a todo) cs w) (lone f cs w') ∧ Ends ρ' b a' k out.ex f ∧ Rel P ρ' out.m w' ∧ Grow ρ ρ' m out.m w w' ∧ FOk ρ' n0 (fr.with out.ts) b a' out.m w'

/-- From a later place on. -/
theorem Reaches.after {ρ1 : Ren} {w1 : World} {fr : AFr} {ts1 : Tr Value} {b : Frame} {a a1 : Act} {n0 : Nat} {k : List Item} {cs : List Frame} {todo todo1 : List Item} {m1 : AW} {out : Out}
    (hs : Steps P (lone (on b a todo) cs w) (lone (on b a1 todo1) cs w1)) (hg : Grow ρ ρ1 m m1 w w1) (h : Reaches P ρ1 w1 (fr.with ts1) b a1 n0 k cs todo1 m1 out) : Reaches P ρ w fr b a n0 k cs todo m out := by
  obtain ⟨ρ', w', a', f, q1, q2, q3, q4, q5⟩ := h
  exact ⟨ρ', w', a', f, hs.trans q1, q2, q3, hg.trans q4, q5⟩

theorem Reaches.after0 {fr : AFr} {b : Frame} {a : Act} {n0 : Nat} {k : List Item} {cs : List Frame} {todo todo1 : List Item} {out : Out}
    (hs : Steps P (lone (on b a todo) cs w) (lone (on b a todo1) cs w)) (h : Reaches P ρ w fr b a n0 k cs todo1 m out) : Reaches P ρ w fr b a n0 k cs todo m out := by
  obtain ⟨ρ', w', a', f, q1, q2, q3, q4, q5⟩ := h
  exact ⟨ρ', w', a', f, hs.trans q1, q2, q3, q4, q5⟩

section
variable (hM : ∀ fr t m out, self fr t m = some out → Mono m out.m) (hS : ∀ fr t m out, self fr t m = some out → Sound P fr t m out)
include hM hS

theorem iops_follows {ops : Array Oper} {fr : AFr} {b : Frame} {n0 : Nat} {k : List Item} {cs : List Frame} : ∀ (l : List Oper) (i : Nat) (ts : Tr Value) (m : AW) (out : Out) (ρ : Ren) (w : World) (a : Act), ops.toList.drop i = l → iops P self fr.n ops l ts m = some out →
    Rel P ρ m w → Fresh ρ m out.m → FOk ρ n0 (fr.with ts) b a m w → n0 ≤ w.heap.size → Reaches P ρ w fr b a n0 k cs (.inRegion ops (List.range' i (ops.size - i)) :: k) m out
  | [], i, ts, m, out, ρ, w, a, hl, h, hr, hf, hok, hn => by
    simp only [iops, Option.some.injEq] at h
    subst h
    have hsz : ops.size - i = 0 := by
      have := congrArg List.length hl
      simpa using this
    rw [hsz]
    exact ⟨ρ, w, a, _, .one on_region_end, rfl, hr, .refl _ _ _, hok⟩
  | o :: l, i, ts, m, out, ρ, w, a, hl, h, hr, hf, hok, hn => by
    have hi : i < ops.size := by
      have := congrArg List.length hl
      simp at this
      omega
    have ho : ops[i]? = some o := by
      have := congrArg (·[0]?) hl
      simpa using this
    have hl' : ops.toList.drop (i + 1) = l := by
      have := congrArg List.tail hl
      simpa using this
    have hrange : List.range' i (ops.size - i) = i :: List.range' (i + 1) (ops.size - (i + 1)) := by
      rw [show ops.size - i = (ops.size - (i + 1)) + 1 by omega, List.range'_succ]
    rw [hrange]
    unfold iops at h
    have hw : wantedA ops ts o = Region.wanted o (yielded ops a.tmps) := wanted_rel hok.tmps ops o
    have hE : ERel P ρ ts a.eval := erel_of hok.tmps hr.glob
    cases hc : wantedA ops ts o with
    | true =>
      rw [hc] at h hw
      simp only [cond_true] at h
      split at h
      · rename_i v m1 heq
        have h1 := doOp_mono hM heq
        have h2 := iops_mono hM _ _ _ _ h
        obtain ⟨ρ1, w1, v', q1, q2, q3, q4⟩ := op_follows (b := b) (k := k) (cs := cs) (rest := List.range' (i + 1) (ops.size - (i + 1))) hS ho hw.symm rfl hE hr heq (hf.left h2.next)
        have hok1 : FOk ρ1 n0 (fr.with (put fr.n ts o.dst v)) b (a.put o.dst v') m1 w1 :=
          FOk.grow (fr := fr.with ts) hok q3 (Act.put_defers' _ _ _) ((TsRel.mono q3.le hok.tmps).put q4 o.dst)
        refine Reaches.after (ts1 := put fr.n ts o.dst v) q1 q3 ?_
        exact iops_follows (fr := fr.with (put fr.n ts o.dst v)) l (i + 1) _ _ _ _ _ _ hl' h q2 (hf.right q3) hok1 (Nat.le_trans hn q3.size)
      · rename_i v m1 heq
        cases h
        obtain ⟨ρ1, w1, v', q1, q2, q3, q4⟩ := op_follows (b := b) (k := k) (cs := cs) (rest := List.range' (i + 1) (ops.size - (i + 1))) hS ho hw.symm rfl hE hr heq hf
        exact ⟨ρ1, w1, a, _, q1, ⟨_, v', rfl, q4⟩, q2, q3, FOk.grow (fr := fr.with ts) hok q3 rfl (TsRel.mono q3.le hok.tmps)⟩
      · cases h
    | false =>
      rw [hc] at h hw
      simp only [cond_false] at h
      have hskip : step P (lone (on b a (.inRegion ops (i :: List.range' (i + 1) (ops.size - (i + 1))) :: k)) cs w) = .next (lone (on b (a.put o.dst undef) (.inRegion ops (List.range' (i + 1) (ops.size - (i + 1))) :: k)) cs w) := by
        have := on_op_skip (P := P) (b := b) (a := a) (k := k) (cs := cs) (w := w) (ops := ops) (i := i) (rest := List.range' (i + 1) (ops.size - (i + 1))) (by rw [ho]; simp only [Option.map_some, Option.getD_some]; exact hw.symm)
        rw [ho] at this
        exact this
      have hok1 : FOk ρ n0 (fr.with (put fr.n ts o.dst undef)) b (a.put o.dst undef) m w :=
        FOk.grow (fr := fr.with ts) hok (.refl _ _ _) (Act.put_defers' _ _ _) (TsRel.put hok.tmps (undef_rel _) o.dst)
      refine Reaches.after (ts1 := put fr.n ts o.dst undef) (.one hskip) (.refl _ _ _) ?_
      exact iops_follows (fr := fr.with (put fr.n ts o.dst undef)) l (i + 1) _ _ _ _ _ _ hl' h hr hf hok1 hn

end
end
end Go.Ab

/-
  THE ENGINE, 30: code, but for the loops over functions and the regions that draw.
-/
namespace Go.Ab
section
variable {P : Program} {ρ ρ' : Ren} {m m' : AW} {w w' : World} {ts : Tr Value} {self : Self}

theorem Ends.pass {b : Frame} {a : Act} {k1 k : List Item} {ex : Ex} {f : Frame} (h : Ends ρ b a k1 ex f) (hx : ∀ id, exitTo id k1 = exitTo id k) (hg : ∀ l, gotoIn l k1 = gotoIn l k) (hn : ex ≠ .normal) : Ends ρ b a k ex f := by
  cases ex with
  | normal => exact absurd rfl hn
  | exit id =>
    obtain ⟨k', h1, h2⟩ := h
    exact ⟨k', h1, h2.trans (hx id)⟩
  | goto l =>
    obtain ⟨k', h1, h2⟩ := h
    exact ⟨k', h1, h2.trans (hg l)⟩
  | ret => exact h
  | panic v => exact h

theorem Reaches.pass {fr : AFr} {b : Frame} {a : Act} {n0 : Nat} {k1 k : List Item} {cs : List Frame} {todo : List Item} {out : Out} (h : Reaches P ρ w fr b a n0 k1 cs todo m out) (hx : ∀ id, exitTo id k1 = exitTo id k) (hg : ∀ l, gotoIn l k1 = gotoIn l k) (hn : out.ex ≠ .normal) :
    Reaches P ρ w fr b a n0 k cs todo m out := by
  obtain ⟨ρ', w', a', f, q1, q2, q3, q4, q5⟩ := h
  exact ⟨ρ', w', a', f, q1, q2.pass hx hg hn, q3, q4, q5⟩

section
variable (hM : ∀ fr t m out, self fr t m = some out → Mono m out.m) (hS : ∀ fr t m out, self fr t m = some out → Sound P fr t m out)
include hM hS

/-- A part, then what comes behind it. -/
theorem then_follows {fr : AFr} {c : Code} {k1 k : List Item} {out1 out : Out} {b : Frame} {a : Act} {n0 : Nat} {cs : List Frame} {todo : List Item} (heq : self fr (.code c) m = some out1) (hr : Rel P ρ m w) (hf : Fresh ρ m out.m) (hok : FOk ρ n0 fr b a m w) (hn : n0 ≤ w.heap.size)
    (hst : Starts c k1 todo) (hle : out1.m.next ≤ out.m.next) (hx : ∀ id, exitTo id k1 = exitTo id k) (hg : ∀ l, gotoIn l k1 = gotoIn l k)
    (hno : out1.ex ≠ .normal → out = out1) (hyes : out1.ex = .normal → ∀ ρ1 w1 a1, Rel P ρ1 out1.m w1 → Fresh ρ1 out1.m out.m → FOk ρ1 n0 (fr.with out1.ts) b a1 out1.m w1 → n0 ≤ w1.heap.size → Reaches P ρ1 w1 (fr.with out1.ts) b a1 n0 k cs k1 out1.m out) :
    Reaches P ρ w fr b a n0 k cs todo m out := by
  have _ := hM
  obtain ⟨ρ1, w1, a1, f, q1, q2, q3, q4, q5⟩ := hS _ _ _ _ heq ρ w b a n0 k1 cs todo hr (hf.left hle) hok hn hst
  by_cases he : out1.ex = .normal
  · rw [he] at q2
    have q2 : f = on b a1 k1 := q2
    subst q2
    exact Reaches.after q1 q4 (hyes he ρ1 w1 a1 q3 (hf.right q4) q5 (Nat.le_trans hn q4.size))
  · have := hno he
    subst this
    exact ⟨ρ1, w1, a1, f, q1, q2.pass hx hg he, q3, q4, q5⟩

theorem stSeq_follows {fr : AFr} {x y : Code} {out : Out} (h : stSeq self fr x y m = some out) : Follows P fr m out (Starts (.seq x y)) := by
  intro ρ w b a n0 k cs todo hr hf hok hn hst
  rcases hst with rfl | ⟨body, hb, _⟩
  · refine Reaches.after0 (.one on_seq) ?_
    unfold stSeq at h
    split at h
    · rename_i ts1 v1 m1 heq
      exact then_follows (k1 := .code y :: k) hM hS heq hr hf hok hn (.inl rfl) (hM _ _ _ _ h).next (fun id => by simp [exitTo]) (fun l => by simp [gotoIn]) (fun hh => absurd rfl hh)
        (fun _ ρ1 w1 a1 r1 r2 r3 r4 => hS _ _ _ _ h ρ1 w1 b a1 n0 k cs _ r1 r2 r3 r4 (.inl rfl))
    · rename_i hnn
      refine then_follows (k1 := .code y :: k) hM hS h hr hf hok hn (.inl rfl) (Nat.le_refl _) (fun id => by simp [exitTo]) (fun l => by simp [gotoIn]) (fun _ => rfl) (fun he => ?_)
      obtain ⟨ex, ts1, v1, m1⟩ := out
      simp only at he
      subst he
      exact absurd h (hnn _ _ _)
  · cases hb

theorem stCond_follows {fr : AFr} {x : Operand} {y z : Code} {out : Out} (h : stCond P self fr x y z m = some out) : Follows P fr m out (Starts (.cond x y z)) := by
  have _ := hM
  intro ρ w b a n0 k cs todo hr hf hok hn hst
  rcases hst with rfl | ⟨body, hb, _⟩
  · have hE : ERel P ρ fr.ts a.eval := erel_of hok.tmps hr.glob
    unfold stCond at h
    split at h
    · rename_i hx
      have hb := (bool_rel (hE _ _ hx) true).1 rfl
      exact Reaches.after0 (.one (on_cond hb)) (hS _ _ _ _ h ρ w b a n0 k cs _ hr hf hok hn (.inl rfl))
    · rename_i hx
      have hb := (bool_rel (hE _ _ hx) false).1 rfl
      exact Reaches.after0 (.one (on_cond hb)) (hS _ _ _ _ h ρ w b a n0 k cs _ hr hf hok hn (.inl rfl))
    · cases h
  · cases hb

theorem stBlock_follows {fr : AFr} {id : Nat} {c : Code} {out : Out} (h : stBlock self fr id c m = some out) : Follows P fr m out (Starts (.block id c)) := by
  have _ := hM
  intro ρ w b a n0 k cs todo hr hf hok hn hst
  rcases hst with rfl | ⟨body, hb, _⟩
  · refine Reaches.after0 (.one on_block) ?_
    have key : ∀ o1, self fr (.code c) m = some o1 → o1.m = out.m → o1.ts = out.ts → (o1.ex = .normal → out.ex = .normal) → (∀ i, o1.ex = .exit i → i = id → out.ex = .normal) → (o1.ex ≠ .normal → (∀ i, o1.ex = .exit i → i ≠ id) → out.ex = o1.ex) →
        Reaches P ρ w fr b a n0 k cs (.code c :: .inBlock id :: k) m out := by
      intro o1 heq hm ht h1 h2 h3
      obtain ⟨ρ1, w1, a1, f, q1, q2, q3, q4, q5⟩ := hS _ _ _ _ heq ρ w b a n0 (.inBlock id :: k) cs _ hr (by rw [hm]; exact hf) hok hn (.inl rfl)
      rw [hm] at q3 q4 q5
      rw [ht] at q5
      cases hex : o1.ex with
      | normal =>
        rw [hex] at q2
        have q2 : f = on b a1 (.inBlock id :: k) := q2
        subst q2
        exact ⟨ρ1, w1, a1, _, q1.trans (.one on_inBlock), by rw [h1 hex]; rfl, q3, q4, q5⟩
      | exit i =>
        rw [hex] at q2
        obtain ⟨k', rfl, r2⟩ := q2
        by_cases hi : i = id
        · have : exitTo i k' = some k := by rw [r2]; simp [exitTo, hi]
          exact ⟨ρ1, w1, a1, _, q1.trans (.one (on_exit this)), by rw [h2 i hex hi]; rfl, q3, q4, q5⟩
        · have : exitTo i k' = exitTo i k := by
            rw [r2]
            have hne : (id == i) = false := by simpa using fun e => hi e.symm
            simp [exitTo, hne]
          exact ⟨ρ1, w1, a1, _, q1, by rw [h3 (by rw [hex]; simp) (fun j hj => by rw [hex] at hj; cases hj; exact hi), hex]; exact ⟨k', rfl, this⟩, q3, q4, q5⟩
      | goto l =>
        rw [hex] at q2
        obtain ⟨k', rfl, r2⟩ := q2
        exact ⟨ρ1, w1, a1, _, q1, by rw [h3 (by rw [hex]; simp) (fun j hj => by rw [hex] at hj; cases hj), hex]; exact ⟨k', rfl, by rw [r2]; simp [gotoIn]⟩, q3, q4, q5⟩
      | ret =>
        rw [hex] at q2
        exact ⟨ρ1, w1, a1, _, q1, by rw [h3 (by rw [hex]; simp) (fun j hj => by rw [hex] at hj; cases hj), hex]; exact q2, q3, q4, q5⟩
      | panic v =>
        rw [hex] at q2
        exact ⟨ρ1, w1, a1, _, q1, by rw [h3 (by rw [hex]; simp) (fun j hj => by rw [hex] at hj; cases hj), hex]; exact q2, q3, q4, q5⟩
    unfold stBlock at h
    split at h
    · rename_i i ts1 v1 m1 heq
      by_cases hi : i = id
      · simp only [nbeq, hi, decide_true, cond_true, Option.some.injEq] at h
        subst h
        exact key _ heq rfl rfl (fun hh => by cases hh) (fun _ _ _ => rfl) (fun _ hh => absurd hi (hh i rfl))
      · simp only [nbeq, hi, decide_false, cond_false, Option.some.injEq] at h
        subst h
        exact key _ heq rfl rfl (fun hh => by cases hh) (fun j hj hj2 => by cases hj; exact absurd hj2 hi) (fun _ _ => rfl)
    · rename_i hnn
      refine key _ h rfl rfl (fun hh => hh) (fun j hj hj2 => ?_) (fun _ _ => rfl)
      obtain ⟨ex, ts1, v1, m1⟩ := out
      simp only at hj
      subst hj
      exact absurd h (hnn _ _ _ _)
  · cases hb

theorem stLoop_follows {fr : AFr} {c : Code} {out : Out} (h : stLoop self fr c m = some out) : Follows P fr m out (Starts (.loop c)) := by
  intro ρ w b a n0 k cs todo hr hf hok hn hst
  have start : Steps P (lone (on b a todo) cs w) (lone (on b a (.code c :: .inLoop c :: k)) cs w) := by
    rcases hst with rfl | ⟨body, hb, rfl⟩
    · exact .one on_loop
    · cases hb
      exact .one on_inLoop
  refine Reaches.after0 start ?_
  unfold stLoop at h
  split at h
  · rename_i ts1 v1 m1 heq
    exact then_follows (k1 := .inLoop c :: k) hM hS heq hr hf hok hn (.inl rfl) (hM _ _ _ _ h).next (fun id => by simp [exitTo]) (fun l => by simp [gotoIn]) (fun hh => absurd rfl hh)
      (fun _ ρ1 w1 a1 r1 r2 r3 r4 => hS _ _ _ _ h ρ1 w1 b a1 n0 k cs _ r1 r2 r3 r4 (.inr ⟨c, rfl, rfl⟩))
  · rename_i hnn
    refine then_follows (k1 := .inLoop c :: k) hM hS h hr hf hok hn (.inl rfl) (Nat.le_refl _) (fun id => by simp [exitTo]) (fun l => by simp [gotoIn]) (fun _ => rfl) (fun he => ?_)
    obtain ⟨ex, ts1, v1, m1⟩ := out
    simp only at he
    subst he
    exact absurd h (hnn _ _ _)

theorem stScope_follows {fr : AFr} {body rest : Code} {out : Out} (h : stScope self fr body rest m = some out) : Follows P fr m out fun k todo => todo = .code rest :: .inScope body :: k := by
  intro ρ w b a n0 k cs todo hr hf hok hn hst
  subst hst
  unfold stScope at h
  split at h
  · rename_i l ts1 v1 m1 heq
    split at h
    · rename_i r hl
      have hle := (hM _ _ _ _ h).next
      obtain ⟨ρ1, w1, a1, f, q1, q2, q3, q4, q5⟩ := hS _ _ _ _ heq ρ w b a n0 (.inScope body :: k) cs _ hr (hf.left hle) hok hn (.inl rfl)
      obtain ⟨k', rfl, r2⟩ := q2
      have hgo : gotoIn l k' = some (.code r :: .inScope body :: k) := by rw [r2]; simp [gotoIn, hl]
      exact Reaches.after (q1.trans (.one (on_goto hgo))) q4 (hS _ _ _ _ h ρ1 w1 b a1 n0 k cs _ q3 (hf.right q4) q5 (Nat.le_trans hn q4.size) rfl)
    · rename_i hl
      cases h
      obtain ⟨ρ1, w1, a1, f, q1, q2, q3, q4, q5⟩ := hS _ _ _ _ heq ρ w b a n0 (.inScope body :: k) cs _ hr hf hok hn (.inl rfl)
      obtain ⟨k', rfl, r2⟩ := q2
      exact ⟨ρ1, w1, a1, _, q1, ⟨k', rfl, by rw [r2]; simp [gotoIn, hl]⟩, q3, q4, q5⟩
  · rename_i hnn
    obtain ⟨ρ1, w1, a1, f, q1, q2, q3, q4, q5⟩ := hS _ _ _ _ h ρ w b a n0 (.inScope body :: k) cs _ hr hf hok hn (.inl rfl)
    obtain ⟨ex, ts1, v1, m1⟩ := out
    cases ex with
    | normal =>
      have q2 : f = on b a1 (.inScope body :: k) := q2
      subst q2
      exact ⟨ρ1, w1, a1, _, q1.trans (.one on_inScope), rfl, q3, q4, q5⟩
    | exit i =>
      obtain ⟨k', rfl, r2⟩ := q2
      exact ⟨ρ1, w1, a1, _, q1, ⟨k', rfl, by rw [r2]; simp [exitTo]⟩, q3, q4, q5⟩
    | goto l => exact absurd h (hnn _ _ _ _)
    | ret => exact ⟨ρ1, w1, a1, _, q1, q2, q3, q4, q5⟩
    | panic v => exact ⟨ρ1, w1, a1, _, q1, q2, q3, q4, q5⟩

end
end
end Go.Ab

/-
  THE ENGINE, 31: calls.
-/
namespace Go.Ab
section
variable {P : Program} {ρ ρ' : Ren} {m m' : AW} {w w' : World} {ts : Tr Value} {self : Self}

theorem argsT_get : ∀ (args : List Value) (i : Nat) (t : Tr Value) (j : Nat), (argsT args i t).get j = if i ≤ j ∧ j - i < args.length then args[j - i]? else t.get j
  | [], i, t, j => by simp [argsT]
  | v :: vs, i, t, j => by
    unfold argsT
    rw [argsT_get vs (i + 1) _ j, Tr.get_set]
    by_cases h1 : j = i
    · subst h1
      rw [if_neg (by omega), if_pos rfl, if_pos (by simp)]
      simp
    · by_cases h2 : i + 1 ≤ j ∧ j - (i + 1) < vs.length
      · rw [if_pos h2, if_pos (by simp; omega)]
        rw [show j - i = (j - (i + 1)) + 1 by omega, List.getElem?_cons_succ]
      · rw [if_neg h2, if_neg h1, if_neg (by simp; omega)]

theorem args_ts {n : Nat} {args args' : List Value} (h : VsRel ρ args args') (hn : args.length ≤ n) : TsRel ρ n (argsT args 0 .lf) ((⟨args'⟩ : Array Value) ++ Array.replicate (n - (⟨args'⟩ : Array Value).size) undef) := by
  have hl := h.length_eq
  have hsz : (⟨args'⟩ : Array Value).size = args'.length := rfl
  refine ⟨by simp; omega, fun t => ?_⟩
  rw [argsT_get, Array.getD_eq_getD_getElem?, Array.getElem?_append, hsz]
  by_cases ht : t < args.length
  · rw [if_pos (by simpa using ht), if_pos (by omega)]
    simp only [Nat.sub_zero, List.getElem?_toArray]
    obtain ⟨v', h1, h2⟩ := h.get (List.getElem?_eq_getElem ht)
    rw [h1, List.getElem?_eq_getElem ht]
    exact h2
  · rw [if_neg (by simpa using ht), if_neg (by omega), Array.getElem?_replicate]
    simp only [Tr.get, Option.getD_none]
    split <;> exact undef_rel _

/-- What a call's frame keeps. -/
def baseFr (f : FuncId) : Frame := { fn := f, tmps := #[], todo := [], defers := [], mode := .run, kind := .normal, roundOf := none }

theorem enter_on {f : FuncId} {fn : Func} {c : Code} {args : Array Value} (hf : P.funcs[f]? = some fn) (hb : fn.body = some c) :
    Frame.enter P f args .normal = on (baseFr f) ⟨args ++ Array.replicate (fn.ntmps - args.size) undef, []⟩ [.code c] := by
  simp [Frame.enter, on, baseFr, hf, hb]

/-! ### The deferred calls of loops over functions: there are none -/

theorem step_take {b : Frame} {tmps : Array Value} {B : Nat} {ds : List Deferred} {todo : List Item} {mode : FrameMode} {cs : List Frame} (hm : mode ≠ .run) (hB : w.heap[B]? = some (.deferred (some []))) :
    step P (lone (off b ⟨tmps, mark1 B :: ds⟩ todo mode) cs w) = .next (lone (off b ⟨tmps, ds⟩ todo mode) cs (setBlk w B (.deferred none))) := by
  have hrun : (Instr.takeDeferred B).run P w = .ok [] (setBlk w B (.deferred none)) := by
    simp only [Instr.takeDeferred, Sem.run_bind]
    have hg : (getObj B).run P w = .ok (.deferred (some [])) w := by simp [getObj, Sem.run, hB]
    rw [hg]
    simp only [Result.andThen_ok, Sem.run_bind, run_setObj_any hB (by intros; simp), Sem.run_pure]
  refine step_lone_go ?_
  cases mode with
  | run => exact absurd rfl hm
  | returning => simp [stepG, unwind, off, mark1, hrun]
  | panicking ch => simp [stepG, unwind, off, mark1, hrun]

/-- What lay in those blocks is of no account. -/
structure Taken (n0 : Nat) (w w' : World) : Prop where
  rest : Rest w w'
  size : w'.heap.size = w.heap.size
  old : ∀ j, j < n0 → w'.heap[j]? = w.heap[j]?
  obj : ∀ (j : Nat) (x : Obj), w.heap[j]? = some x → w'.heap[j]? = some x ∨ (∃ q q', x = Obj.deferred q ∧ w'.heap[j]? = some (Obj.deferred q'))

theorem Taken.refl (n0 : Nat) (w : World) : Taken n0 w w := ⟨.refl _, rfl, fun _ _ => rfl, fun _ _ h => .inl h⟩

theorem Taken.trans {n0 : Nat} {a b c : World} (h : Taken n0 a b) (k : Taken n0 b c) : Taken n0 a c where
  rest := h.rest.trans k.rest
  size := k.size.trans h.size
  old := fun j hj => (k.old j hj).trans (h.old j hj)
  obj := fun j x hx => by
    rcases h.obj j x hx with h1 | ⟨q, q', rfl, h1⟩
    · exact k.obj j x h1
    · rcases k.obj j _ h1 with h2 | ⟨q2, q2', _, h2⟩
      · exact .inr ⟨q, q', rfl, h2⟩
      · exact .inr ⟨q, q2', rfl, h2⟩

theorem unwind_all {n0 : Nat} {b : Frame} {tmps : Array Value} {todo : List Item} {mode : FrameMode} {cs : List Frame} (hm : mode ≠ .run) : ∀ (Bs : List Nat) (w : World), Bs.Nodup → (∀ B ∈ Bs, n0 ≤ B ∧ w.heap[B]? = some (.deferred (some []))) →
    ∃ w', Steps P (lone (off b ⟨tmps, Bs.map mark1⟩ todo mode) cs w) (lone (off b ⟨tmps, []⟩ todo mode) cs w') ∧ Taken n0 w w'
  | [], w, _, _ => ⟨w, .refl _ _, .refl _ _⟩
  | B :: Bs, w, hnd, h => by
    obtain ⟨h1, h2⟩ := h B List.mem_cons_self
    have hlt : B < w.heap.size := (Array.getElem?_eq_some_iff.1 h2).1
    have hnb := List.nodup_cons.1 hnd
    obtain ⟨w', q1, q2⟩ := unwind_all hm Bs (setBlk w B (.deferred none)) hnb.2 (fun B2 hB2 => by
      obtain ⟨h3, h4⟩ := h B2 (List.mem_cons_of_mem _ hB2)
      refine ⟨h3, ?_⟩
      rw [setBlk_get hlt, if_neg (fun e => hnb.1 (by rw [← e]; exact hB2))]
      exact h4)
    have t1 : Taken n0 w (setBlk w B (.deferred none)) := by
      refine ⟨⟨rfl, rfl, rfl⟩, setBlk_size, fun j hj => ?_, fun j x hx => ?_⟩
      · rw [setBlk_get hlt, if_neg (by omega)]
      · rw [setBlk_get hlt]
        by_cases hj : j = B
        · subst hj
          rw [h2] at hx
          cases hx
          exact .inr ⟨_, none, rfl, by rw [if_pos rfl]⟩
        · exact .inl (by rw [if_neg hj]; exact hx)
    exact ⟨w', .head (step_take hm h2) q1, t1.trans q2⟩

theorem XRel.taken {s : Spot} {o : AObj} {q q' : Option (List Deferred)} (h : XRel P ρ s o (.deferred q)) : XRel P ρ s o (.deferred q') := by
  cases o with
  | cells cs e g md mt => obtain ⟨c, fr, h1, _⟩ := h; cases h1
  | map es cl => obtain ⟨_, _, h1, _⟩ := h; cases h1
  | siter t pos => obtain ⟨_, h1⟩ := h; cases h1
  | miter _ _ _ _ => exact h
  | loop st pe fn n ts ps as bo d => obtain ⟨l, h1, _⟩ := h; cases h1
  | deferred => exact ⟨_, rfl⟩

theorem Rel.taken {n0 : Nat} (h : Rel P ρ m w) (t : Taken n0 w w') : Rel P ρ m w' := by
  refine ⟨fun b o hb => ?_, h.sep, h.glob, fun b s hb => by rw [t.size]; exact h.inb b s hb⟩
  obtain ⟨s, x, h1, h2, h3⟩ := h.obj b o hb
  rcases t.obj _ _ h2 with h4 | ⟨q, q', rfl, h4⟩
  · exact ⟨s, x, h1, h4, h3⟩
  · exact ⟨s, _, h1, h4, h3.taken⟩

theorem Grow.taken {w0 : World} (h : Grow ρ ρ' m m' w0 w) (t : Taken w0.heap.size w w') : Grow ρ ρ' m m' w0 w' :=
  ⟨h.le, h.only, h.rest.trans t.rest, by rw [t.size]; exact h.size, fun B hB hno => by rw [t.old B hB]; exact h.keep B hB hno, h.own, h.next, h.occ⟩

/-! ### Results -/

def resSem (tmps : Array Value) : ResultVar → Sem Value
  | .tmp t => pure (tmps.getD t undef)
  | .cell a t => do loadVar t (← asAddr (tmps.getD a undef))

theorem resA_go {tmps : Array Value} {n : Nat} (hr : Rel P ρ m w) (ht : TsRel ρ n ts tmps) : ∀ (l : List ResultVar) (vs : List Value), resA.go P ts m l = some vs → ∃ vs', (l.mapM (resSem tmps)).run P w = .ok vs' w ∧ VsRel ρ vs vs'
  | [], vs, h => by
    simp only [resA.go, Option.some.injEq] at h
    subst h
    exact ⟨[], rfl, .nil⟩
  | .tmp t :: l, vs, h => by
    simp only [resA.go] at h
    obtain ⟨us, h1, rfl⟩ := Option.map_eq_some_iff.1 h
    obtain ⟨us', h2, h3⟩ := resA_go hr ht l us h1
    refine ⟨tmps.getD t undef :: us', ?_, .cons (ht.2 t) h3⟩
    rw [List.mapM_cons]
    simp only [resSem, Sem.run_bind, Sem.run_pure, Result.andThen_ok]
    rw [h2]
    rfl
  | .cell x t :: l, vs, h => by
    simp only [resA.go] at h
    split at h
    · rename_i bl f hl
      split at h
      · rename_i v hv
        obtain ⟨us, h1, rfl⟩ := Option.map_eq_some_iff.1 h
        obtain ⟨us', h2, h3⟩ := resA_go hr ht l us h1
        obtain ⟨o, ho1, ho2⟩ := Option.bind_eq_some_iff.1 hv
        obtain ⟨s, y, q1, q2, q3⟩ := hr.obj _ _ ho1
        obtain ⟨v', r1, r2⟩ := loadA_rel hl (ht.2 x) ho2 q1 q2 q3
        refine ⟨v' :: us', ?_, .cons r2 h3⟩
        have hx := ht.2 x
        have : (resSem tmps (.cell x t)).run P w = .ok v' w := by
          rw [← r1]
          show (do loadVar t (← asAddr (tmps.getD x undef))).run P w = (Instr.loadAt t (tmps.getD x undef)).run P w
          unfold loadA at hl
          split at hl
          · rename_i b1 off e1
            rw [e1] at hx
            generalize tmps.getD x undef = xv at hx
            cases hx with
            | ptr hb => rfl
          · cases hl
        rw [List.mapM_cons]
        simp only [Sem.run_bind, this, Result.andThen_ok]
        rw [h2]
        rfl
      · cases h
    · cases h

theorem resA_rel {tmps : Array Value} {n : Nat} {fn : Func} {v : Value} (hr : Rel P ρ m w) (ht : TsRel ρ n ts tmps) (h : resA P fn ts m = some v) : ∃ v', (results fn tmps).run P w = .ok v' w ∧ VRel ρ v v' := by
  unfold resA at h
  obtain ⟨vs, h1, h2⟩ := Option.map_eq_some_iff.1 h
  obtain ⟨vs', h3, h4⟩ := resA_go hr ht _ _ h1
  have hrun : (results fn tmps).run P w = .ok (if h : (⟨vs'⟩ : Array Value).size = 1 then (⟨vs'⟩ : Array Value)[0] else .tuple ⟨vs'⟩) w := by
    have e1 : results fn tmps = (do
        let vs ← fn.results.mapM (resSem tmps)
        pure (if h : vs.size = 1 then vs[0] else .tuple vs)) := rfl
    rw [e1, Array.mapM_eq_mapM_toList]
    simp only [Sem.run_bind, Sem.run_map, h3, Result.andThen_ok, Sem.run_pure]
  split at h2
  · subst h2
    cases h4 with
    | cons h5 h6 =>
      cases h6
      exact ⟨_, hrun, h5⟩
  · rename_i hne
    subst h2
    refine ⟨_, hrun, ?_⟩
    have : ¬ ((⟨vs'⟩ : Array Value).size = 1) := by
      intro e1
      have e2 : vs.length = 1 := by rw [h4.length_eq]; exact e1
      match vs, e2 with
      | [v], _ => exact hne v rfl
    rw [dif_neg this]
    exact .tuple h4

/-! ### Calls -/

theorem compare_eq : ∀ (a b : List UInt8), Lib.compareBytes a b = (bif ltBytes a b then -1 else bif ltBytes b a then 1 else 0)
  | [], [] => rfl
  | [], _ :: _ => rfl
  | _ :: _, [] => rfl
  | a :: as, b :: bs => by
    unfold Lib.compareBytes ltBytes
    simp only [nblt, nbeq]
    by_cases h1 : a < b
    · have : a.toNat < b.toNat := h1
      simp [h1, this]
    · have h1' : ¬ a.toNat < b.toNat := h1
      by_cases h2 : b < a
      · have h2' : b.toNat < a.toNat := h2
        have h3 : ¬ a.toNat = b.toNat := by omega
        simp [h1, h1', h2, h2', h3]
      · have h2' : ¬ b.toNat < a.toNat := h2
        have h3 : a.toNat = b.toNat := by omega
        simp [h1, h2, h3, compare_eq as bs]

theorem externA_rel {f : FuncId} {fn : Func} {args args' : List Value} {v : Value} (hf : P.funcs[f]? = some fn) (hb : fn.body = none) (h : externA fn args = some v) (ha : VsRel ρ args args') : ∃ v', (callFunc f ⟨args'⟩).run P w = .ok (.value v') w ∧ VRel ρ v v' := by
  unfold externA at h
  split at h
  · rename_i hn
    split at h
    · cases h
      cases ha with
      | cons h1 h2 =>
        cases h2
        rename_i v'
        refine ⟨v', ?_, h1⟩
        rw [run_callFunc_extern hf (by rw [hn.1]; rfl) (by rw [hb]; rfl) (e := Extern.AbiNoEscape.same) (by unfold Extern.findNext; rw [hn.1, hn.2]; rfl) (by unfold Extern.find; rw [hn.1, hn.2]; rfl)]
        rfl
    · cases h
  · split at h
    · rename_i hn
      split at h
      · rename_i x y
        cases h
        cases ha with
        | cons h1 h2 =>
          cases h2 with
          | cons h3 h4 =>
            cases h4
            cases h1
            cases h3
            refine ⟨_, ?_, .int ..⟩
            rw [run_callFunc_extern hf (by rw [hn.1]; rfl) (by rw [hb]; rfl) (e := Extern.BytealgCompare.compare) (by unfold Extern.findNext; rw [hn.1, hn.2]; rfl) (by unfold Extern.find; rw [hn.1, hn.2]; rfl)]
            have := Lib.run_compareString (P := P) x y w
            rw [compare_eq] at this
            rw [show (⟨[.string x, .string y]⟩ : Array Value) = #[.string x, .string y] from rfl, this]
            rfl
      · cases h
    · cases h

end
end Go.Ab

/-
  THE ENGINE, 32: functions, loops over functions.
-/
namespace Go.Ab
section
variable {P : Program} {ρ ρ' : Ren} {m m' : AW} {w w' : World} {ts : Tr Value} {self : Self}

/-- No function of Go code goes by the one name that the model takes for itself. -/
def PlainNames (P : Program) : Prop := ∀ (f : FuncId) (fn : Func), P.funcs[f]? = some fn → fn.body.isSome = true → fn.name ≠ "runtime.NumGoroutine"

theorem callFunc_enter (hP : PlainNames P) {f : FuncId} {fn : Func} {c : Code} (hf : P.funcs[f]? = some fn) (hb : fn.body = some c) (args : Array Value) (w : World) : (callFunc f args).run P w = .ok (.enter f args) w := by
  have hn := hP f fn hf (by rw [hb]; rfl)
  have hn2 : (fn.name == "runtime.NumGoroutine") = false := by simpa using hn
  unfold callFunc
  simp [hf, hn, hb]

section
variable (hM : ∀ fr t m out, self fr t m = some out → Mono m out.m) (hS : ∀ fr t m out, self fr t m = some out → Sound P fr t m out) (hP : PlainNames P)
include hM hS hP

theorem stFn_follows {f : FuncId} {args : List Value} {out : Out} (h : stFn P self f args m = some out) : FollowsFn P f args m out := by
  intro ρ w args' cs hr hf ha
  unfold stFn at h
  split at h
  · cases h
  · rename_i fn hfn
    split at h
    · rename_i hb
      split at h
      · rename_i v hv
        cases h
        obtain ⟨v', h1, h2⟩ := externA_rel (w := w) hfn hb hv ha
        exact ⟨ρ, w, hr, .refl _ _ _, .inl ⟨v', rfl, h2, h1⟩⟩
      · cases h
    · rename_i c hb
      obtain ⟨hle, h⟩ := bif_some h
      simp only [nble, decide_eq_true_eq] at hle
      have hcf := callFunc_enter hP hfn hb ⟨args'⟩ w
      have hen := enter_on (args := ⟨args'⟩) hfn hb
      let a0 : Act := ⟨(⟨args'⟩ : Array Value) ++ Array.replicate (fn.ntmps - (⟨args'⟩ : Array Value).size) undef, []⟩
      have hok : FOk ρ w.heap.size ⟨f, fn.ntmps, argsT args 0 .lf, none⟩ (baseFr f) a0 m w :=
        ⟨rfl, args_ts ha hle, .inr ⟨rfl, rfl, [], rfl, List.nodup_nil, fun B hB => by cases hB⟩⟩
      have leave : ∀ (ρ1 : Ren) (w1 : World) (a1 : Act) (todo : List Item) (mode : FrameMode) (m1 : AW) (ts1 : Tr Value), mode ≠ .run → Rel P ρ1 m1 w1 → Grow ρ ρ1 m m1 w w1 → FOk ρ1 w.heap.size ⟨f, fn.ntmps, ts1, none⟩ (baseFr f) a1 m1 w1 →
          ∃ w2, Steps P (lone (off (baseFr f) a1 todo mode) cs w1) (lone (off (baseFr f) ⟨a1.tmps, []⟩ todo mode) cs w2) ∧ Rel P ρ1 m1 w2 ∧ Grow ρ ρ1 m m1 w w2 := by
        intro ρ1 w1 a1 todo mode m1 ts1 hm hr1 hg1 hok1
        rcases hok1.round with ⟨l, s, h1, _⟩ | ⟨_, _, Bs, h2, h3, h4⟩
        · cases h1
        · obtain ⟨w2, q1, q2⟩ := unwind_all (P := P) (n0 := w.heap.size) (b := baseFr f) (tmps := a1.tmps) (todo := todo) (cs := cs) hm Bs w1 h3 fun B hB => ⟨(h4 B hB).1, (h4 B hB).2.2.1⟩
          refine ⟨w2, ?_, hr1.taken q2, hg1.taken q2⟩
          have : off (baseFr f) a1 todo mode = off (baseFr f) ⟨a1.tmps, Bs.map mark1⟩ todo mode := by
            unfold off
            rw [h2]
          rw [this]
          exact q1
      have back : ∀ (ρ1 : Ren) (w1 : World) (a1 : Act) (todo : List Item) (ts1 : Tr Value) (m1 : AW), retFn P fn ts1 m1 = some out → Steps P (lone (Frame.enter P f ⟨args'⟩ .normal) cs w) (lone (off (baseFr f) a1 todo .returning) cs w1) →
          Rel P ρ1 m1 w1 → Grow ρ ρ1 m m1 w w1 → FOk ρ1 w.heap.size ⟨f, fn.ntmps, ts1, none⟩ (baseFr f) a1 m1 w1 →
          ∃ ρ' w', Rel P ρ' out.m w' ∧ Grow ρ ρ' m out.m w w' ∧ ((∃ v', out.ex = .ret ∧ VRel ρ' out.v v' ∧ (callFunc f ⟨args'⟩).run P w = .ok (.value v') w') ∨
            ((callFunc f ⟨args'⟩).run P w = .ok (.enter f ⟨args'⟩) w ∧ ∃ fr, fr.fn = f ∧ Steps P (lone (Frame.enter P f ⟨args'⟩ .normal) cs w) (lone fr cs w') ∧
              ((∃ v', out.ex = .ret ∧ VRel ρ' out.v v' ∧ fr.leaving P w' (.returned v')) ∨ (∃ v v', out.ex = .panic v ∧ VRel ρ' v v' ∧ fr.leaving P w' (.panicked [{ v := v', recovered := false }]))))) := by
        intro ρ1 w1 a1 todo ts1 m1 hret hst hr1 hg1 hok1
        unfold retFn at hret
        split at hret
        · rename_i v hv
          cases hret
          obtain ⟨w2, q1, q2, q3⟩ := leave ρ1 w1 a1 todo .returning m1 ts1 (by simp) hr1 hg1 hok1
          obtain ⟨v', r1, r2⟩ := resA_rel q2 hok1.tmps hv
          exact ⟨ρ1, w2, q2, q3, .inr ⟨hcf, _, rfl, hst.trans q1, .inl ⟨v', rfl, r2, rfl, rfl, rfl, fn, hfn, r1⟩⟩⟩
        · cases hret
      split at h
      · rename_i ts1 v1 m1 heq
        obtain ⟨ρ1, w1, a1, fx, q1, q2, q3, q4, q5⟩ := hS _ _ _ _ heq ρ w (baseFr f) a0 w.heap.size [] cs [.code c] hr (hf.left (retFn_mono (self := self) hM h).next) hok (Nat.le_refl _) (.inl rfl)
        have q2 : fx = on (baseFr f) a1 [] := q2
        subst q2
        rw [← hen] at q1
        exact back ρ1 w1 a1 [] ts1 m1 h (q1.trans (.one (on_end rfl))) q3 q4 q5
      · rename_i ts1 v1 m1 heq
        obtain ⟨ρ1, w1, a1, fx, q1, q2, q3, q4, q5⟩ := hS _ _ _ _ heq ρ w (baseFr f) a0 w.heap.size [] cs [.code c] hr (hf.left (retFn_mono (self := self) hM h).next) hok (Nat.le_refl _) (.inl rfl)
        obtain ⟨k', rfl⟩ := q2
        rw [← hen] at q1
        exact back ρ1 w1 a1 _ ts1 m1 h (q1.trans (.one (on_ret rfl))) q3 q4 q5
      · rename_i v1 ts1 v2 m1 heq
        cases h
        obtain ⟨ρ1, w1, a1, fx, q1, q2, q3, q4, q5⟩ := hS _ _ _ _ heq ρ w (baseFr f) a0 w.heap.size [] cs [.code c] hr hf hok (Nat.le_refl _) (.inl rfl)
        obtain ⟨k', v', rfl, hv⟩ := q2
        rw [← hen] at q1
        obtain ⟨w2, r1, r2, r3⟩ := leave ρ1 w1 a1 k' (.panicking [{ v := v', recovered := false }]) m1 ts1 (by simp) q3 q4 q5
        exact ⟨ρ1, w2, r2, r3, .inr ⟨hcf, _, rfl, q1.trans r1, .inr ⟨v1, v', rfl, hv, rfl, rfl, fn, hfn⟩⟩⟩
      · cases h

end
end
end Go.Ab

/-
  THE ENGINE, 33: rounds of loops over functions.
-/
namespace Go.Ab
section
variable {P : Program} {ρ ρ' : Ren} {m m' : AW} {w w' : World} {ts : Tr Value} {self : Self}

/-- A loop's record, in both. -/
theorem loop_obj (hr : Rel P ρ m w) {l : Nat} {s : Spot} {st : LoopState} {p : Option Code} {fn : FuncId} {n : Nat} {ts : Tr Value} {ps : List Tmp} {as bo : Code} {d : Nat} (hs : ρ l = some s) (h : m.heap.get l = some (.loop st p fn n ts ps as bo d)) :
    ∃ r : Loop, w.heap[s.blk]? = some (.loop r) ∧ r.state = st ∧ r.pending = p ∧ r.fn = fn ∧ TsRel ρ n ts r.tmps ∧ r.params.toList = ps ∧ r.assign = as ∧ r.body = bo ∧ ∃ sd, ρ d = some sd ∧ sd.blk = r.defers := by
  obtain ⟨s2, x, h1, h2, r, rfl, h3⟩ := hr.obj _ _ h
  rw [hs] at h1
  cases h1
  exact ⟨r, h2, h3⟩

theorem run_getLoop {b : Nat} {r : Loop} (h : w.heap[b]? = some (.loop r)) : (Instr.getLoop b).run P w = .ok r w := by
  have hg : (getObj b).run P w = .ok (.loop r) w := by simp [getObj, Sem.run, h]
  simp only [Instr.getLoop, Sem.run_bind, hg, Result.andThen_ok, Sem.run_pure]

/-- The record turns. -/
theorem loop_put (hr : Rel P ρ m w) {l : Nat} {s : Spot} {st st' : LoopState} {p p' : Option Code} {fn : FuncId} {n : Nat} {ts : Tr Value} {ps : List Tmp} {as bo : Code} {d : Nat} (hs : ρ l = some s) (h : m.heap.get l = some (.loop st p fn n ts ps as bo d)) {r : Loop} (hw : w.heap[s.blk]? = some (.loop r)) :
    (setObj s.blk (.loop { r with state := st', pending := p' })).run P w = .ok () (setBlk w s.blk (.loop { r with state := st', pending := p' })) ∧
      Rel P ρ (m.set l (some (.loop st' p' fn n ts ps as bo d))) (setBlk w s.blk (.loop { r with state := st', pending := p' })) ∧ Grow ρ ρ m (m.set l (some (.loop st' p' fn n ts ps as bo d))) w (setBlk w s.blk (.loop { r with state := st', pending := p' })) := by
  obtain ⟨r2, h1, h2, h3, h4, h5, h6, h7, h8, h9⟩ := loop_obj hr hs h
  rw [hw] at h1
  cases h1
  have := hr.put (o' := .loop st' p' fn n ts ps as bo d) (y := .loop { r with state := st', pending := p' }) h hs rfl rfl (alone hr h hs rfl) ⟨_, rfl, rfl, rfl, h4, h5, h6, h7, h8, h9⟩
  exact ⟨run_setObj_any hw (by intros; simp), this⟩

/-- The round's frame, at its end. -/
theorem step_leave_round {b : Frame} {a : Act} {todo : List Item} {c : Frame} {cs : List Frame} {B : Nat} {jump : Option Code} {v : Value} (hro : b.roundOf = some B) (hk : b.kind = .normal)
    (hj : (todo = [] ∧ jump = none) ∨ (∃ k, todo = .code .ret :: k ∧ jump = some .ret) ∨ (∃ id k, todo = .code (.exit id) :: k ∧ jump = some (.exit id) ∧ exitTo id k = none)) (hr : (Instr.endRound B jump).run P w = .ok v w') :
    step P (lone (on b a todo) (c :: cs) w) = .next (lone (c.finish v) cs w') := by
  refine step_lone_go ?_
  rcases hj with ⟨rfl, rfl⟩ | ⟨k, rfl, rfl⟩ | ⟨id, k, rfl, rfl, hx⟩
  · simp [stepG, stepG.exec, on, hro, hr, doReturn, hk]
  · simp [stepG, stepG.exec, on, hro, hr, doReturn, hk]
  · simp [stepG, stepG.exec, on, hro, hr, doReturn, hk, hx]

/-- An unwinding round, without deferred calls of its own. -/
theorem step_raise_round {b : Frame} {a : Act} {todo : List Item} {c : Frame} {cs : List Frame} {ch : List PanicEntry} {fn : Func} (hd : a.defers = []) (hf : P.funcs[b.fn]? = some fn) :
    step P (lone (off b a todo (.panicking ch)) (c :: cs) w) = .next (lone (c.raise ch) cs w) := by
  refine step_lone_go ?_
  simp [stepG, unwind, off, hd, Frame.catches, hf]

theorem on_beginRound {b : Frame} {a : Act} {k : List Item} {cs : List Frame} {B : Nat} (hro : b.roundOf = some B) (hr : (Instr.beginRound B).run P w = .ok () w') :
    step P (lone (on b a (.beginRound :: k)) cs w) = .next (lone (on b a k) cs w') := by
  refine step_lone_go ?_
  simp [stepG, stepG.exec, stepG.apply, on, hro, hr, Frame.finish]

/-- What a round's frame keeps. -/
def roundFr (f : FuncId) (B : Nat) : Frame := { fn := f, tmps := #[], todo := [], defers := [], mode := .run, kind := .normal, roundOf := some B }

theorem params_ts {n : Nat} : ∀ (ps : List Tmp) {args args' : List Value} {ts : Tr Value} {tmps : Array Value}, VsRel ρ args args' → TsRel ρ n ts tmps →
    TsRel ρ n ((ps.zip args).foldl (fun ts x => put n ts (some x.1) x.2) ts) ((ps.zip args').foldl (fun tmps x => tmps.setIfInBounds x.1 x.2) tmps)
  | [], _, _, _, _, _, ht => by simpa using ht
  | p :: ps, _, _, _, _, .nil, ht => by simpa using ht
  | p :: ps, _, _, ts, tmps, .cons h hs, ht => by
    simp only [List.zip_cons_cons, List.foldl_cons]
    exact params_ts ps hs (TsRel.put (a := ⟨tmps, []⟩) ht h (some p))

section
variable (hM : ∀ fr t m out, self fr t m = some out → Mono m out.m) (hS : ∀ fr t m out, self fr t m = some out → Sound P fr t m out)
include hM hS

theorem stYield_follows {l : Nat} {args : List Value} {out : Out} (h : stYield P self l args m = some out) : FollowsYield P l args m out := by
  intro ρ w args' c cs s hr hf ha hs
  unfold stYield at h
  split at h
  · rename_i p fn n ts ps as bo d hl
    obtain ⟨hlen, h⟩ := bif_some h
    simp only [nbeq, decide_eq_true_eq] at hlen
    obtain ⟨r, r1, r2, r3, r4, r5, r6, r7, r8, r9⟩ := loop_obj hr hs hl
    have hsize : ¬ ((⟨args'⟩ : Array Value).size ≠ r.params.size) := by
      have e1 : (⟨args'⟩ : Array Value).size = args'.length := rfl
      have e2 : r.params.size = r.params.toList.length := by simp
      rw [e1, e2, r6, ← ha.length_eq, hlen]
      simp
    let tmps : Array Value := (r.params.zip (⟨args'⟩ : Array Value)).foldl (fun tmps (x : Tmp × Value) => tmps.setIfInBounds x.1 x.2) r.tmps
    have htm : tmps = (ps.zip args').foldl (fun tmps x => tmps.setIfInBounds x.1 x.2) r.tmps := by
      show Array.foldl _ _ _ = _
      rw [← Array.foldl_toList, Array.toList_zip, r6]
    have hy : (Instr.yield s.blk ⟨args'⟩).run P w = .ok (.round s.blk fn tmps as bo) w := by
      simp only [Instr.yield, Sem.run_bind, run_getLoop r1, Result.andThen_ok, hsize, if_false, Sem.run_pure, r4, r7, r8]
      rfl
    have hfr : Frame.round s.blk fn tmps as bo .normal = on (roundFr fn s.blk) ⟨tmps, []⟩ [.code as, .beginRound, .code bo] := rfl
    have hts : TsRel ρ n ((ps.zip args).foldl (fun ts x => put n ts (some x.1) x.2) ts) tmps := by
      rw [htm]
      exact params_ts ps ha r5
    have hok : FOk ρ w.heap.size ⟨fn, n, (ps.zip args).foldl (fun ts x => put n ts (some x.1) x.2) ts, some l⟩ (roundFr fn s.blk) ⟨tmps, []⟩ m w := ⟨rfl, hts, .inl ⟨l, s, rfl, hs, rfl, rfl⟩⟩
    have pan : ∀ (v v' : Value) (ρ1 : Ren) (w1 : World) (a1 : Act) (todo : List Item) (m1 : AW), panOf P fn v m1 = some out → a1.defers = [] → VRel ρ1 v v' → Rel P ρ1 m1 w1 → Grow ρ ρ1 m m1 w w1 →
        Steps P (lone (on (roundFr fn s.blk) ⟨tmps, []⟩ [.code as, .beginRound, .code bo]) (c :: cs) w) (lone (off (roundFr fn s.blk) a1 todo (.panicking [{ v := v', recovered := false }])) (c :: cs) w1) →
        ∃ ρ' w' f tmps x y, (Instr.yield s.blk ⟨args'⟩).run P w = .ok (.round s.blk f tmps x y) w ∧ Rel P ρ' out.m w' ∧ Grow ρ ρ' m out.m w w' ∧
          ((∃ v', out.ex = .ret ∧ VRel ρ' out.v v' ∧ Steps P (lone (Frame.round s.blk f tmps x y .normal) (c :: cs) w) (lone (c.finish v') cs w')) ∨
           (∃ v v', out.ex = .panic v ∧ VRel ρ' v v' ∧ Steps P (lone (Frame.round s.blk f tmps x y .normal) (c :: cs) w) (lone (c.raise [{ v := v', recovered := false }]) cs w'))) := by
      intro v v' ρ1 w1 a1 todo m1 hp hd hv hr1 hg1 hst
      unfold panOf at hp
      obtain ⟨hfn, hp⟩ := bif_some hp
      obtain ⟨fnn, hfn⟩ := Option.isSome_iff_exists.1 hfn
      cases hp
      exact ⟨ρ1, w1, fn, tmps, as, bo, hy, hr1, hg1, .inr ⟨v, v', rfl, hv, by rw [hfr]; exact hst.trans (.one (step_raise_round hd hfn))⟩⟩
    split at h
    · rename_i ts2 v2 m1 heq
      have hle : m1.next ≤ out.m.next := by
        unfold stBody at h
        split at h
        · exact (endRound_mono (m := m1) hM h fun _ ho => (Mono.set _ _ _).trans (hM _ _ _ _ ho)).next
        · cases h
      obtain ⟨ρ1, w1, a1, f1, q1, q2, q3, q4, q5⟩ := hS _ _ _ _ heq ρ w (roundFr fn s.blk) ⟨tmps, []⟩ w.heap.size [.beginRound, .code bo] (c :: cs) _ hr (hf.left hle) hok (Nat.le_refl _) (.inl rfl)
      have q2 : f1 = on (roundFr fn s.blk) a1 [.beginRound, .code bo] := q2
      subst q2
      unfold stBody at h
      split at h
      · rename_i p' fn' n' ts' ps' as' bo' d' hl1
        obtain ⟨rr, t1, t2, t3, t4⟩ := loop_obj q3 (q4.le _ _ hs) hl1
        obtain ⟨u1, u2, u3⟩ := loop_put (st' := .busy) (p' := p') q3 (q4.le _ _ hs) hl1 t1
        have hbegin : (Instr.beginRound s.blk).run P w1 = .ok () (setBlk w1 s.blk (.loop { rr with state := .busy, pending := p' })) := by
          simp only [Instr.beginRound, Sem.run_bind, run_getLoop t1, Result.andThen_ok]
          rw [← t3] at u1 ⊢
          rw [u1]
          simp only [Result.andThen_ok, t2, Sem.run_pure]
        have hok2 : FOk ρ1 w.heap.size ⟨fn, n, ts2, some l⟩ (roundFr fn s.blk) a1 (m1.set l (some (.loop .busy p' fn' n' ts' ps' as' bo' d'))) (setBlk w1 s.blk (.loop { rr with state := .busy, pending := p' })) :=
          FOk.grow (fr := ⟨fn, n, ts2, some l⟩) q5 u3 rfl q5.tmps
        have st1 : Steps P (lone (on (roundFr fn s.blk) ⟨tmps, []⟩ [.code as, .beginRound, .code bo]) (c :: cs) w) (lone (on (roundFr fn s.blk) a1 [.code bo]) (c :: cs) (setBlk w1 s.blk (.loop { rr with state := .busy, pending := p' }))) :=
          q1.trans (.one (on_beginRound rfl hbegin))
        have body : ∀ o2, self ⟨fn, n, ts2, some l⟩ (.code bo) (m1.set l (some (.loop .busy p' fn' n' ts' ps' as' bo' d'))) = some o2 → o2.m.next ≤ out.m.next →
            ∃ ρ2 w2 a2 f2, Steps P (lone (on (roundFr fn s.blk) ⟨tmps, []⟩ [.code as, .beginRound, .code bo]) (c :: cs) w) (lone f2 (c :: cs) w2) ∧ Ends ρ2 (roundFr fn s.blk) a2 [] o2.ex f2 ∧ Rel P ρ2 o2.m w2 ∧ Grow ρ ρ2 m o2.m w w2 ∧ a2.defers = [] ∧ ρ2 l = some s := by
          intro o2 ho2 hle2
          obtain ⟨ρ2, w2, a2, f2, x1, x2, x3, x4, x5⟩ := hS _ _ _ _ ho2 ρ1 _ (roundFr fn s.blk) a1 w.heap.size [] (c :: cs) _ u2 (((hf.right q4).right u3).left hle2) hok2 (by rw [setBlk_size]; exact q4.size) (.inl rfl)
          refine ⟨ρ2, w2, a2, f2, st1.trans x1, x2, x3, (q4.trans u3).trans x4, ?_, x4.le _ _ (q4.le _ _ hs)⟩
          rcases x5.round with ⟨_, _, _, _, _, y1⟩ | ⟨y1, _⟩
          · exact y1
          · cases y1
        have fin : ∀ (v : Value) (jump : Option Code) (st : LoopState) (o2 : Out) (ρ2 : Ren) (w2 : World) (a2 : Act) (todo : List Item), outOf v (setLoop o2.m l st jump) = some out → st = (if jump.isNone then .ready else .done) → v = .bool jump.isNone →
            Steps P (lone (on (roundFr fn s.blk) ⟨tmps, []⟩ [.code as, .beginRound, .code bo]) (c :: cs) w) (lone (on (roundFr fn s.blk) a2 todo) (c :: cs) w2) → Rel P ρ2 o2.m w2 → Grow ρ ρ2 m o2.m w w2 → ρ2 l = some s →
            ((todo = [] ∧ jump = none) ∨ (∃ k, todo = .code .ret :: k ∧ jump = some .ret) ∨ (∃ id k, todo = .code (.exit id) :: k ∧ jump = some (.exit id) ∧ exitTo id k = none)) →
            ∃ ρ' w' f tmps x y, (Instr.yield s.blk ⟨args'⟩).run P w = .ok (.round s.blk f tmps x y) w ∧ Rel P ρ' out.m w' ∧ Grow ρ ρ' m out.m w w' ∧
              ((∃ v', out.ex = .ret ∧ VRel ρ' out.v v' ∧ Steps P (lone (Frame.round s.blk f tmps x y .normal) (c :: cs) w) (lone (c.finish v') cs w')) ∨
               (∃ v v', out.ex = .panic v ∧ VRel ρ' v v' ∧ Steps P (lone (Frame.round s.blk f tmps x y .normal) (c :: cs) w) (lone (c.raise [{ v := v', recovered := false }]) cs w'))) := by
          intro v jump st o2 ρ2 w2 a2 todo hout hst hv x1 x3 x4 x5 hj
          unfold outOf at hout
          split at hout
          · rename_i m3 hm3
            cases hout
            unfold setLoop at hm3
            split at hm3
            · rename_i y1 y2 y3 y4 y5 y6 y7 y8 y9 hl2
              cases hm3
              obtain ⟨r3, z1, _⟩ := loop_obj x3 x5 hl2
              obtain ⟨z2, z3, z4⟩ := loop_put (st' := st) (p' := jump) x3 x5 hl2 z1
              have hend : (Instr.endRound s.blk jump).run P w2 = .ok (.bool jump.isNone) (setBlk w2 s.blk (.loop { r3 with state := st, pending := jump })) := by
                simp only [Instr.endRound, Sem.run_bind, run_getLoop z1, Result.andThen_ok]
                rw [← hst, z2]
                simp only [Result.andThen_ok, Sem.run_pure]
              refine ⟨ρ2, _, fn, tmps, as, bo, hy, z3, x4.trans z4, .inl ⟨_, rfl, by rw [hv]; exact .bool _, ?_⟩⟩
              rw [hfr]
              exact x1.trans (.one (step_leave_round rfl rfl hj hend))
            · cases hm3
          · cases hout
        unfold endRound at h
        split at h
        · rename_i ts3 v3 m3 heq2
          have hle3 : m3.next ≤ out.m.next := (outOf_mono (m := m3) h fun _ hs => setLoop_mono (self := self) hM hs).next
          obtain ⟨ρ2, w2, a2, f2, x1, x2, x3, x4, x5, x6⟩ := body _ heq2 hle3
          have x2 : f2 = on (roundFr fn s.blk) a2 [] := x2
          subst x2
          exact fin _ none .ready ⟨.normal, ts3, v3, m3⟩ ρ2 w2 a2 [] h rfl rfl x1 x3 x4 x6 (.inl ⟨rfl, rfl⟩)
        · rename_i ts3 v3 m3 heq2
          have hle3 : m3.next ≤ out.m.next := (outOf_mono (m := m3) h fun _ hs => setLoop_mono (self := self) hM hs).next
          obtain ⟨ρ2, w2, a2, f2, x1, x2, x3, x4, x5, x6⟩ := body _ heq2 hle3
          obtain ⟨k', rfl⟩ := x2
          exact fin _ (some .ret) .done ⟨.ret, ts3, v3, m3⟩ ρ2 w2 a2 _ h rfl rfl x1 x3 x4 x6 (.inr (.inl ⟨k', rfl, rfl⟩))
        · rename_i id ts3 v3 m3 heq2
          have hle3 : m3.next ≤ out.m.next := (outOf_mono (m := m3) h fun _ hs => setLoop_mono (self := self) hM hs).next
          obtain ⟨ρ2, w2, a2, f2, x1, x2, x3, x4, x5, x6⟩ := body _ heq2 hle3
          obtain ⟨k', rfl, hx⟩ := x2
          exact fin _ (some (.exit id)) .done ⟨.exit id, ts3, v3, m3⟩ ρ2 w2 a2 _ h rfl rfl x1 x3 x4 x6 (.inr (.inr ⟨id, k', rfl, rfl, hx⟩))
        · rename_i v ts3 v3 m3 heq2
          have hle3 : m3.next ≤ out.m.next := by rw [← panOf_mono h]; exact Nat.le_refl _
          obtain ⟨ρ2, w2, a2, f2, x1, x2, x3, x4, x5, x6⟩ := body _ heq2 hle3
          obtain ⟨k', v', rfl, hv⟩ := x2
          exact pan v v' ρ2 w2 a2 k' m3 h x5 hv x3 x4 x1
        · cases h
      · cases h
    · rename_i v ts2 v2 m1 heq
      have hle : m1.next ≤ out.m.next := by rw [← panOf_mono h]; exact Nat.le_refl _
      obtain ⟨ρ1, w1, a1, f1, q1, q2, q3, q4, q5⟩ := hS _ _ _ _ heq ρ w (roundFr fn s.blk) ⟨tmps, []⟩ w.heap.size [.beginRound, .code bo] (c :: cs) _ hr (hf.left hle) hok (Nat.le_refl _) (.inl rfl)
      obtain ⟨k', v', rfl, hv⟩ := q2
      refine pan v v' ρ1 w1 a1 k' m1 h ?_ hv q3 q4 q1
      rcases q5.round with ⟨_, _, _, _, _, y1⟩ | ⟨y1, _⟩
      · exact y1
      · cases y1
    · cases h
  · cases h

end
end
end Go.Ab
