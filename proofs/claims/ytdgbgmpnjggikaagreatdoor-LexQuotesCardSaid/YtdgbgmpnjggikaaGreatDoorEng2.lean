/-
  The engine, part 2: an interpreter over abstract memories, and the proof that the model's machine does what it reckons. Conditions: none.
-/
import Derived.Test.YtdgbgmpnjggikaaGreatDoorEng1
import Derived.Lib.Bytealg
import Derived.Laws.Externs

set_option autoImplicit true
set_option relaxedAutoImplicit true
set_option linter.unusedSectionVars false
set_option linter.unusedVariables false
set_option linter.unusedSimpArgs false
namespace Go.Ab
variable [Vals]
section
variable {P : Program} {ρ ρ' : Ren} {m m' : AW} {w w' : World}
theorem cellsOf_size (h : sizeT P e = some sz) : P.cellsOf e = sz := by
 unfold sizeT at h
 simp only [Program.cellsOf, h, Option.getD_some]
theorem first_nil (w : World) (hl : l = 0) : (Builtin.firstCells sz l (.slice a l c)).run P w = .ok ⟨[]⟩ w := by
 subst hl
 cases a <;> simp [Builtin.firstCells, loadCells, loadCellsFrom]
theorem fresh_rel (h : Rel P ρ m w) (hf : ρ m.next = none) {mt : Option Nat} (hmd : md ≠ .ro) (ho : VsRel ρ old old') (hv : VsRel ρ vs vs') (hol : old.length = l * sz) (hvl : vs.length = n * sz) (hz : z.length = sz) (hsz : sizeT P e = some sz)
  (hcap : l + n ≤ cap) (hbig : cap < 2 ^ 63) (hr : x.run P w = .ok (.slice (some ⟨w.heap.size, 0, none⟩) (l + n) cap) { w with heap := w.heap.push (.cells ⟨old' ++ vs' ++ replicateL z (cap - (l + n))⟩ e), drawn := w.drawn + 1 }) :
  DoesV P ρ m w x (.slice (some ⟨m.next, 0, none⟩) (l + n) top) (m.new (.cells (old ++ vs) e true md mt)) := by
 have hov := ho.append hv
 have hb : cap < big := by simp only [big]; omega
 have hsize : (old' ++ vs' ++ replicateL z (cap - (l + n))).length = cap * sz := by
  rw [List.length_append, List.length_append, ← ho.length_eq, ← hv.length_eq, replicateL_length, hz, hol, hvl, ← Nat.add_mul, ← Nat.add_mul]
  congr 1
  omega
 have hle : ρ.le (ρ.set m.next ⟨w.heap.size, 0, cap⟩) := Ren.le_set hf
 have hn := h.new (w' := { w with heap := w.heap.push (.cells ⟨old' ++ vs' ++ replicateL z (cap - (l + n))⟩ e), drawn := w.drawn + 1 }) hf (x := .cells (old ++ vs) e true md mt) (y := .cells ⟨old' ++ vs' ++ replicateL z (cap - (l + n))⟩ e) (cap := cap)
  rfl ⟨rfl, rfl, rfl⟩ (by
   refine ⟨_, (0, 0), rfl, ?_, ?_, ?_, ?_, ?_⟩
   ·show 0 + (old ++ vs).length ≤ (old' ++ vs' ++ replicateL z (cap - (l + n))).length
    have e1 : (old' ++ vs' ++ replicateL z (cap - (l + n))).length = (old' ++ vs').length + (replicateL z (cap - (l + n))).length := List.length_append
    rw [e1, hov.length_eq]
    omega
   ·intro i v hi
    obtain ⟨v', h1, h2⟩ := hov.get hi
    refine ⟨v', ?_, h2.mono hle⟩
    have hlt := (List.getElem?_eq_some_iff.1 h1).1
    simp only [Nat.zero_add]
    show (⟨old' ++ vs' ++ replicateL z (cap - (l + n))⟩ : Array Value)[i]? = _
    have : (⟨old' ++ vs' ++ replicateL z (cap - (l + n))⟩ : Array Value)[i]? = (old' ++ vs' ++ replicateL z (cap - (l + n)))[i]? := by simp
    rw [this, List.getElem?_append_left hlt, h1]
   ·intro h; cases h
   ·intro _
    refine ⟨hb, ?_⟩
    show 0 + cap * P.cellsOf e ≤ (old' ++ vs' ++ replicateL z (cap - (l + n))).length
    rw [hsize, cellsOf_size hsz]
    omega
   cases md with
   | plain => rfl
   | frozen => exact .inl rfl
   | strish => intro j _; simp only; omega
   | ro => trivial)
 refine ⟨_, _, _, hr, hn.1, hn.2, ?_⟩
 have := VRel.open_ (ρ := ρ.set m.next ⟨w.heap.size, 0, cap⟩) (b := m.next) (off := 0) (len := l + n) (i := 0) (a' := ⟨w.heap.size, 0, none⟩) (Ren.set_same _ _ _) (by simpa using hcap) hb (fun _ => rfl)
 simpa using this
theorem grow_in_place (h : Rel P ρ m w) (hf : ρ m.next = none) {mt : Option Nat} (hb : m.heap.get b = some (.cells cs e true md mt)) (hs : ρ b = some s) (hsz : sizeT P e = some sz)
  (hmd : md ≠ .ro) (hoff : off = i * sz) (hk : k = off + len * sz) (hkc : k ≤ cs.length) (hfz : k = cs.length ∨ md ≠ .frozen) (hcap : i + (len + n) ≤ s.cap) (hv : VsRel ρ vs vs') (hvl : vs.length = n * sz) (hfl : flats vs = true) (hn1 : 1 ≤ n) :
  ∃ w', (storeCells ⟨s.blk, s.off + k, none⟩ vs' 0).run P w = .ok () w' ∧
   Rel P (ρ.set m.next ⟨s.blk, s.off + off, s.cap - i⟩) (((kill m mt).set b (some (.cells (cs.take k) e true md (some m.next)))).new (.cells ((cs.take k).drop off ++ vs) e true md (some b))) w' ∧
   Grow ρ (ρ.set m.next ⟨s.blk, s.off + off, s.cap - i⟩) m (((kill m mt).set b (some (.cells (cs.take k) e true md (some m.next)))).new (.cells ((cs.take k).drop off ++ vs) e true md (some b))) w w' ∧
   VRel (ρ.set m.next ⟨s.blk, s.off + off, s.cap - i⟩) (.slice (some ⟨m.next, 0, none⟩) (len + n) top) (.slice (some ⟨s.blk, s.off + off, none⟩) (len + n) (s.cap - i)) := by
 obtain ⟨s2, x, h1, h2, h3⟩ := h.obj _ _ hb
 rw [hs] at h1
 cases h1
 obtain ⟨c, fr, rfl, hcs, hcell, hg1, hg2, hfr⟩ := h3
 obtain ⟨hbig, hroom⟩ := hg2 rfl
 rw [cellsOf_size hsz] at hroom
 have hl := hv.length_eq
 have hro : isRo (.cells cs e true md mt) = false := by cases md <;> first | rfl | exact absurd rfl hmd
 have hal := alone h hb hs hro
 have hbn : b ≠ m.next := fun e => by rw [e, hf] at hs; cases hs
 have hmul : (i + (len + n)) * sz ≤ s.cap * sz := Nat.mul_le_mul_right _ hcap
 have hmul2 : (i + (len + n)) * sz = i * sz + len * sz + n * sz := by rw [Nat.add_mul, Nat.add_mul, Nat.add_assoc]
 have hfit : s.off + k + vs'.length ≤ c.size := by omega
 have hrun := run_storeCells (P := P) (b := s.blk) (off := s.off + k) vs' 0 w c e fr h2 (by omega) (flats_rel hv hfl) (by
  intro j j1 j2 j3
  cases md with
  | plain => simp only [FrOk] at hfr; omega
  | strish => exact hfr j (by omega) j3
  | frozen =>
   rcases hfz with hfz | hfz
   ·rcases hfr with hfr | hfr <;> omega
   exact hfz rfl
  | ro => exact hmd rfl)
 rw [Nat.add_zero] at hrun
 have hcl : c.toList.length = c.size := by simp
 have hlen' : (putCells c.toList (s.off + k) vs').length = c.size := by
  rw [putCells_length _ _ _ (by omega)]
  exact hcl
 have hin := h.inb _ _ hs
 have hle : ρ.le (ρ.set m.next ⟨s.blk, s.off + off, s.cap - i⟩) := Ren.le_set hf
 have hpg : ∀ j, (⟨putCells c.toList (s.off + k) vs'⟩ : Array Value)[j]? = if s.off + k ≤ j ∧ j < s.off + k + vs'.length then vs'[j - (s.off + k)]? else c[j]? := by
  intro j
  have e1 : (⟨putCells c.toList (s.off + k) vs'⟩ : Array Value)[j]? = (putCells c.toList (s.off + k) vs')[j]? := by simp
  rw [e1, putCells_get _ _ _ _ (by omega)]
  simp
 have hknext : (kill m mt).next = m.next := kill_next
 have hget : ∀ b2, (((kill m mt).set b (some (.cells (cs.take k) e true md (some m.next)))).new (.cells ((cs.take k).drop off ++ vs) e true md (some b))).heap.get b2 =
   if b2 = m.next then some (.cells ((cs.take k).drop off ++ vs) e true md (some b)) else if b2 = b then some (.cells (cs.take k) e true md (some m.next)) else (kill m mt).heap.get b2 := by
  intro b2
  rw [AW.new_get]
  have : ((kill m mt).set b (some (.cells (cs.take k) e true md (some m.next)))).next = m.next := hknext
  rw [this, AW.set_get]
 have hold : ∀ {b2 s2}, b2 ≠ m.next → (ρ.set m.next ⟨s.blk, s.off + off, s.cap - i⟩) b2 = some s2 → ρ b2 = some s2 := by
  intro b2 s2 hb2 h1
  simpa [Ren.set, hb2] using h1
 refine ⟨_, hrun, ⟨?_, ?_, ?_, ?_⟩, ⟨hle, ?_, ⟨rfl, rfl, rfl⟩, by rw [setBlk_size]; exact Nat.le_refl _, ?_, ?_, ?_, ?_⟩, ?_⟩
 ·intro b2 o2 hb2
  rw [hget] at hb2
  split at hb2
  ·rename_i e2
   subst e2
   cases hb2
   refine ⟨_, _, Ren.set_same _ _ _, by rw [setBlk_get hin, if_pos rfl], ⟨_, fr, rfl, ?_, ?_, ?_, ?_, ?_⟩⟩
   ·show s.off + off + ((cs.take k).drop off ++ vs).length ≤ (putCells _ _ _).length
    rw [hlen', List.length_append, List.length_drop, List.length_take]
    omega
   ·intro j v hj
    simp only [hpg]
    have hdl : ((cs.take k).drop off).length = k - off := by rw [List.length_drop, List.length_take]; omega
    by_cases hjk : j < k - off
    ·rw [List.getElem?_append_left (by omega), List.getElem?_drop, List.getElem?_take, if_pos (by omega)] at hj
     rw [if_neg (by omega)]
     obtain ⟨v', q1, q2⟩ := hcell _ _ hj
     exact ⟨v', by rw [← q1, Nat.add_assoc], q2.mono hle⟩
    rw [List.getElem?_append_right (by omega), hdl] at hj
    have hjl := (List.getElem?_eq_some_iff.1 hj).1
    rw [if_pos (by omega)]
    obtain ⟨v', q1, q2⟩ := hv.get hj
    exact ⟨v', by rw [← q1]; congr 1; omega, q2.mono hle⟩
   ·intro hh; cases hh
   ·intro _
    refine ⟨by simp only [big] at *; omega, ?_⟩
    show s.off + off + (s.cap - i) * P.cellsOf e ≤ (putCells _ _ _).length
    rw [hlen', cellsOf_size hsz, Nat.sub_mul]
    have : i * sz ≤ s.cap * sz := Nat.mul_le_mul_right _ (by omega)
    omega
   show FrOk md (s.off + off + ((cs.take k).drop off ++ vs).length) (putCells _ _ _).length fr
   rw [hlen', List.length_append, List.length_drop, List.length_take]
   cases md with
   | plain => exact hfr
   | strish => exact hfr
   | frozen =>
    rcases hfz with hfz | hfz
    ·rcases hfr with hfr | hfr
     ·exact .inl hfr
     exact .inr (by omega)
    exact absurd rfl hfz
   | ro => trivial
  split at hb2
  ·rename_i e2
   subst e2
   cases hb2
   refine ⟨s, _, hle _ _ hs, by rw [setBlk_get hin, if_pos rfl], ⟨_, fr, rfl, ?_, ?_, ?_, ?_, ?_⟩⟩
   ·show s.off + (cs.take k).length ≤ (putCells _ _ _).length
    rw [hlen', List.length_take]
    omega
   ·intro j v hj
    have hjl := (List.getElem?_eq_some_iff.1 hj).1
    rw [List.length_take] at hjl
    rw [List.getElem?_take, if_pos (by omega)] at hj
    rw [hpg, if_neg (by omega)]
    obtain ⟨v', q1, q2⟩ := hcell _ _ hj
    exact ⟨v', q1, q2.mono hle⟩
   ·intro hh; cases hh
   ·intro _
    refine ⟨hbig, ?_⟩
    show _ ≤ (putCells _ _ _).length
    rw [hlen', cellsOf_size hsz]
    exact hroom
   show FrOk md (s.off + (cs.take k).length) (putCells _ _ _).length fr
   rw [hlen', List.length_take]
   cases md with
   | plain => exact hfr
   | strish => exact hfr
   | frozen =>
    rcases hfz with hfz | hfz
    ·rcases hfr with hfr | hfr
     ·exact .inl hfr
     exact .inr (by omega)
    exact absurd rfl hfz
   | ro => trivial
  rename_i e1 e2
  obtain ⟨s2, y2, q1, q2, q3⟩ := (h.kill mt).obj b2 o2 hb2
  exact ⟨s2, y2, hle _ _ q1, by rw [setBlk_get hin, if_neg (hal b2 o2 s2 e2 hb2 q1)]; exact q2, q3.mono hle⟩
 ·intro b1 b2 o1 o2 s1 s2 hne g1 g2 r1 r2 he
  rw [hget] at g1 g2
  split at g1
  ·rename_i e1
   cases g1
   rw [e1, Ren.set_same] at r1
   cases r1
   split at g2
   ·rename_i e2
    exact absurd (e1.trans e2.symm) hne
   rename_i e2
   have r2 := hold e2 r2
   split at g2
   ·rename_i e3
    cases g2
    exact .inl ⟨by rw [e3]; rfl, by rw [e1]; rfl⟩
   rename_i e3
   exact absurd he.symm (hal b2 o2 s2 e3 g2 r2)
  rename_i e1
  have r1 := hold e1 r1
  split at g2
  ·rename_i e2
   cases g2
   rw [e2, Ren.set_same] at r2
   cases r2
   split at g1
   ·rename_i e3
    cases g1
    exact .inl ⟨by rw [e2]; rfl, by rw [e3]; rfl⟩
   rename_i e3
   exact absurd he (hal b1 o1 s1 e3 g1 r1)
  rename_i e2
  have r2 := hold e2 r2
  split at g1
  ·rename_i e3
   split at g2
   ·rename_i e4
    exact absurd (e3.trans e4.symm) hne
   rename_i e4
   rw [e3, hs] at r1
   cases r1
   exact absurd he.symm (hal b2 o2 s2 e4 g2 r2)
  rename_i e3
  split at g2
  ·rename_i e4
   rw [e4, hs] at r2
   cases r2
   exact absurd he (hal b1 o1 s1 e3 g1 r1)
  exact (h.kill mt).sep b1 b2 o1 o2 s1 s2 hne g1 g2 r1 r2 he
 ·intro g hg
  obtain ⟨c2, hc2⟩ := h.glob g hg
  exact ⟨c2, hle _ _ hc2⟩
 ·intro b2 s2 hb2
  rw [setBlk_size]
  by_cases e2 : b2 = m.next
  ·subst e2
   rw [Ren.set_same] at hb2
   cases hb2
   exact hin
  exact h.inb _ _ (hold e2 hb2)
 ·intro j hj
  have : j ≠ m.next := by
   simp only [AW.new, AW.set, hknext] at hj
   omega
  simp [Ren.set, this]
 ·intro B hB hno
  have : B ≠ s.blk := fun e2 => hno ⟨b, _, s, hb, hro, hs, e2.symm⟩
  rw [setBlk_get hin, if_neg this]
 ·rintro B ⟨b2, o2, s2, q1, q2, q3, q4⟩
  rw [hget] at q1
  split at q1
  ·rename_i e2
   rw [e2, Ren.set_same] at q3
   cases q3
   exact .inl ⟨b, _, s, hb, hro, hs, q4⟩
  rename_i e1
  split at q1
  ·rename_i e2
   rw [e2] at q3
   rw [hle _ _ hs] at q3
   cases q3
   exact .inl ⟨b, _, s, hb, hro, hs, q4⟩
  exact .inl ⟨b2, o2, s2, sub_kill _ _ q1, q2, hold e1 q3, q4⟩
 ·simp only [AW.new, AW.set, hknext]
  omega
 ·rintro B ⟨b2, o2, s2, q1, q3, q4⟩
  rw [hget] at q1
  split at q1
  ·rename_i e2
   rw [e2, Ren.set_same] at q3
   cases q3
   exact .inl ⟨b, _, s, hb, hs, q4⟩
  rename_i e1
  split at q1
  ·rename_i e2
   rw [e2] at q3
   rw [hle _ _ hs] at q3
   cases q3
   exact .inl ⟨b, _, s, hb, hs, q4⟩
  exact .inl ⟨b2, o2, s2, sub_kill _ _ q1, hold e1 q3, q4⟩
 have := VRel.open_ (ρ := ρ.set m.next ⟨s.blk, s.off + off, s.cap - i⟩) (b := m.next) (off := 0) (len := len + n) (i := 0) (a' := ⟨s.blk, s.off + off, none⟩) (Ren.set_same _ _ _) (by show 0 + (len + n) ≤ s.cap - i; omega) (by show s.cap - i < big; omega) (fun _ => rfl)
 simpa using this
end
end Go.Ab
namespace Go.Ab
variable [Vals]
section
variable {P : Program} {ρ ρ' : Ren} {m m' : AW} {w w' : World}
theorem zeroFits_some (h : zeroFits P e sz = true) : ∃ z, zeroT P e = some z ∧ (cellsOfV z).length = sz := by
 unfold zeroFits at h
 split at h
 ·rename_i z hz
  simp only [nbeq, decide_eq_true_eq] at h
  exact ⟨z, hz, h⟩
 cases h
theorem appendA_rel (h : Rel P ρ m w) (hf : ∀ i, m.next ≤ i → i < m'.next → ρ i = none) (hs : appendA P e m s n vs = some (v, m')) (hsr : VRel ρ s s') (hv : VsRel ρ vs vs')
  (hA : ∀ sz, sizeT P e = some sz → AppArg P w ts e sz x' n vs') (hv0 : n = 0 → vs' = []) (hst : ts[0]? = some st) (hu : P.underlying st = some (.slice e)) (hse : (sizeT P e).isSome) : DoesV P ρ m w (Builtin.append_ ts ty #[s', x']) v m' := by
 obtain ⟨sz, hsz⟩ := Option.isSome_iff_exists.1 hse
 have hA := hA sz hsz
 obtain ⟨i, hi⟩ : ∃ i, P.info? e = some i := by
  unfold sizeT at hsz
  cases hh : P.info? e with
  | none => rw [hh] at hsz; cases hsz
  | some i => exact ⟨i, rfl⟩
 unfold appendA at hs
 split at hs
 ·have hv0 := hv0 rfl
  subst hv0
  split at hs
  ·rename_i a len cap
   obtain ⟨hle, hs⟩ := bif_some hs
   simp only [nble, decide_eq_true_eq, Option.some.injEq, Prod.mk.injEq] at hle hs
   obtain ⟨rfl, rfl⟩ := hs
   have key : ∀ (a' : Option Addr) (cap' : Nat), s' = .slice a' len cap' → len ≤ cap' → DoesV P ρ m w (Builtin.append_ ts ty #[s', x']) (.slice a len cap) m := by
    intro a' cap' he hle'
    subst he
    refine ⟨ρ, w, _, append_in (n := 0) hA hst hu hsz hi (by omega) (by omega) ?_, h, .refl _ _ _, hsr⟩
    cases a' <;> simp [storeCells]
   cases hsr with
   | sliceNil hc => exact key _ _ rfl hle
   | slice hb hc => exact key _ _ rfl hle
   | empty => exact key _ _ rfl (by omega)
   | open_ hb hic hc ha => exact key _ _ rfl (by omega)
  cases hs
 ·rename_i a len cap hn0
  have hn0 : n ≠ 0 := by intro e0; exact hn0 e0
  rw [hsz, hi] at hs
  simp only at hs
  cases hck : (zeroFits P e sz && Nat.beq vs.length (n * sz) && flats vs && Nat.ble (len + n) 4294967296 && Nat.ble i.bytes 1024 && Nat.ble 1 i.bytes && Nat.ble 1 sz) with
  | false => rw [hck] at hs; cases hs
  | true =>
  rw [hck] at hs
  simp only [Bool.not_true, cond_false] at hs
  simp only [Bool.and_eq_true, nbeq, nble, decide_eq_true_eq] at hck
  obtain ⟨⟨⟨⟨⟨⟨hzf, hvl⟩, hfl⟩, h32⟩, hb⟩, hb1⟩, hsz1⟩ := hck
  obtain ⟨z, hz, hzl⟩ := zeroFits_some hzf
  have hn1 : 1 ≤ n := by omega
  have hbn : i.bytes * n ≤ 281474976710656 := by
   have : i.bytes * n ≤ 1024 * 4294967296 := Nat.mul_le_mul hb (by omega)
   omega
  have hvne : vs ≠ [] := by
   intro e0
   rw [e0] at hvl
   have : 1 * 1 ≤ n * sz := Nat.mul_le_mul hn1 hsz1
   simp at hvl
   omega
  -- a new row
  have fresh : ∀ (old old' : List Value) (base : Option Addr) (c : Nat), s' = .slice base len c → ¬ len + n ≤ c → VsRel ρ old old' → old.length = len * sz → (∀ d, (Builtin.firstCells sz len (.slice base len c)).run P { w with drawn := d } = .ok ⟨old'⟩ { w with drawn := d }) →
    ρ m.next = none → DoesV P ρ m w (Builtin.append_ ts ty #[s', x']) (.slice (some ⟨m.next, 0, none⟩) (len + n) top) (m.new (.cells (old ++ vs) e true .plain none)) := by
   intro old old' base c he hle ho hol hrun hfr
   subst he
   obtain ⟨cap, c1, c2, hr⟩ := append_out (ty := ty) hA hst hu hsz hi hb hb1 hle h32 hz hzl hrun
   exact fresh_rel h hfr (by simp) ho hv hol hvl hzl hsz c1 c2 hr
  split at hs
  ·obtain ⟨hc, hs⟩ := bif_some hs
   simp only [Bool.and_eq_true, nbeq, decide_eq_true_eq, Option.some.injEq, Prod.mk.injEq] at hc hs
   obtain ⟨rfl, rfl⟩ := hc
   obtain ⟨rfl, rfl⟩ := hs
   cases hsr
   exact fresh [] [] none 0 rfl (by omega) .nil (by simp) (fun d => first_nil _ rfl) (hf _ (Nat.le_refl _) (by simp [AW.new]))
  ·rename_i b off
   by_cases hbig : cap < big
   ·simp only [nblt, hbig, decide_true, cond_true] at hs
    by_cases hle : len + n ≤ cap
    ·simp only [nble, hle, decide_true, cond_true] at hs
     obtain ⟨m2, hst2, hs⟩ := Option.map_eq_some_iff.1 hs
     simp only [Prod.mk.injEq] at hs
     obtain ⟨rfl, rfl⟩ := hs
     cases hsr with
     | slice hb2 hc2 =>
      rename_i s
      obtain ⟨w', q1, q2, q3⟩ := storeA_rel h hst2 hv (a' := ⟨s.blk, s.off + (off + len * sz), none⟩) (fun _ => ⟨s, hb2, rfl⟩)
      refine ⟨ρ, w', _, append_in hA hst hu hsz hi hbn hle ?_, q2, q3, .slice hb2 hc2⟩
      simp only [Addr.add_eq, Nat.add_assoc]
      exact q1
     | empty => omega
     | open_ hb2 hi2 hc2 ha2 =>
      simp only [big, top] at *
      omega
    simp only [nble, hle, decide_false, cond_false] at hs
    have real : ∃ a' c', s' = .slice (some a') len c' ∧ c' = cap := by
     cases hsr with
     | slice hb2 hc2 => exact ⟨_, _, rfl, rfl⟩
     | empty => exact ⟨_, _, rfl, rfl⟩
     | open_ hb2 hi2 hc2 ha2 =>
      simp only [big, top] at *
      omega
    obtain ⟨a', c', rfl, rfl⟩ := real
    split at hs
    ·rename_i o ho
     obtain ⟨old, hold, hs⟩ := Option.map_eq_some_iff.1 hs
     simp only [Prod.mk.injEq] at hs
     obtain ⟨rfl, rfl⟩ := hs
     have hfr := hf _ (Nat.le_refl _) (by simp [AW.new])
     by_cases hl0 : len = 0
     ·have : old = [] := List.eq_nil_of_length_eq_zero (by rw [rdCells_len hold, hl0, Nat.zero_mul])
      subst this
      exact fresh [] [] _ _ rfl hle .nil (by simp [hl0]) (fun d => first_nil _ hl0) hfr
     obtain ⟨s, x, q1, q2, q3⟩ := h.obj _ _ ho
     obtain ⟨a2, c2, he, ha⟩ := slice_addr hsr q1
     cases he
     have ha := ha (by omega)
     subst ha
     obtain ⟨old', hr, hov, hol⟩ := rdCells_rel2 hold q3
     exact fresh old old' _ _ rfl hle hov hol (fun d => hr { w with drawn := d } q2) hfr
    obtain ⟨hc, hs⟩ := bif_some hs
    simp only [nbeq, decide_eq_true_eq, Option.some.injEq, Prod.mk.injEq] at hc hs
    obtain ⟨rfl, rfl⟩ := hs
    exact fresh [] [] _ _ rfl hle .nil (by simp [hc]) (fun d => first_nil _ hc) (hf _ (Nat.le_refl _) (by simp [AW.new]))
   simp only [nblt, hbig, decide_false, cond_false] at hs
   split at hs
   ·rename_i cs e' md mate hbo
    obtain ⟨hc, hs2⟩ := bif_some hs
    clear hs
    simp only [Bool.and_eq_true, Bool.or_eq_true, Bool.not_eq_true', decide_eq_false_iff_not, nbeq, nble, decide_eq_true_eq, Option.some.injEq, Prod.mk.injEq] at hc hs2
    obtain ⟨⟨⟨⟨rfl, hmd⟩, hoff⟩, hk⟩, hfz⟩ := hc
    obtain ⟨rfl, rfl⟩ := hs2
    have hfr := hf _ (Nat.le_refl _) (by simp [AW.new, AW.set, kill_next])
    cases hsr with
    | slice hb2 hc2 => exact absurd hc2 hbig
    | empty => simp [big] at hbig
    | open_ hb2 hi2 hc2 ha2 =>
     rename_i j a' s
     have hj : top - (top - j) = j := by simp only [big, top] at *; omega
     rw [hj] at hoff
     by_cases hle : len + n ≤ s.cap - j
     ·have ha := ha2 (by omega)
      subst ha
      obtain ⟨w', q1, q2, q3, q4⟩ := grow_in_place h hfr hbo hb2 hsz hmd hoff rfl hk hfz (by omega) hv hvl hfl hn1
      refine ⟨_, w', _, append_in hA hst hu hsz hi hbn hle ?_, q2, q3, q4⟩
      simp only [Addr.add_eq, Nat.add_assoc]
      exact q1
     obtain ⟨s2, x, q1, q2, q3⟩ := h.obj _ _ hbo
     rw [hb2] at q1
     cases q1
     have hro : isRo (.cells cs e true md mate) = false := by cases md <;> first | rfl | exact absurd rfl hmd
     have hrd : rdCells (.cells cs e true md mate) off (len * sz) = some ((cs.take (off + len * sz)).drop off) := by
      simp only [rdCells, nble, hk, decide_true, cond_true, List.drop_take, Nat.add_sub_cancel_left]
     have hx2 : XRel P ρ s (.cells (cs.take (off + len * sz)) e true md (some m.next)) x := by
      obtain ⟨c, fr, rfl, hcs, hcell, hg1, hg2, hfz2⟩ := q3
      refine ⟨c, fr, rfl, by rw [List.length_take]; omega, ?_, fun hh => (by cases hh), hg2, ?_⟩
      ·intro i v hiv
       have hil := (List.getElem?_eq_some_iff.1 hiv).1
       rw [List.length_take] at hil
       rw [List.getElem?_take, if_pos (by omega)] at hiv
       exact hcell _ _ hiv
      rw [List.length_take]
      cases md with
      | plain => exact hfz2
      | strish => exact hfz2
      | frozen =>
       rcases hfz with hfz | hfz
       ·rcases hfz2 with hfz2 | hfz2
        ·exact .inl hfz2
        exact .inr (by omega)
       exact absurd rfl hfz
      | ro => trivial
     have hput := h.put2 (m0 := kill m mate) sub_kill kill_next (o' := .cells (cs.take (off + len * sz)) e true md (some m.next)) (y := x) hbo hb2 hro (by cases md <;> first | rfl | exact absurd rfl hmd) (alone h hbo hb2 hro) hx2
     rw [setBlk_same q2] at hput
     have hnx : ((kill m mate).set b (some (.cells (cs.take (off + len * sz)) e true md (some m.next)))).next = m.next := kill_next
     have fin : ∀ (old' : List Value), VsRel ρ ((cs.take (off + len * sz)).drop off) old' → (∀ d, (Builtin.firstCells sz len (.slice (some a') len (s.cap - j))).run P { w with drawn := d } = .ok ⟨old'⟩ { w with drawn := d }) →
       DoesV P ρ m w (Builtin.append_ ts ty #[.slice (some a') len (s.cap - j), x']) (.slice (some ⟨m.next, 0, none⟩) (len + n) top)
        (((kill m mate).set b (some (.cells (cs.take (off + len * sz)) e true md (some m.next)))).new (.cells ((cs.take (off + len * sz)).drop off ++ vs) e true md (some b))) := by
      intro old' hov hrun
      obtain ⟨cap, c1, c2, hr⟩ := append_out (ty := ty) hA hst hu hsz hi hb hb1 hle h32 hz hzl hrun
      have := fresh_rel (m := (kill m mate).set b (some (.cells (cs.take (off + len * sz)) e true md (some m.next)))) (mt := some b) hput.1 (by rw [hnx]; exact hfr) hmd hov hv (rdCells_len hrd) hvl hzl hsz c1 c2 hr
      rw [hnx] at this
      obtain ⟨ρ', w', v', t1, t2, t3, t4⟩ := this
      exact ⟨ρ', w', v', t1, t2, hput.2.trans t3, t4⟩
     by_cases hl0 : len = 0
     ·have he : (cs.take (off + len * sz)).drop off = [] := List.eq_nil_of_length_eq_zero (by rw [rdCells_len hrd, hl0, Nat.zero_mul])
      have := fin [] (by rw [he]; exact .nil) (fun d => first_nil _ hl0)
      exact this
     have ha := ha2 (by omega)
     subst ha
     obtain ⟨old', hr, hov, hol⟩ := rdCells_rel2 hrd q3
     exact fin old' hov (fun d => hr { w with drawn := d } q2)
   cases hs
  simp at hs
 cases hs
end
end Go.Ab
namespace Go.Ab
variable [Vals]
section
variable {P : Program} {ρ ρ' : Ren} {m m' : AW} {w w' : World}
theorem firstA_zero (h : firstA m sz 0 x = some vs) : vs = [] := by
 unfold firstA at h
 split at h
 ·simpa using h.symm
 ·simpa using h.symm
 ·simpa using h.symm
 cases h
theorem valP_some (h : valP x = some (.val v m')) : x = some (v, m') := by
 unfold valP at h
 split at h
 ·simp only [Option.some.injEq, Rs.val.injEq] at h
  obtain ⟨rfl, rfl⟩ := h
  rfl
 cases h
theorem VsRel.ground_self (h : zerosT P t sz n = some zs) : VsRel ρ zs zs := by
 unfold zerosT at h
 by_cases h0 : n * sz = 0
 ·simp only [nbeq, h0, decide_true, cond_true, Option.some.injEq] at h
  subst h
  exact .nil
 simp only [nbeq, h0, decide_false, cond_false] at h
 split at h
 ·rename_i z hz
  obtain ⟨hl, h⟩ := bif_some h
  simp only [Option.some.injEq] at h
  subst h
  exact ((zero_rel hz).cells).replicateL n
 cases h
theorem appendV_rel (h : Rel P ρ m w) (hf : ∀ i, m.next ≤ i → i < m'.next → ρ i = none) (hs : appendV P ts[0]? ts[1]? s x m = some (.val v m')) (hsr : VRel ρ s s') (hx : VRel ρ x x') :
  DoesV P ρ m w (Builtin.append_ ts ty #[s', x']) v m' := by
 unfold appendV at hs
 split at hs
 ·rename_i e ht
  obtain ⟨st, hst, hu⟩ := Option.bind_eq_some_iff.1 ht
  split at hs
  ·rename_i sz hsz
   split at hs
   ·rename_i k hxt
    obtain ⟨xt, hxt1, hxt2⟩ := Option.bind_eq_some_iff.1 hxt
    split at hs
    ·rename_i n hn
     obtain ⟨hle, hs⟩ := bif_some hs
     simp only [nble, decide_eq_true_eq] at hle
     obtain ⟨k', rfl⟩ := asInt_some hn hx
     split at hs
     ·rename_i zs hz
      refine appendA_rel h hf (valP_some hs) hsr (VsRel.ground_self hz) (fun sz2 h2 => ?_) (fun h0 => ?_) hst hu (by rw [hsz]; rfl)
      ·rw [hsz] at h2
       cases h2
       exact .zeros hxt1 hxt2 rfl hle hz
      subst h0
      simpa [zerosT, nbeq] using hz.symm
     cases hs
    cases hs
   ·rename_i td hni hxt
    obtain ⟨xt, hxt1, hxt2⟩ := Option.bind_eq_some_iff.1 hxt
    split at hs
    ·rename_i n hn
     split at hs
     ·rename_i vs hvs
      obtain ⟨vs', h1, h2, h3⟩ := firstA_rel h hvs hx hn (Nat.le_refl _)
      refine appendA_rel h hf (valP_some hs) hsr h2 (fun sz2 h2 => ?_) (fun h0 => ?_) hst hu (by rw [hsz]; rfl)
      ·rw [hsz] at h2
       cases h2
       exact .cells hxt1 hxt2 (fun k hk => hni k (by rw [hk])) h3 h1
      subst h0
      have := firstA_zero hvs
      subst this
      cases h2
      rfl
     cases hs
    cases hs
   cases hs
  cases hs
 cases hs
theorem copyV_rel (h : Rel P ρ m w) (hs : copyV P ts[0]? d x m = some (.val v m')) (hd : VRel ρ d d') (hx : VRel ρ x x') : DoesV P ρ m w (Builtin.copy_ ts ty #[d', x']) v m' := by
 unfold copyV at hs
 split at hs
 ·rename_i a dl cp
  split at hs
  ·rename_i e ht
   obtain ⟨st, hst, hu⟩ := Option.bind_eq_some_iff.1 ht
   split at hs
   ·rename_i sz hsz
    split at hs
    ·rename_i n hn
     split at hs
     ·rename_i vs hvs
      obtain ⟨vs', h1, h2, h3⟩ := firstA_rel h hvs hx hn (Nat.min_le_left _ _)
      have h1 := h1 w.drawn
      split at hs
      ·obtain ⟨hc, hs⟩ := bif_some hs
       simp only [nbeq, decide_eq_true_eq, Option.some.injEq, Rs.val.injEq] at hc hs
       obtain ⟨rfl, rfl⟩ := hs
       cases hd
       refine ⟨ρ, w, goInt (Nat.min n dl), ?_, h, .refl _ _ _, .int ..⟩
       unfold Builtin.copy_
       simp only [hst, List.getElem?_toArray, List.getElem?_cons_zero, List.getElem?_cons_succ, Sem.run_bind, run_und hu, Result.andThen_ok, run_size hsz, h3, h1, Sem.run_pure]
      ·rename_i b off
       obtain ⟨rfl, hs2⟩ := valM_some hs
       have key : ∀ (a' : Addr) (c' : Nat), d' = .slice (some a') dl c' → (vs ≠ [] → ∃ s, ρ b = some s ∧ a' = ⟨s.blk, s.off + off, none⟩) → DoesV P ρ m w (Builtin.copy_ ts ty #[d', x']) (goInt (Nat.min n dl)) m' := by
        intro a' c' he ha
        subst he
        obtain ⟨w', q1, q2, q3⟩ := storeA_rel h hs2 h2 ha
        refine ⟨ρ, w', goInt (Nat.min n dl), ?_, q2, q3, .int ..⟩
        unfold Builtin.copy_
        simp only [hst, List.getElem?_toArray, List.getElem?_cons_zero, List.getElem?_cons_succ, Sem.run_bind, run_und hu, Result.andThen_ok, run_size hsz, h3, h1, Sem.run_pure]
        simp [q1]
       have hvl : vs ≠ [] → 0 < dl := by
        intro hne
        refine Nat.pos_of_ne_zero fun h0 => hne ?_
        rw [h0, show Nat.min n 0 = 0 from Nat.min_zero _] at hvs
        exact firstA_zero hvs
       cases hd with
       | slice hb hc => exact key _ _ rfl fun _ => ⟨_, hb, rfl⟩
       | empty => exact key _ _ rfl fun hne => absurd (hvl hne) (by omega)
       | open_ hb hi hc ha => exact key _ _ rfl fun hne => ⟨_, hb, ha (by have := hvl hne; omega)⟩
      cases hs
     cases hs
    cases hs
   cases hs
  cases hs
 cases hs
theorem liesAt_bytes (hc : P.cellsOf e = 1) (count off n : Nat) (hn : off + n ≤ count) : liesAt P P.depth e count off e n = true := by
 have hd : P.depth = (2 * (P.types.size + Made.depth) + 1) + 1 := rfl
 rw [hd]
 simp only [liesAt, Bool.or_eq_true]
 left
 rw [hd]
 simp [rowAt, hc, hn, sameLayout, Nat.mod_one]
theorem run_loadB : ∀ (xs : List Int) (a : Addr) (acc : ByteArray), (∀ j x, xs[j]? = some x → w.cell? (a.add j) = some (.int .u8 x)) →
  (loadBytes a acc xs.length).run P w = .ok ⟨acc.data ++ (xs.map fun n => UInt8.ofNat n.toNat).toArray⟩ w
 | [], a, acc, _ => by simp [loadBytes]
 | x :: l, a, acc, h => by
  have h0 : w.cell? a = some (.int .u8 x) := by
   have := h 0 x rfl
   simpa [Addr.add] using this
  have ih := run_loadB l (a.add 1) (acc.push x.toNat.toUInt8) (fun j y hy => by
   have := h (j + 1) y (by simpa using hy)
   have e : (a.add 1).add j = a.add (j + 1) := by
    unfold Addr.add
    by_cases hj : j = 0
    ·subst hj; simp
    simp [hj]; omega
   rw [e]; exact this)
  simp only [List.length_cons, loadBytes, Sem.run_bind, run_load, h0, Result.andThen]
  rw [ih]
  congr 1
  apply ByteArray.ext
  simp [ByteArray.push]
theorem freeze_block (h : w.heap[b]? = some (.cells c e fr)) (hn : n ≠ 0) :
  w.freeze ⟨b, off, none⟩ n = setBlk w b (.cells c e (if fr.1 == fr.2 then (off, off + n) else (min fr.1 off, max fr.2 (off + n)))) := by
 unfold World.freeze setBlk
 rw [if_neg hn]
 congr 1
 apply Array.ext_getElem?
 intro j
 rw [Array.getElem?_modify, Array.getElem?_setIfInBounds]
 by_cases hj : b = j
 ·subst hj
  have hb : b < w.heap.size := by rw [Array.getElem?_eq_some_iff] at h; exact h.1
  simp only [if_true, h, Option.map_some, hb]
 simp [hj]
theorem unsafeString_nil (ts : Array TypeId) (ty : TypeId) (n : Value) : Builtin.unsafeString_ ts ty #[.pointer none, n] = (do
    let n ← asInt n
    let some _ := ts[0]? | stuck "unsafe.String: no argument types"
    if n < 0 then runtimePanic (.error "unsafe.String: len out of range")
    if n > IntKind.i64.max then unsupported (.unsafePointer "String: a length above the largest int")
    if n = 0 then pure (.string .empty) else runtimePanic (.error "unsafe.String: ptr is nil and len is not zero")) := rfl
theorem unsafeString_some (ts : Array TypeId) (ty : TypeId) (a : Addr) (n : Value) : Builtin.unsafeString_ ts ty #[.pointer (some a), n] = (do
    let n ← asInt n
    let some pt := ts[0]? | stuck "unsafe.String: no argument types"
    if n < 0 then runtimePanic (.error "unsafe.String: len out of range")
    if n > IntKind.i64.max then unsupported (.unsafePointer "String: a length above the largest int")
    if n = 0 then pure (.string .empty)
    else if ← variablesAt a (← elemOf pt) n.toNat then do
      let s ← loadBytes a .empty n.toNat
      freeze a n.toNat
      pure (.string s)
    else unsupported (.unsafePointer "String: not so many bytes at ptr")) := rfl
theorem unsafeStr_rel (h : Rel P ρ m w) (hs : unsafeStr P ts[0]? p n m = some (.val v m')) (hp : VRel ρ p p') (hn : VRel ρ n n') : DoesV P ρ m w (Builtin.unsafeString_ ts ty #[p', n']) v m' := by
 unfold unsafeStr at hs
 split at hs
 ·rename_i k
  cases hn
  split at hs
  ·rename_i a
   obtain ⟨ht, hs⟩ := bif_some hs
   obtain ⟨pt, hpt⟩ := Option.isSome_iff_exists.1 ht
   simp only [Option.some.injEq, Rs.val.injEq] at hs
   obtain ⟨rfl, rfl⟩ := hs
   refine ⟨ρ, w, .string .empty, ?_, h, .refl _ _ _, .string _⟩
   have hmax : IntKind.i64.max = 9223372036854775807 := rfl
   cases hp <;> simp [unsafeString_nil, unsafeString_some, hpt, asInt, asIntOf, hmax]
  cases hs
 ·rename_i k n hn0
  cases hn
  split at hs
  ·rename_i b off
   split at hs
   ·rename_i cs e g md mt hb
    split at hs
    ·rename_i hel
     split at hs
     ·rename_i vs hvs
      split at hs
      ·rename_i l hl
       obtain ⟨hc, hs⟩ := bif_some hs
       simp only [Bool.and_eq_true, Bool.or_eq_true, nbeq, nble, decide_eq_true_eq, Option.some.injEq, Rs.val.injEq] at hc hs
       obtain ⟨⟨⟨hpe, hc1⟩, hn32⟩, hmd⟩ := hc
       obtain ⟨rfl, rfl⟩ := hs
       have hpt : ∃ pt, ts[0]? = some pt ∧ P.underlying pt = some (.pointer e) := by
        unfold ptrElem at hpe
        split at hpe
        ·rename_i u hu
         obtain ⟨pt, q1, q2⟩ := Option.bind_eq_some_iff.1 hu
         simp only [nbeq, decide_eq_true_eq] at hpe
         exact ⟨pt, q1, by rw [q2, hpe]⟩
        cases hpe
       obtain ⟨pt, hpt, hpu⟩ := hpt
       obtain ⟨s, x, q1, q2, q3⟩ := h.obj _ _ hb
       have hvlen := rdCells_len hvs
       have hcon := q3
       obtain ⟨vs', hr, hvv, _⟩ := rdCells_rel2 hvs q3
       obtain ⟨ns, rfl, rfl⟩ := bytesOf_ints hl hvv
       obtain ⟨c, fr, rfl, hcs, hcell, hg1, hg2, hfr⟩ := q3
       have hvlen2 : ns.length = n := by rw [← hvlen, hvv.length_eq, List.length_map]
       simp only [rdCells] at hvs
       obtain ⟨hin, hvs⟩ := bif_some hvs
       simp only [nble, decide_eq_true_eq, Option.some.injEq] at hin hvs
       have hn1 : n ≠ 0 := fun e0 => hn0 (by rw [e0])
       have hro : isRo (.cells cs e g md mt) = false := by rcases hmd with rfl | rfl <;> rfl
       have hput := h.put2 (m0 := kill m mt) sub_kill kill_next (o' := .cells cs e g .frozen none) (y := .cells c e (if fr.1 == fr.2 then (s.off + off, s.off + off + n) else (min fr.1 (s.off + off), max fr.2 (s.off + off + n)))) hb q1 hro rfl (alone h hb q1 hro) (by
        refine ⟨c, _, rfl, hcs, hcell, hg1, hg2, ?_⟩
        by_cases hff : fr.1 = fr.2
        ·rw [if_pos (by simpa using hff)]
         exact .inr (by show s.off + off + n ≤ _; omega)
        rw [if_neg (by simpa using hff)]
        right
        show max fr.2 (s.off + off + n) ≤ _
        have : fr.2 ≤ s.off + cs.length := by
         rcases hmd with rfl | rfl
         ·exact absurd hfr hff
         rcases hfr with hfr | hfr
         ·exact absurd hfr hff
         exact hfr
        omega)
       cases hp with
       | ptr hpb =>
        rw [q1] at hpb
        cases hpb
        refine ⟨ρ, _, _, ?_, hput.1, hput.2, .string _⟩
        have hmax : IntKind.i64.max = 9223372036854775807 := rfl
        have b1 : ¬ (Int.ofNat n < 0) := by simp
        have b2 : ¬ (Int.ofNat n > 9223372036854775807) := by simp only [Int.ofNat_eq_natCast]; omega
        have b3 : ¬ (Int.ofNat n = 0) := by simp only [Int.ofNat_eq_natCast]; omega
        have b4 : (Int.ofNat n).toNat = n := rfl
        have hload := run_loadB (P := P) (w := w) ns ⟨s.blk, s.off + off, none⟩ .empty (by
         intro j y hj
         rw [Addr.add_eq, cell_of_block q2]
         have hj2 : (ns.map (Value.int .u8))[j]? = some (.int .u8 y) := by rw [List.getElem?_map, hj]; rfl
         have hjl := (List.getElem?_eq_some_iff.1 hj).1
         have hjv : ∃ u, vs[j]? = some u := ⟨_, List.getElem?_eq_getElem (by omega)⟩
         obtain ⟨u, hu⟩ := hjv
         obtain ⟨u', r1, r2⟩ := hvv.get hu
         rw [hj2] at r1
         cases r1
         have hu2 : cs[off + j]? = some u := by
          rw [← hvs, List.getElem?_take, if_pos (by omega), List.getElem?_drop] at hu
          exact hu
         obtain ⟨u2, r3, r4⟩ := hcell _ _ hu2
         obtain ⟨n8, rfl⟩ := bytesOf_get hl hu
         cases r2
         cases r4
         rw [← r3, Nat.add_assoc])
        rw [hvlen2] at hload
        have hlies := liesAt_bytes (P := P) (e := e) hc1 (c.size / P.cellsOf e) (s.off + off) n (by rw [hc1, Nat.div_one]; omega)
        simp only [unsafeString_some, hpt, Sem.run_bind, Sem.run_pure, Result.andThen_ok, asInt, asIntOf, b1, if_false, hmax, b2, b3, b4, elemOf, run_und hpu, variablesAt, run_program, run_shape, shape_of_cells q2, hlies, if_true, hload, run_freeze, freeze_block q2 hn1]
        congr 1
        simp
      cases hs
     cases hs
    cases hs
   cases hs
  cases hs
 cases hs
end
end Go.Ab
namespace Go.Ab
variable [Vals]
section
variable {P : Program} {ρ ρ' : Ren} {m m' : AW} {w w' : World} {ts : Tr Value} {e : Operand → Value}
theorem callB_rel (h : Rel P ρ m w) (hf : ∀ i, m.next ≤ i → i < m'.next → ρ i = none) (hs : callB P b args t m = some (.val v m')) (ha : VsRel ρ args args') :
  Does P ρ m w (builtin b t ty cs ⟨args'⟩) v m' := by
 unfold callB at hs
 split at hs
 ·split at hs
  ·cases ha with
   | cons h1 ha => cases ha with
    | cons h2 ha =>
     cases ha
     exact (appendV_rel h hf hs h1 h2).does
  cases hs
 ·split at hs
  ·cases ha with
   | cons h1 ha => cases ha with
    | cons h2 ha =>
     cases ha
     exact (copyV_rel h hs h1 h2).does
  cases hs
 ·split at hs
  ·cases ha with
   | cons h1 ha => cases ha with
    | cons h2 ha =>
     cases ha
     exact (deleteV_rel h hs h1 h2).does
  cases hs
 ·split at hs
  ·cases ha with
   | cons h1 ha => cases ha with
    | cons h2 ha =>
     cases ha
     exact (unsafeStr_rel h hs h1 h2).does
  cases hs
 cases hs
theorem Does.of_run (h : s.run P w = s2.run P w) (d : Does P ρ m w s2 v m') : Does P ρ m w s v m' := by
 obtain ⟨ρ', w', r, h1, h2⟩ := d
 exact ⟨ρ', w', r, by rw [h]; exact h1, h2⟩
def Local (o : Op) : Prop :=
 match o with
 | .call c => ∃ b, c.callee = .builtin b
 | .panic _ => False
 | _ => True
theorem opH_rel (hE : ERel P ρ ts e) (h : Rel P ρ m w) (hf : ∀ i, m.next ≤ i → i < m'.next → ρ i = none) (hs : opH P self ts o.op m = some (.val v m')) (hl : Local o.op) : Does P ρ m w (execOp e o) v m' := by
 cases ho : o.op with
 | store t a x =>
  rw [ho] at hs
  simp only [opH] at hs
  split at hs
  ·rename_i a2 ha
   split at hs
   ·rename_i x2 hx
    obtain ⟨rfl, h2⟩ := storeV_rel h hs (hE _ _ ha) (hE _ _ hx)
    unfold execOp
    rw [ho]
    exact Does.unit h2
   cases hs
  cases hs
 | mapUpdate t mp k x =>
  rw [ho] at hs
  simp only [opH] at hs
  split at hs
  ·rename_i mp2 k2 x2 he
   have := hE.list he
   cases this with
   | cons h1 this => cases this with
    | cons h2 this => cases this with
     | cons h3 this =>
      obtain ⟨rfl, h4⟩ := mapSet_rel h hs h1 h2 h3
      unfold execOp
      rw [ho]
      exact Does.unit h4
  cases hs
 | insert t mp k x =>
  rw [ho] at hs
  simp only [opH] at hs
  split at hs
  ·rename_i mp2 k2 x2 he
   have := hE.list he
   cases this with
   | cons h1 this => cases this with
    | cons h2 this => cases this with
     | cons h3 this =>
      obtain ⟨rfl, h4⟩ := mapSet_rel h hs h1 h2 h3
      unfold execOp
      rw [ho]
      exact Does.unit h4
  cases hs
 | range t x =>
  rw [ho] at hs
  simp only [opH] at hs
  split at hs
  ·rename_i x2 hx
   unfold execOp
   rw [ho]
   refine (rangeA_rel h (hf _ (Nat.le_refl _) ?_) hs (hE _ _ hx)).does
   unfold rangeA at hs
   split at hs
   ·split at hs
    ·simp only [Option.some.injEq, Rs.val.injEq] at hs
     rw [← hs.2]
     simp [AW.new]
    cases hs
   ·split at hs
    ·simp only [Option.some.injEq, Rs.val.injEq] at hs
     rw [← hs.2]
     simp [AW.new]
    cases hs
   ·split at hs
    ·split at hs
     ·simp only [Option.some.injEq, Rs.val.injEq] at hs
      rw [← hs.2]
      simp [AW.new]
     cases hs
    cases hs
   cases hs
  cases hs
 | next it isStr =>
  rw [ho] at hs
  simp only [opH] at hs
  split at hs
  ·rename_i x2 hx
   unfold execOp
   rw [ho]
   exact (nextA_rel h hs (hE _ _ hx)).does
  cases hs
 | entry it =>
  rw [ho] at hs
  simp only [opH] at hs
  split at hs
  ·rename_i x2 hx
   unfold execOp
   rw [ho]
   exact (entryA_rel h hs (hE _ _ hx)).does
  cases hs
 | call c =>
  rw [ho] at hs hl
  obtain ⟨b, hb⟩ := hl
  simp only [opH, callH, hb] at hs
  split at hs
  ·rename_i args ha
   have hcs := fun cs => callB_rel (ty := o.type) (cs := cs) h hf hs (hE.list ha)
   unfold execOp
   rw [ho]
   refine Does.of_run ?_ (hcs (c.args.map fun | .const _ => true | _ => false))
   simp only [resolve, hb, Sem.run_bind, Sem.run_pure, Result.andThen_ok, invoke]
   rw [map_arr c.args e]
   rfl
  cases hs
 | panic x => rw [ho] at hl; exact hl.elim
 | _ => rw [ho] at hs; simp [opH] at hs
end
end Go.Ab
namespace Go.Ab
variable [Vals]
def on (b : Frame) (a : Act) (todo : List Item) : Frame := { fn := b.fn, tmps := a.tmps, todo, defers := a.defers, mode := .run, kind := b.kind, roundOf := b.roundOf }
def off (b : Frame) (a : Act) (todo : List Item) (mode : FrameMode) : Frame := { fn := b.fn, tmps := a.tmps, todo, defers := a.defers, mode, kind := b.kind, roundOf := b.roundOf }
section
variable {P : Program} {b : Frame} {a : Act} {k : List Item} {cs : List Frame} {w w' : World} {ops : Array Oper}
theorem on_eval (b : Frame) (a : Act) (todo : List Item) : (on b a todo).eval = a.eval := by
 funext x
 cases x <;> rfl
theorem on_skip : step P (lone (on b a (.code .skip :: k)) cs w) = .next (lone (on b a k) cs w) := step_lone_go (by simp [stepG, stepG.exec, on])
theorem on_label : step P (lone (on b a (.code (.label l) :: k)) cs w) = .next (lone (on b a k) cs w) := step_lone_go (by simp [stepG, stepG.exec, on])
theorem on_inBlock {id : Nat} : step P (lone (on b a (.inBlock id :: k)) cs w) = .next (lone (on b a k) cs w) := step_lone_go (by simp [stepG, stepG.exec, on])
theorem on_inScope : step P (lone (on b a (.inScope c :: k)) cs w) = .next (lone (on b a k) cs w) := step_lone_go (by simp [stepG, stepG.exec, on])
theorem on_seq : step P (lone (on b a (.code (.seq x y) :: k)) cs w) = .next (lone (on b a (.code x :: .code y :: k)) cs w) := step_lone_go (by simp [stepG, stepG.exec, on])
theorem on_cond (h : a.eval c = .bool t) : step P (lone (on b a (.code (.cond c x y) :: k)) cs w) = .next (lone (on b a (.code (if t then x else y) :: k)) cs w) :=
 step_lone_go (by
  have := on_eval b a (.code (.cond c x y) :: k)
  simp only [on] at this
  simp [stepG, stepG.exec, on, this, h])
theorem on_block {id : Nat} : step P (lone (on b a (.code (.block id c) :: k)) cs w) = .next (lone (on b a (.code c :: .inBlock id :: k)) cs w) := step_lone_go (by simp [stepG, stepG.exec, on])
theorem on_loop : step P (lone (on b a (.code (.loop c) :: k)) cs w) = .next (lone (on b a (.code c :: .inLoop c :: k)) cs w) := step_lone_go (by simp [stepG, stepG.exec, on])
theorem on_inLoop : step P (lone (on b a (.inLoop c :: k)) cs w) = .next (lone (on b a (.code c :: .inLoop c :: k)) cs w) := step_lone_go (by simp [stepG, stepG.exec, on])
theorem on_scope : step P (lone (on b a (.code (.scope c) :: k)) cs w) = .next (lone (on b a (.code c :: .inScope c :: k)) cs w) := step_lone_go (by simp [stepG, stepG.exec, on])
theorem on_exit {id : Nat} (h : exitTo id k = some k') : step P (lone (on b a (.code (.exit id) :: k)) cs w) = .next (lone (on b a k') cs w) := step_lone_go (by simp [stepG, stepG.exec, on, h])
theorem on_goto (h : gotoIn l k = some k') : step P (lone (on b a (.code (.goto l) :: k)) cs w) = .next (lone (on b a k') cs w) := step_lone_go (by simp [stepG, stepG.exec, on, h])
theorem on_ret (hr : b.roundOf = none) : step P (lone (on b a (.code .ret :: k)) cs w) = .next (lone (off b a (.code .ret :: k) .returning) cs w) := step_lone_go (by simp [stepG, stepG.exec, on, off, hr])
theorem on_end (hr : b.roundOf = none) : step P (lone (on b a []) cs w) = .next (lone (off b a [] .returning) cs w) := step_lone_go (by simp [stepG, stepG.exec, on, off, hr])
theorem on_region {id : Nat} : step P (lone (on b a (.code (.region id ops false) :: k)) cs w) = .next (lone (on b a (.inRegion ops (List.range ops.size) :: k)) cs w) := step_lone_go (by simp [stepG, stepG.exec, on])
theorem on_region_draw {id : Nat} : step P (lone (on b a (.code (.region id ops true) :: k)) cs w) =
  .next (lone (on b a (.inRegion ops (Region.schedule (P.follows .mixedOrders) ops (w.tape w.drawn (.order b.fn id))) :: k)) cs { w with drawn := w.drawn + 1 }) :=
 step_lone_go (by simp [stepG, stepG.exec, on, choose, Sem.run, Question.forced, Question.cut])
theorem on_region_end : step P (lone (on b a (.inRegion ops [] :: k)) cs w) = .next (lone (on b a k) cs w) := step_lone_go (by simp [stepG, stepG.exec, on])
theorem on_finish (i : Nat) (rest : List Nat) (v : Value) : (on b a (.inRegion ops (i :: rest) :: k)).finish v = on b (a.put ((ops[i]?).bind (·.dst)) v) (.inRegion ops rest :: k) := by
 cases h : (ops[i]?).bind (·.dst) <;> simp [Frame.finish, on, Act.put, h]
theorem on_op_skip (h : ((ops[i]?).map (Region.wanted · (yielded ops a.tmps))).getD false = false) :
  step P (lone (on b a (.inRegion ops (i :: rest) :: k)) cs w) = .next (lone (on b (a.put ((ops[i]?).bind (·.dst)) undef) (.inRegion ops rest :: k)) cs w) := by
 rw [← on_finish]
 exact step_lone_go (by
  have h' := h
  simp only [on] at *
  simp [stepG, stepG.exec, h'])
def NoDefer (o : Op) : Prop := ∀ c, o ≠ .defer c
theorem on_op (ho : ops[i]? = some o) (hw : Region.wanted o (yielded ops a.tmps) = true) (hd : NoDefer o.op) :
  stepG P true { frame := on b a (.inRegion ops (i :: rest) :: k), callers := cs, status := .running, dying := none } w = stepG.apply P true (on b a (.inRegion ops (i :: rest) :: k)) cs none (execOp a.eval o) w := by
 have he := on_eval b a (.inRegion ops (i :: rest) :: k)
 simp only [on] at he
 simp only [stepG, stepG.exec, stepG.oper, Frame.oper?, on, ho, hw, he, Option.map_some, Option.getD_some, if_true]
 split
 ·rename_i hc
  exact absurd hc (hd _)
 rfl
theorem op_value (ho : ops[i]? = some o) (hw : Region.wanted o (yielded ops a.tmps) = true) (hd : NoDefer o.op) (hr : (execOp a.eval o).run P w = .ok (.value v) w') :
  step P (lone (on b a (.inRegion ops (i :: rest) :: k)) cs w) = .next (lone (on b (a.put o.dst v) (.inRegion ops rest :: k)) cs w') := by
 have hf := on_finish (b := b) (a := a) (k := k) (ops := ops) i rest v
 rw [ho] at hf
 simp only [Option.bind_some] at hf
 rw [← hf]
 refine step_lone_go ?_
 rw [on_op ho hw hd]
 simp [stepG.apply, hr]
theorem op_skip (ho : ops[i]? = some o) (hw : Region.wanted o (yielded ops a.tmps) = true) (hd : NoDefer o.op) (hr : (execOp a.eval o).run P w = .ok .skip w') :
  step P (lone (on b a (.inRegion ops (i :: rest) :: k)) cs w) = .next (lone (on b (a.put o.dst undef) (.inRegion ops rest :: k)) cs w') := by
 have hf := on_finish (b := b) (a := a) (k := k) (ops := ops) i rest undef
 rw [ho] at hf
 simp only [Option.bind_some] at hf
 rw [← hf]
 refine step_lone_go ?_
 rw [on_op ho hw hd]
 simp [stepG.apply, hr]
theorem op_enter (ho : ops[i]? = some o) (hw : Region.wanted o (yielded ops a.tmps) = true) (hd : NoDefer o.op) (hr : (execOp a.eval o).run P w = .ok (.enter f args) w') :
  step P (lone (on b a (.inRegion ops (i :: rest) :: k)) cs w) = .next (lone (Frame.enter P f args .normal) (on b a (.inRegion ops (i :: rest) :: k) :: cs) w') := by
 refine step_lone_go ?_
 rw [on_op ho hw hd]
 simp [stepG.apply, hr, on]
theorem op_round (ho : ops[i]? = some o) (hw : Region.wanted o (yielded ops a.tmps) = true) (hd : NoDefer o.op) (hr : (execOp a.eval o).run P w = .ok (.round l f tmps x y) w') :
  step P (lone (on b a (.inRegion ops (i :: rest) :: k)) cs w) = .next (lone (Frame.round l f tmps x y .normal) (on b a (.inRegion ops (i :: rest) :: k) :: cs) w') := by
 refine step_lone_go ?_
 rw [on_op ho hw hd]
 simp [stepG.apply, hr, on]
theorem op_panic (ho : ops[i]? = some o) (hw : Region.wanted o (yielded ops a.tmps) = true) (hd : NoDefer o.op) (hr : (execOp a.eval o).run P w = .halt (.panic v) w') :
  step P (lone (on b a (.inRegion ops (i :: rest) :: k)) cs w) = .next (lone (off b a (.inRegion ops (i :: rest) :: k) (.panicking [{ v := v, recovered := false }])) cs w') := by
 refine step_lone_go ?_
 rw [on_op ho hw hd]
 simp [stepG.apply, hr, on, off, Frame.raise]
theorem op_defer (ho : ops[i]? = some o) (hw : Region.wanted o (yielded ops a.tmps) = true) (hop : o.op = .defer c) (hb : b.roundOf = none) (hr : (execOp a.eval o).run P w = .ok (.defer d) w') :
  step P (lone (on b a (.inRegion ops (i :: rest) :: k)) cs w) = .next (lone (on b ((⟨a.tmps, d :: a.defers⟩ : Act).put o.dst undef) (.inRegion ops rest :: k)) cs w') := by
 have hf := on_finish (b := b) (a := ⟨a.tmps, d :: a.defers⟩) (k := k) (ops := ops) i rest undef
 rw [ho] at hf
 simp only [Option.bind_some] at hf
 rw [← hf]
 refine step_lone_go ?_
 have key : stepG P true { frame := on b a (.inRegion ops (i :: rest) :: k), callers := cs, status := .running, dying := none } w = stepG.apply P true (on b a (.inRegion ops (i :: rest) :: k)) cs none (execOp a.eval o) w := by
  have he := on_eval b a (.inRegion ops (i :: rest) :: k)
  simp only [on] at he
  simp only [stepG, stepG.exec, stepG.oper, Frame.oper?, on, ho, hw, he, Option.map_some, Option.getD_some, if_true]
  split
  ·rename_i hc _
   rw [hb] at hc
   cases hc
  rfl
 rw [key]
 simp [stepG.apply, hr, on]
theorem op_recover (ho : ops[i]? = some o) (hw : Region.wanted o (yielded ops a.tmps) = true) (hd : NoDefer o.op) (hb : b.roundOf = none) (hq : ∀ fr : Frame, fr.kind = b.kind → tryRecover fr cs = none) (hr : (execOp a.eval o).run P w = .ok .recover w') :
  step P (lone (on b a (.inRegion ops (i :: rest) :: k)) cs w) = .next (lone (on b (a.put o.dst .nilIface) (.inRegion ops rest :: k)) cs w') := by
 have hf := on_finish (b := b) (a := a) (k := k) (ops := ops) i rest .nilIface
 rw [ho] at hf
 simp only [Option.bind_some] at hf
 rw [← hf]
 refine step_lone_go ?_
 rw [on_op ho hw hd]
 have := hq (on b a (.inRegion ops (i :: rest) :: k)) rfl
 simp only [on, hb] at this
 simp [stepG.apply, hr, on, hb, this]
end
end Go.Ab
namespace Go.Ab
variable [Vals]
structure Mono (m m' : AW) : Prop where
 next : m.next ≤ m'.next
 lo : m'.lo = m.lo
 log : ∀ b, b ∈ m.log → b ∈ m'.log
 same : m.lo ≤ m.next → ∀ b, b < m.lo → b ∉ m'.log → m'.heap.get b = m.heap.get b
theorem Mono.refl (m : AW) : Mono m m := ⟨Nat.le_refl _, rfl, fun _ h => h, fun _ _ _ _ => rfl⟩
theorem Mono.trans (h : Mono a b) (k : Mono b c) : Mono a c where
 next := Nat.le_trans h.next k.next
 lo := k.lo.trans h.lo
 log := fun x hx => k.log x (h.log x hx)
 same := fun hl x hx hn => by
  have h1 := h.next
  rw [k.same (by rw [h.lo]; omega) x (by rw [h.lo]; exact hx) hn, h.same hl x hx fun hb => hn (k.log x hb)]
theorem Mono.set (m : AW) (c : Nat) (o : Option AObj) : Mono m (m.set c o) where
 next := Nat.le_refl _
 lo := rfl
 log := fun b hb => by
  simp only [AW.set]
  cases Nat.blt c m.lo
  ·exact hb
  exact List.mem_cons_of_mem _ hb
 same := fun _ b hb hn => by
  simp only [AW.set] at hn ⊢
  rw [Tr.get_set]
  split
  ·rename_i e
   subst e
   have : Nat.blt b m.lo = true := by rw [nblt]; simpa using hb
   rw [this] at hn
   exact absurd (List.mem_cons_self) hn
  rfl
theorem Mono.new (m : AW) (o : AObj) : Mono m (m.new o) where
 next := by simp [AW.new]
 lo := rfl
 log := fun _ h => h
 same := fun hl b hb _ => by
  simp only [AW.new, Tr.get_set]
  rw [if_neg (by omega)]
theorem Mono.kill (m : AW) (y : Option Nat) : Mono m (Ab.kill m y) := by
 cases y with
 | none => exact .refl _
 | some y => exact .set _ _ _
def Rs.m : Rs → AW
 | .val _ m => m
 | .pan _ m => m
variable {P : Program} {m m' : AW}
theorem storeA_mono {b off : Nat} (h : storeA m b off vs = some m') : Mono m m' := by
 unfold storeA at h
 split at h
 ·cases h; exact .refl _
 split at h
 ·obtain ⟨_, h⟩ := bif_some h
  cases h
  exact (Mono.kill _ _).trans (.set _ _ _)
 cases h
theorem appendA_mono (h : appendA P e m s n vs = some (v, m')) : Mono m m' := by
 unfold appendA at h
 split at h
 ·split at h
  ·obtain ⟨_, h⟩ := bif_some h
   cases h
   exact .refl _
  cases h
 ·split at h
  ·generalize hc : (!(_ && _)) = c at h
   cases c with
   | true => simp at h
   | false =>
    simp only [cond_false] at h
    split at h
    ·obtain ⟨_, h⟩ := bif_some h
     cases h
     exact .new _ _
    ·rename_i b off
     cases hb : Nat.blt _ big with
     | true =>
      rw [hb] at h
      simp only [cond_true] at h
      cases hl : Nat.ble _ _ with
      | true =>
       rw [hl] at h
       simp only [cond_true] at h
       obtain ⟨m2, h2, h⟩ := Option.map_eq_some_iff.1 h
       cases h
       exact storeA_mono h2
      | false =>
       rw [hl] at h
       simp only [cond_false] at h
       split at h
       ·obtain ⟨m2, h2, h⟩ := Option.map_eq_some_iff.1 h
        cases h
        exact .new _ _
       obtain ⟨_, h⟩ := bif_some h
       cases h
       exact .new _ _
     | false =>
      rw [hb] at h
      simp only [cond_false] at h
      split at h
      ·obtain ⟨_, h⟩ := bif_some h
       cases h
       exact ((Mono.kill _ _).trans (Mono.set _ _ _)).trans (Mono.new _ _)
      cases h
    cases h
  cases h
 cases h
theorem valM_mono (h : valM v x = some r) (hx : ∀ m2, x = some m2 → Mono m m2) : Mono m r.m := by
 unfold valM at h
 split at h
 ·cases h
  exact hx _ rfl
 cases h
theorem valP_mono (h : valP x = some r) (hx : ∀ v m2, x = some (v, m2) → Mono m m2) : Mono m r.m := by
 unfold valP at h
 split at h
 ·cases h
  exact hx _ _ rfl
 cases h
theorem storeV_mono (h : storeV P t a x m = some r) : Mono m r.m := by
 unfold storeV at h
 split at h
 ·split at h
  ·obtain ⟨_, h⟩ := bif_some h
   exact valM_mono h fun _ => storeA_mono
  cases h
 cases h
theorem mapSet_mono (h : mapSet P t mp k x m = some r) : Mono m r.m := by
 unfold mapSet at h
 split at h
 ·split at h
  ·obtain ⟨_, h⟩ := bif_some h
   split at h
   ·split at h
    ·cases h
     exact .set _ _ _
    cases h
   cases h
  cases h
 cases h
theorem rangeA_mono (h : rangeA P t x m = some r) : Mono m r.m := by
 unfold rangeA at h
 split at h
 ·split at h
  ·cases h
   exact .new _ _
  cases h
 ·split at h
  ·cases h
   exact .new _ _
  cases h
 ·split at h
  ·split at h
   ·cases h
    exact .new _ _
   cases h
  cases h
 cases h
theorem nextA_mono (h : nextA x b m = some r) : Mono m r.m := by
 unfold nextA at h
 split at h
 ·split at h
  ·obtain ⟨_, h⟩ := bif_some h
   generalize Nat.blt _ _ = c at h
   cases c with
   | true => cases h; exact .set _ _ _
   | false => cases h; exact .refl _
  ·cases b with
   | true => cases h
   | false =>
    simp only [cond_false] at h
    split at h
    ·cases h; exact .refl _
    split at h
    ·split at h
     ·cases h; exact .refl _
     ·cases h; exact .set _ _ _
     cases h
    cases h
  cases h
 cases h
theorem entryA_mono (h : entryA x m = some r) : Mono m r.m := by
 unfold entryA at h
 split at h
 ·split at h
  ·split at h
   ·split at h
    ·split at h
     ·rename_i clock _ _ e _
      revert h
      generalize Nat.beq _ _ = c
      intro h
      cases c with
      | true => cases h; exact .refl _
      | false => cases h
     cases h
    cases h
   cases h
  cases h
 cases h
theorem appendV_mono (h : appendV P t xt s x m = some r) : Mono m r.m := by
 unfold appendV at h
 split at h
 ·split at h
  ·split at h
   ·split at h
    ·obtain ⟨_, h⟩ := bif_some h
     split at h
     ·exact valP_mono h fun _ _ => appendA_mono
     cases h
    cases h
   ·split at h
    ·split at h
     ·exact valP_mono h fun _ _ => appendA_mono
     cases h
    cases h
   cases h
  cases h
 cases h
theorem copyV_mono (h : copyV P t d x m = some r) : Mono m r.m := by
 unfold copyV at h
 split at h
 ·split at h
  ·split at h
   ·split at h
    ·split at h
     ·split at h
      ·obtain ⟨_, h⟩ := bif_some h
       cases h
       exact .refl _
      ·exact valM_mono h fun _ => storeA_mono
      cases h
     cases h
    cases h
   cases h
  cases h
 cases h
theorem deleteV_mono (h : deleteV P t mp k m = some r) : Mono m r.m := by
 unfold deleteV at h
 split at h
 ·obtain ⟨_, h⟩ := bif_some h
  split at h
  ·cases h
   exact .refl _
  ·split at h
   ·split at h
    ·cases h
     exact .set _ _ _
    ·cases h
     exact .refl _
    cases h
   cases h
  cases h
 cases h
theorem unsafeStr_mono (h : unsafeStr P t p n m = some r) : Mono m r.m := by
 unfold unsafeStr at h
 split at h
 ·split at h
  ·obtain ⟨_, h⟩ := bif_some h
   cases h
   exact .refl _
  cases h
 ·split at h
  ·split at h
   ·split at h
    ·split at h
     ·split at h
      ·obtain ⟨_, h⟩ := bif_some h
       cases h
       exact (Mono.kill _ _).trans (Mono.set _ _ _)
      cases h
     cases h
    cases h
   cases h
  cases h
 cases h
theorem callB_mono (h : callB P b args t m = some r) : Mono m r.m := by
 unfold callB at h
 split at h
 ·split at h
  ·exact appendV_mono h
  cases h
 ·split at h
  ·exact copyV_mono h
  cases h
 ·split at h
  ·exact deleteV_mono h
  cases h
 ·split at h
  ·exact unsafeStr_mono h
  cases h
 cases h
section
variable {self : Self} (hM : ∀ fr t m out, self fr t m = some out → Mono m out.m)
include hM
theorem callA_mono (h : callA self f args m = some r) : Mono m r.m := by
 unfold callA at h
 split at h
 ·rename_i heq
  cases h
  exact hM _ _ _ _ heq
 ·rename_i heq
  cases h
  exact hM _ _ _ _ heq
 cases h
theorem callV_mono (h : callV self f args m = some r) : Mono m r.m := by
 unfold callV at h
 split at h
 ·exact callA_mono hM h
 ·split at h
  ·rename_i heq
   cases h
   exact hM _ _ _ _ heq
  ·rename_i heq
   cases h
   exact hM _ _ _ _ heq
  cases h
 cases h
theorem opH_mono (h : opH P self ts o m = some r) : Mono m r.m := by
 unfold opH at h
 split at h
 ·split at h
  ·split at h
   ·exact storeV_mono h
   cases h
  cases h
 ·split at h
  ·exact mapSet_mono h
  cases h
 ·split at h
  ·exact mapSet_mono h
  cases h
 ·split at h
  ·exact rangeA_mono h
  cases h
 ·split at h
  ·exact nextA_mono h
  cases h
 ·split at h
  ·exact entryA_mono h
  cases h
 ·unfold callH at h
  split at h
  ·split at h
   ·exact callB_mono h
   ·split at h
    ·exact callV_mono hM h
    cases h
   split at h
   ·split at h
    ·exact callA_mono hM h
    cases h
   cases h
  cases h
 ·unfold panicV at h
  split at h
  ·cases h
   exact .refl _
  cases h
 cases h
theorem doOp_mono (h : doOp P self ts o m = some r) : Mono m r.m := by
 unfold doOp at h
 split at h
 ·unfold doP at h
  split at h
  ·cases h; exact .refl _
  cases h
 ·unfold doL at h
  split at h
  ·cases h; exact .refl _
  ·split at h
   ·cases h; exact .refl _
   cases h
  cases h
 ·unfold doA at h
  split at h
  ·cases h; exact .new _ _
  cases h
 exact opH_mono hM h
theorem iops_mono {n : Nat} {q : Bool} {ops : Array Oper} : ∀ (l : List Oper) (ts : Tr Value) (m : AW) (out : Out), iops P self n q ops l ts m = some out → Mono m out.m
 | [], ts, m, out, h => by
  simp only [iops, Option.some.injEq] at h
  subst h
  exact .refl _
 | o :: l, ts, m, out, h => by
  unfold iops at h
  generalize wantedA ops ts o = c at h
  cases c with
  | true =>
   simp only [cond_true] at h
   split at h
   ·split at h
    ·rename_i heq
     exact (doOp_mono hM heq).trans (iops_mono l _ _ _ h)
    ·rename_i heq
     cases h
     exact doOp_mono hM heq
    cases h
   ·split at h
    ·obtain ⟨_, h⟩ := bif_some h
     exact iops_mono l _ _ _ h
    cases h
   obtain ⟨_, h⟩ := bif_some h
   exact iops_mono l _ _ _ h
  | false => exact iops_mono l _ _ _ h
theorem mem_below {lo b : Nat} : ∀ {l : List Nat}, b ∈ l → b < lo → b ∈ below lo l
 | x :: l, h, hb => by
  have _ := hM
  unfold below
  cases h with
  | head =>
   have : Nat.blt b lo = true := by rw [nblt]; simpa using hb
   rw [this]
   exact List.mem_cons_self
  | tail _ h =>
   have := mem_below h hb
   cases Nat.blt x lo
   ·exact this
   exact List.mem_cons_of_mem _ this
omit hM in
theorem hide_out {pre c : Nat} {h : Tr AObj} : ∀ {l : List (Nat × Nat)}, (∀ j, (j, c) ∈ l → pre.testBit j = true) → (hideB pre l h).get c = h.get c
 | [], _ => rfl
 | (j, b) :: l, hl => by
  have ih := hide_out (h := h) (l := l) fun j hj => hl j (List.mem_cons_of_mem _ hj)
  unfold hideB
  cases hp : pre.testBit j with
  | true => exact ih
  | false =>
   simp only [cond_false, Tr.get_set]
   rw [if_neg ?_]
   ·exact ih
   rintro rfl
   rw [hl j List.mem_cons_self] at hp
   cases hp
omit hM in
theorem hide_in {pre c j : Nat} {h : Tr AObj} : ∀ {l : List (Nat × Nat)}, (j, c) ∈ l → pre.testBit j = false → (hideB pre l h).get c = none
 | (k, b) :: l, hl, hj => by
  unfold hideB
  cases hl with
  | head =>
   rw [hj]
   simp only [cond_false, Tr.get_set, if_true]
  | tail _ hl =>
   have ih := hide_in (h := h) hl hj
   cases pre.testBit k with
   | true => exact ih
   | false =>
    simp only [cond_false, Tr.get_set]
    split
    ·rfl
    exact ih
omit hM in
theorem show_out {pre c : Nat} {old h : Tr AObj} : ∀ {l : List (Nat × Nat)}, (∀ j, (j, c) ∈ l → pre.testBit j = true) → (showB pre old l h).get c = h.get c
 | [], _ => rfl
 | (j, b) :: l, hl => by
  have ih := show_out (old := old) (h := h) (l := l) fun j hj => hl j (List.mem_cons_of_mem _ hj)
  unfold showB
  cases hp : pre.testBit j with
  | true => exact ih
  | false =>
   simp only [cond_false, Tr.get_set]
   rw [if_neg ?_]
   ·exact ih
   rintro rfl
   rw [hl j List.mem_cons_self] at hp
   cases hp
omit hM in
theorem show_in {pre c j : Nat} {old h : Tr AObj} : ∀ {l : List (Nat × Nat)}, (j, c) ∈ l → pre.testBit j = false → (showB pre old l h).get c = old.get c
 | (k, b) :: l, hl, hj => by
  unfold showB
  cases hl with
  | head =>
   rw [hj]
   simp only [cond_false, Tr.get_set, if_true]
  | tail _ hl =>
   have ih := show_in (old := old) (h := h) hl hj
   cases pre.testBit k with
   | true => exact ih
   | false =>
    simp only [cond_false, Tr.get_set]
    split
    ·rename_i e
     rw [e]
    exact ih
omit hM in
theorem seen_spec {pre b j : Nat} : ∀ {l : List (Nat × Nat)}, seenB pre b l = true → (j, b) ∈ l → pre.testBit j = true
 | (k, c) :: l, h, hl => by
  simp only [seenB, Bool.and_eq_true, Bool.or_eq_true] at h
  cases hl with
  | head => exact h.1.resolve_right (by simp [nbeq])
  | tail _ hl => exact seen_spec h.2 hl
omit hM in
theorem plain_in {pre c j : Nat} {old : Tr AObj} : ∀ {l : List (Nat × Nat)}, plainB pre old l = true → (j, c) ∈ l → pre.testBit j = false → plainO (old.get c) = true
 | (k, b) :: l, h, hl, hj => by
  simp only [plainB, Bool.and_eq_true, Bool.or_eq_true] at h
  cases hl with
  | head => exact h.1.resolve_left (by rw [hj]; simp)
  | tail _ hl => exact plain_in h.2 hl hj
theorem apart_mono (h : Mono ⟨hideB pre as m.heap, m.next, base, []⟩ m') (has : ∀ x ∈ as, base ≤ x.2) (hlo : m.lo = lo) (h1 : lo ≤ base) (h2 : base ≤ m.next) : Mono m ⟨showB pre m.heap as m'.heap, m'.next, lo, below lo m'.log ++ m.log⟩ where
 next := h.next
 lo := hlo.symm
 log := fun b hb => List.mem_append_right _ hb
 same := fun _ b hb hn => by
  have hout : ∀ j, (j, b) ∈ as → pre.testBit j = true := fun j hj => by
   have := has _ hj
   simp only at this
   rw [hlo] at hb
   omega
  have h3 := h.same h2 b (by show b < base; omega) fun hm => hn (List.mem_append_left _ ?_)
  ·show (showB pre m.heap as m'.heap).get b = _
   rw [show_out hout, h3]
   exact hide_out hout
  rw [hlo] at hb
  exact mem_below (self := self) hM hm hb
theorem dops_mono {n : Nat} {ops : Array Oper} {base lo : Nat} (hb : lo ≤ base) : ∀ (l : List (Oper × Info)) (rs : List (Nat × Rd)) (ws : List (Nat × List Nat)) (as : List (Nat × Nat)) (ts : Tr Value) (m : AW) (out : Out), m.lo = lo → base ≤ m.next → (∀ x ∈ as, base ≤ x.2) → dops P self n ops base lo l rs ws as ts m = some out → Mono m out.m
 | [], rs, ws, as, ts, m, out, _, _, _, h => by
  simp only [dops, Option.some.injEq] at h
  subst h
  exact .refl _
 | (o, i) :: l, rs, ws, as, ts, m, out, hlo, hn, has, h => by
  unfold dops at h
  generalize wantedA ops ts o = c at h
  cases c with
  | true =>
   simp only [cond_true] at h
   split at h
   ·split at h
    ·exact dops_mono hb l _ _ _ _ _ _ hlo hn has h
    ·split at h
     ·rename_i i2 _ _ _ _ _
      revert h
      generalize (i.full && seenB _ _ _) = c1
      intro h
      cases c1 with
      | true => exact dops_mono hb l _ _ _ _ _ _ hlo hn has h
      | false =>
       simp only [cond_false] at h
       obtain ⟨_, h⟩ := bif_some h
       exact dops_mono hb l _ _ _ _ _ _ hlo hn has h
     cases h
    cases h
   ·obtain ⟨_, h⟩ := bif_some h
    split at h
    ·rename_i v m2 heq
     obtain ⟨_, h⟩ := bif_some h
     have h1 := apart_mono hM (doOp_mono hM heq) has hlo hb hn
     exact h1.trans (dops_mono hb l _ _ _ _ _ _ rfl (Nat.le_trans hn h1.next) has h)
    cases h
   ·split at h
    ·rename_i v m2 heq
     have h1 := doOp_mono hM heq
     exact h1.trans (dops_mono hb l _ _ _ _ _ _ (h1.lo.trans hlo) (Nat.le_trans hn h1.next) (fun x hx => by
      cases hx with
      | head => exact hn
      | tail _ hx => exact has x hx) h)
    cases h
   split at h
   ·rename_i v m2 heq
    have h1 := doOp_mono hM heq
    exact h1.trans (dops_mono hb l _ _ _ _ _ _ (h1.lo.trans hlo) (Nat.le_trans hn h1.next) has h)
   cases h
  | false => exact dops_mono hb l _ _ _ _ _ _ hlo hn has h
end
end Go.Ab
namespace Go.Ab
variable [Vals]
variable {P : Program}
section
variable {self : Self} (hM : ∀ fr t m out, self fr t m = some out → Mono m out.m)
include hM
theorem stScope_mono (h : stScope self fr body rest m = some out) : Mono m out.m := by
 unfold stScope at h
 split at h
 ·rename_i heq
  have h1 := hM _ _ _ _ heq
  split at h
  ·exact h1.trans (hM _ _ _ _ h)
  cases h
  exact h1
 exact hM _ _ _ _ h
theorem setLoop_mono (h : setLoop m l st p = some m') : Mono m m' := by
 have _ := hM
 unfold setLoop at h
 split at h
 ·cases h
  exact .set _ _ _
 cases h
omit hM in
theorem outOf_mono (h : outOf v x = some out) (hx : ∀ m2, x = some m2 → Mono m m2) : Mono m out.m := by
 unfold outOf at h
 split at h
 ·cases h
  exact hx _ rfl
 cases h
omit hM in
theorem panOf_mono (h : panOf P fn v m = some out) : m = out.m := by
 unfold panOf at h
 obtain ⟨_, h⟩ := bif_some h
 cases h
 rfl
theorem endRound_mono (h : endRound P fn l r = some out) (hr : ∀ o, r = some o → Mono m o.m) : Mono m out.m := by
 unfold endRound at h
 split at h
 ·exact outOf_mono h fun _ hs => (hr _ rfl).trans (setLoop_mono hM hs)
 ·exact outOf_mono h fun _ hs => (hr _ rfl).trans (setLoop_mono hM hs)
 ·exact outOf_mono h fun _ hs => (hr _ rfl).trans (setLoop_mono hM hs)
 ·have h1 := hr _ rfl
  rw [← panOf_mono h]
  exact h1
 cases h
theorem stYield_mono (h : stYield P self l args m = some out) : Mono m out.m := by
 unfold stYield at h
 split at h
 ·obtain ⟨_, h⟩ := bif_some h
  split at h
  ·rename_i heq
   have h1 := hM _ _ _ _ heq
   unfold stBody at h
   split at h
   ·exact endRound_mono hM h fun _ ho => (h1.trans (.set _ _ _)).trans (hM _ _ _ _ ho)
   cases h
  ·rename_i heq
   have h1 := hM _ _ _ _ heq
   rw [← panOf_mono h]
   exact h1
  cases h
 cases h
theorem retFn_mono (h : retFn P fn ts m = some out) : Mono m out.m := by
 have _ := hM
 unfold retFn at h
 split at h
 ·cases h
  exact .refl _
 cases h
theorem runD_mono : ∀ (ds : List Value) {m m' : AW}, runD self ds m = some m' → Mono m m'
 | [], m, m', h => by
  cases h
  exact .refl _
 | v :: ds, m, m', h => by
  unfold runD at h
  split at h
  ·split at h
   ·rename_i heq
    exact (hM _ _ _ _ heq).trans (runD_mono ds h)
   cases h
  cases h
theorem retD_mono (h : retD P self fn ts m = some out) : Mono m out.m := by
 unfold retD at h
 split at h
 ·rename_i heq
  exact (runD_mono hM _ heq).trans (retFn_mono hM h)
 cases h
theorem stFb_mono (h : stFb P self f fn c args m = some out) : Mono m out.m := by
 unfold stFb at h
 obtain ⟨_, h⟩ := bif_some h
 split at h
 ·rename_i heq
  exact (hM _ _ _ _ heq).trans (retD_mono hM h)
 ·rename_i heq
  exact (hM _ _ _ _ heq).trans (retD_mono hM h)
 ·rename_i heq
  have h1 := hM _ _ _ _ heq
  split at h
  ·cases h
   exact h1
  cases h
 cases h
omit hM in
theorem bytesA_new (h : bytesA P fn args m = some (v, m2)) : ∃ o, m2 = m.new o := by
 unfold bytesA at h
 split at h
 ·split at h
  ·split at h
   ·obtain ⟨_, h⟩ := bif_some h
    cases h
    exact ⟨_, rfl⟩
   cases h
  cases h
 cases h
theorem stFn_mono (h : stFn P self f args m = some out) : Mono m out.m := by
 unfold stFn at h
 split at h
 ·cases h
 split at h
 ·split at h
  ·cases h
   exact .refl _
  split at h
  ·obtain ⟨_, h⟩ := bif_some h
   cases h
   exact .refl _
  split at h
  ·rename_i hv
   cases h
   obtain ⟨o, rfl⟩ := bytesA_new hv
   exact .new _ _
  cases h
 split at h
 ·obtain ⟨_, h⟩ := bif_some h
  cases h
  exact .refl _
 exact stFb_mono hM h
theorem stDfn_mono (h : stDfn P self f args m = some out) : Mono m out.m := by
 unfold stDfn at h
 split at h
 ·cases h
 split at h
 ·cases h
 exact stFb_mono hM h
theorem endRF_mono (h : endRF fr l m = some out) : Mono m out.m := by
 have _ := hM
 unfold endRF at h
 split at h
 ·split at h
  ·cases h
  split at h
  ·cases h; exact .set _ _ _
  ·cases h; exact .set _ _ _
  ·cases h; exact .set _ _ _
  cases h
 cases h
theorem beginRF_mono (h : beginRF fr ps as bo m = some (l, m2)) : Mono m m2 := by
 have _ := hM
 unfold beginRF at h
 split at h
 ·split at h
  ·cases h
   exact .new _ _
  cases h
 cases h
 exact (Mono.new _ _).trans (Mono.new _ _)
theorem stCode_mono (h : stCode P self fr c m = some out) : Mono m out.m := by
 unfold stCode at h
 split at h
 ·cases h; exact .refl _
 ·cases h; exact .refl _
 ·unfold stSeq at h
  split at h
  ·rename_i heq
   exact (hM _ _ _ _ heq).trans (hM _ _ _ _ h)
  exact hM _ _ _ _ h
 ·unfold stCond at h
  split at h
  ·exact hM _ _ _ _ h
  ·exact hM _ _ _ _ h
  cases h
 ·unfold stBlock at h
  split at h
  ·rename_i heq
   have h1 := hM _ _ _ _ heq
   generalize Nat.beq _ _ = c at h
   cases c with
   | true => cases h; exact h1
   | false => cases h; exact h1
  exact hM _ _ _ _ h
 ·unfold stLoop at h
  split at h
  ·rename_i heq
   exact (hM _ _ _ _ heq).trans (hM _ _ _ _ h)
  exact hM _ _ _ _ h
 ·cases h; exact .refl _
 ·cases h; exact .refl _
 ·cases h; exact .refl _
 ·exact hM _ _ _ _ h
 ·rename_i draw
  cases draw with
  | true =>
   simp only [cond_true] at h
   unfold drawA at h
   obtain ⟨hb, h⟩ := bif_some h
   simp only [nble, Bool.and_eq_true, decide_eq_true_eq] at hb
   have hb := hb.1
   exact dops_mono hM hb _ _ _ _ _ _ _ rfl (Nat.le_refl _) (fun x hx => by cases hx) h
  | false => exact iops_mono hM _ _ _ _ h
 ·unfold stRF at h
  split at h
  ·split at h
   ·rename_i heq
    have h1 := beginRF_mono hM heq
    split at h
    ·rename_i heq2
     exact (h1.trans (hM _ _ _ _ heq2)).trans (endRF_mono hM h)
    ·rename_i heq2
     have h2 := hM _ _ _ _ heq2
     cases h
     exact h1.trans h2
    cases h
   cases h
  cases h
 cases h
theorem istep_mono (h : istep P self fr t m = some out) : Mono m out.m := by
 unfold istep at h
 split at h
 ·exact stCode_mono hM h
 ·exact stScope_mono hM h
 ·exact stFn_mono hM h
 ·exact stDfn_mono hM h
 exact stYield_mono hM h
end
theorem irun_mono : ∀ (k : Nat) (fr : AFr) (t : Task) (m : AW) (out : Out), irun P k fr t m = some out → Mono m out.m
 | 0, _, _, _, _, h => by simp [irun] at h
 | k + 1, fr, t, m, out, h => istep_mono (fun fr t m out => irun_mono k fr t m out) h
end Go.Ab
namespace Go.Ab
variable [Vals]
section
variable {P : Program} {ρ ρ' : Ren} {m m' : AW} {w w' : World} {ts : Tr Value}
def Fresh (ρ : Ren) (m m' : AW) : Prop := ∀ i, m.next ≤ i → i < m'.next → ρ i = none
def mark1 (B : Nat) : Deferred := { target := .collected B, args := #[] }
inductive Mix (ρ : Ren) : List Value → List Nat → List Deferred → Prop where
 | nil : Mix ρ [] [] []
 | mark {dv : List Value} {Bs : List Nat} {ds : List Deferred} (B : Nat) (h : Mix ρ dv Bs ds) : Mix ρ dv (B :: Bs) (mark1 B :: ds)
 | call {dv : List Value} {Bs : List Nat} {ds : List Deferred} {g : FuncId} {a a' c c' : List Value} (ha : VsRel ρ a a') (hc : VsRel ρ c c') (h : Mix ρ dv Bs ds) : Mix ρ (.func (.func g) ⟨a⟩ ⟨c⟩ :: dv) Bs ({ target := .fn (.func g) ⟨c'⟩, args := ⟨a'⟩ } :: ds)
theorem Mix.mono (h : Mix ρ dv Bs ds) (hle : ρ.le ρ') : Mix ρ' dv Bs ds := by
 induction h with
 | nil => exact .nil
 | mark B _ ih => exact .mark B ih
 | call ha hc _ ih => exact .call (ha.mono hle) (hc.mono hle) ih
def Defs (ρ : Ren) (n0 : Nat) (m : AW) (w : World) (dv : List Value) (ds : List Deferred) : Prop :=
 ∃ Bs : List Nat, Mix ρ dv Bs ds ∧ Bs.Nodup ∧ ∀ B ∈ Bs, n0 ≤ B ∧ B < w.heap.size ∧ w.heap[B]? = some (.deferred (some [])) ∧ ¬ Own ρ m B
theorem mark_grow (g : Grow ρ ρ' m m' w w') (h : n0 ≤ B ∧ B < w.heap.size ∧ w.heap[B]? = some (.deferred (some [])) ∧ ¬ Own ρ m B) : n0 ≤ B ∧ B < w'.heap.size ∧ w'.heap[B]? = some (.deferred (some [])) ∧ ¬ Own ρ' m' B := by
 obtain ⟨q1, q2, q3, q4⟩ := h
 refine ⟨q1, Nat.lt_of_lt_of_le q2 g.size, by rw [g.keep B q2 q4]; exact q3, fun ho => ?_⟩
 rcases g.own B ho with h5 | h5
 ·exact q4 h5
 omega
theorem Defs.grow (h : Defs ρ n0 m w dv ds) (g : Grow ρ ρ' m m' w w') : Defs ρ' n0 m' w' dv ds := by
 obtain ⟨Bs, h1, h2, h3⟩ := h
 refine ⟨Bs, h1.mono g.le, h2, fun B hB => ?_⟩
 obtain ⟨q1, q2, q3, q4⟩ := h3 B hB
 refine ⟨q1, Nat.lt_of_lt_of_le q2 g.size, by rw [g.keep B q2 q4]; exact q3, fun ho => ?_⟩
 rcases g.own B ho with h5 | h5
 ·exact q4 h5
 omega
structure FOk (ρ : Ren) (n0 : Nat) (fr : AFr) (b : Frame) (a : Act) (m : AW) (w : World) : Prop where
 fn : b.fn = fr.fn
 tmps : TsRel ρ fr.n fr.ts a.tmps
 round : (∃ l s, fr.round = some l ∧ ρ l = some s ∧ b.roundOf = some s.blk ∧ a.defers = []) ∨ (fr.round = none ∧ b.roundOf = none ∧ Defs ρ n0 m w (defsOf fr.ts) a.defers)
theorem FOk.grow (h : FOk ρ n0 fr b a m w) (g : Grow ρ ρ' m m' w w') (hd : a'.defers = a.defers) (hts : defsOf ts = defsOf fr.ts) (ht : TsRel ρ' fr.n ts a'.tmps) : FOk ρ' n0 (fr.with ts) b a' m' w' where
 fn := h.fn
 tmps := ht
 round := by
  rcases h.round with ⟨l, s, h1, h2, h3, h4⟩ | ⟨h1, h2, h3⟩
  ·exact .inl ⟨l, s, h1, g.le _ _ h2, h3, by rw [hd]; exact h4⟩
  exact .inr ⟨h1, h2, by
   show Defs ρ' n0 m' w' (defsOf ts) a'.defers
   rw [hd, hts]
   exact h3.grow g⟩
theorem put_defs (hn : n ≤ dIx) : defsOf (put n ts d v) = defsOf ts := by
 have : (put n ts d v).get dIx = ts.get dIx := by
  unfold Ab.put
  cases d with
  | none => rfl
  | some d =>
   simp only
   cases hb : Nat.blt d n with
   | false => rfl
   | true =>
    rw [nblt, decide_eq_true_eq] at hb
    simp only [cond_true, Tr.get_set]
    rw [if_neg ?_]
    intro e
    have h2 : d < dIx := Nat.lt_of_lt_of_le hb hn
    rw [← e] at h2
    exact Nat.lt_irrefl _ h2
 unfold defsOf
 rw [this]
theorem defsOf_set (ts : Tr Value) (l : List Value) : defsOf (ts.set dIx (some (.tuple ⟨l⟩))) = l := by
 unfold defsOf
 rw [Tr.get_set, if_pos rfl]
def NR (b : Frame) (cs : List Frame) : Prop := b.roundOf = none → ∀ fr : Frame, fr.kind = b.kind → tryRecover fr cs = none
def Ends (ρ : Ren) (b : Frame) (a : Act) (k : List Item) (ex : Ex) (f : Frame) : Prop :=
 match ex with
 | .normal => f = on b a k
 | .exit id => ∃ k', f = on b a (.code (.exit id) :: k') ∧ exitTo id k' = exitTo id k
 | .goto l => ∃ k', f = on b a (.code (.goto l) :: k') ∧ gotoIn l k' = gotoIn l k
 | .ret => ∃ k', f = on b a (.code .ret :: k')
 | .panic v => ∃ k' v', f = off b a k' (.panicking [{ v := v', recovered := false }]) ∧ VRel ρ v v'
def Starts (c : Code) (k todo : List Item) : Prop := todo = .code c :: k ∨ ∃ body, c = .loop body ∧ todo = .inLoop body :: k
def Follows (P : Program) (fr : AFr) (m : AW) (out : Out) (start : List Item → List Item → Prop) : Prop :=
 ∀ (ρ : Ren) (w : World) (b : Frame) (a : Act) (n0 : Nat) (k : List Item) (cs : List Frame) (todo : List Item), NR b cs → Rel P ρ m w → Fresh ρ m out.m → FOk ρ n0 fr b a m w → n0 ≤ w.heap.size → start k todo →
  ∃ ρ' w' a' f, Steps P (lone (on b a todo) cs w) (lone f cs w') ∧ Ends ρ' b a' k out.ex f ∧ Rel P ρ' out.m w' ∧ Grow ρ ρ' m out.m w w' ∧ FOk ρ' n0 (fr.with out.ts) b a' out.m w'
def Goes (P : Program) (kd : CallKind) (fr : Frame) (w : World) (v : Value) : Prop :=
 fr.mode = .returning ∧ fr.defers = [] ∧ fr.kind = kd ∧ ∃ fn, P.funcs[fr.fn]? = some fn ∧ (results fn fr.tmps).run P w = .ok v w
def FollowsK (P : Program) (kd : CallKind) (f : FuncId) (args : List Value) (m : AW) (out : Out) : Prop :=
  ∀ (ρ : Ren) (w : World) (args' : List Value) (cs : List Frame), (∀ fr : Frame, fr.kind = kd → tryRecover fr cs = none) → Rel P ρ m w → Fresh ρ m out.m → VsRel ρ args args' →
    ∃ ρ' w', Rel P ρ' out.m w' ∧ Grow ρ ρ' m out.m w w' ∧
      ((∃ v', out.ex = .ret ∧ VRel ρ' out.v v' ∧ (callFunc f ⟨args'⟩).run P w = .ok (.value v') w') ∨
       ((callFunc f ⟨args'⟩).run P w = .ok (.enter f ⟨args'⟩) w ∧ ∃ fr, fr.fn = f ∧ Steps P (lone (Frame.enter P f ⟨args'⟩ kd) cs w) (lone fr cs w') ∧
         ((∃ v', out.ex = .ret ∧ VRel ρ' out.v v' ∧ Goes P kd fr w' v') ∨ (∃ v v', out.ex = .panic v ∧ VRel ρ' v v' ∧ fr.leaving P w' (.panicked [{ v := v', recovered := false }])))))
def FollowsFn (P : Program) (f : FuncId) (args : List Value) (m : AW) (out : Out) : Prop :=
  ∀ (ρ : Ren) (w : World) (args' : List Value) (cs : List Frame), Rel P ρ m w → Fresh ρ m out.m → VsRel ρ args args' →
    ∃ ρ' w', Rel P ρ' out.m w' ∧ Grow ρ ρ' m out.m w w' ∧
      ((∃ v', out.ex = .ret ∧ VRel ρ' out.v v' ∧ (callFunc f ⟨args'⟩).run P w = .ok (.value v') w') ∨
       ((callFunc f ⟨args'⟩).run P w = .ok (.enter f ⟨args'⟩) w ∧ ∃ fr, fr.fn = f ∧ Steps P (lone (Frame.enter P f ⟨args'⟩ .normal) cs w) (lone fr cs w') ∧
         ((∃ v', out.ex = .ret ∧ VRel ρ' out.v v' ∧ fr.leaving P w' (.returned v')) ∨ (∃ v v', out.ex = .panic v ∧ VRel ρ' v v' ∧ fr.leaving P w' (.panicked [{ v := v', recovered := false }])))))
theorem FollowsK.fn (h : FollowsK P .normal f args m out) : FollowsFn P f args m out := by
 intro ρ w args' cs hr hf ha
 obtain ⟨ρ', w', q1, q2, q3⟩ := h ρ w args' cs (fun fr hk => by simp [tryRecover, hk]) hr hf ha
 refine ⟨ρ', w', q1, q2, ?_⟩
 rcases q3 with q3 | ⟨q4, fr, q5, q6, q7⟩
 ·exact .inl q3
 refine .inr ⟨q4, fr, q5, q6, ?_⟩
 rcases q7 with ⟨v', h1, h2, h3, h4, h5, h6⟩ | q7
 ·exact .inl ⟨v', h1, h2, h3, h4, h5, h6⟩
 exact .inr q7
def FollowsYield (P : Program) (l : Nat) (args : List Value) (m : AW) (out : Out) : Prop :=
  ∀ (ρ : Ren) (w : World) (args' : List Value) (c : Frame) (cs : List Frame) (s : Spot), Rel P ρ m w → Fresh ρ m out.m → VsRel ρ args args' → ρ l = some s →
    ∃ ρ' w' f tmps x y, (Instr.yield s.blk ⟨args'⟩).run P w = .ok (.round s.blk f tmps x y) w ∧ Rel P ρ' out.m w' ∧ Grow ρ ρ' m out.m w w' ∧
      ((∃ v', out.ex = .ret ∧ VRel ρ' out.v v' ∧ Steps P (lone (Frame.round s.blk f tmps x y .normal) (c :: cs) w) (lone (c.finish v') cs w')) ∨
       (∃ v v', out.ex = .panic v ∧ VRel ρ' v v' ∧ Steps P (lone (Frame.round s.blk f tmps x y .normal) (c :: cs) w) (lone (c.raise [{ v := v', recovered := false }]) cs w')))
def Sound (P : Program) (fr : AFr) (t : Task) (m : AW) (out : Out) : Prop :=
 match t with
 | .code c => Follows P fr m out (Starts c)
 | .scope body rest => Follows P fr m out fun k todo => todo = .code rest :: .inScope body :: k
 | .fn f args => FollowsFn P f args m out
 | .dfn f args => FollowsK P .deferred f args m out
 | .yield l args => FollowsYield P l args m out
theorem TsRel.put {a : Act} (h : TsRel ρ n ts a.tmps) (hv : VRel ρ v v') (d : Option Tmp) : TsRel ρ n (Ab.put n ts d v) (a.put d v').tmps := by
 cases d with
 | none => exact h
 | some d =>
  obtain ⟨⟨h1, h3⟩, h2⟩ := h
  refine ⟨⟨by simp [Act.put, h1], h3⟩, fun t htd => ?_⟩
  simp only [Ab.put, Act.put]
  by_cases hd : d < n
  ·have : Nat.blt d n = true := by rw [nblt]; simpa using hd
   rw [this]
   simp only [cond_true, Tr.get_set]
   by_cases ht : t = d
   ·subst ht
    simp only [if_true, Option.getD_some]
    rw [Array.getD_eq_getD_getElem?, Array.getElem?_setIfInBounds_self_of_lt (by rw [h1]; exact hd)]
    exact hv
   rw [if_neg ht, Array.getD_eq_getD_getElem?, Array.getElem?_setIfInBounds_ne (fun e => ht e.symm), ← Array.getD_eq_getD_getElem?]
   exact h2 t htd
  have : Nat.blt d n = false := by rw [nblt]; simpa using hd
  rw [this]
  simp only [cond_false]
  rw [Array.setIfInBounds_eq_of_size_le (by rw [h1]; exact Nat.le_of_not_lt hd)]
  exact h2 t htd
theorem Act.put_defers' (a : Act) (d : Option Tmp) (v : Value) : (a.put d v).defers = a.defers := by cases d <;> rfl
theorem erel_of {a : Act} (h : TsRel ρ n ts a.tmps) (hg : ∀ g, g < P.globals.size → ∃ c, ρ g = some ⟨g, 0, c⟩) : ERel P ρ ts a.eval := by
 intro x v hx
 cases x with
 | tmp t =>
  simp only [ev] at hx
  obtain ⟨hlt, hx⟩ := bif_some hx
  rw [nblt, decide_eq_true_eq] at hlt
  cases hx
  exact h.2 t hlt
 | const c =>
  simp only [ev] at hx
  obtain ⟨hgr, hx⟩ := bif_some hx
  cases hx
  exact ground_rel ρ _ hgr
 | global g =>
  simp only [ev] at hx
  obtain ⟨hlt, hx⟩ := bif_some hx
  simp only [nblt, decide_eq_true_eq] at hlt
  cases hx
  obtain ⟨c, hc⟩ := hg g hlt
  exact .ptr hc
 | func f =>
  simp only [ev, Option.some.injEq] at hx
  subst hx
  exact .func .nil .nil
theorem bool_rel (h : VRel ρ v v') (b : Bool) : v = .bool b ↔ v' = .bool b := by
 by_cases hs : ∃ i, v = .chan (some i)
 ·obtain ⟨i, rfl⟩ := hs
  cases h
  have := Vals.sc i
  cases hv : Vals.val i <;> simp_all [scalar]
 cases h <;> first | exact absurd ⟨_, rfl⟩ hs | simp
theorem guard_rel (h : VRel ρ (x.getD undef) (y.getD undef)) (want : Bool) :
  (fun z : Option Value => match z with | some (.bool b) => b == want | _ => false) x = ((fun z : Option Value => match z with | some (.bool b) => some b | _ => none) y == some want) := by
 simp only
 have key := bool_rel h
 by_cases hb : ∃ b, x.getD undef = .bool b
 ·obtain ⟨b, hb⟩ := hb
  have hy := (key b).1 hb
  have hx' : x = some (.bool b) := by cases x <;> simp_all [undef]
  have hy' : y = some (.bool b) := by cases y <;> simp_all [undef]
  subst hx'
  subst hy'
  rfl
 have e1 : ∀ z : Option Value, (∀ b, z ≠ some (.bool b)) → (match z with | some (.bool b) => b == want | _ => false) = false := by
  intro z hz
  split
  ·exact absurd rfl (hz _)
  rfl
 have e2 : ∀ z : Option Value, (∀ b, z ≠ some (.bool b)) → (match z with | some (.bool b) => some b | _ => none) = none := by
  intro z hz
  split
  ·exact absurd rfl (hz _)
  rfl
 rw [e1 x fun b e => hb ⟨b, by rw [e]; rfl⟩, e2 y fun b e => hb ⟨b, (key b).2 (by rw [e]; rfl)⟩]
 rfl
theorem wanted_rel {a : Act} (h : TsRel ρ n ts a.tmps) (ops : Array Oper) (o : Oper) : wantedA ops ts o = Region.wanted o (yielded ops a.tmps) := by
 unfold wantedA Region.wanted
 cases o.guard with
 | none => rfl
 | some jw =>
  obtain ⟨j, want⟩ := jw
  simp only [yielded]
  cases hd : (ops[j]?).bind (·.dst) with
  | none => simp
  | some t =>
   simp only [Option.bind_some]
   cases hb : Nat.blt t dIx with
   | true =>
    rw [nblt, decide_eq_true_eq] at hb
    have h2 := h.2 t hb
    rw [Array.getD_eq_getD_getElem?] at h2
    exact guard_rel h2 want
   | false =>
    have : ¬ t < dIx := fun hlt => by
     have : Nat.blt t dIx = true := by rw [nblt]; simpa using hlt
     rw [this] at hb
     cases hb
    have : a.tmps[t]? = none := Array.getElem?_eq_none (by rw [h.1.1]; exact Nat.le_trans h.1.2 (Nat.le_of_not_lt this))
    rw [this]
    rfl
end
end Go.Ab
namespace Go.Ab
variable [Vals]
section
variable {P : Program} [FactsOk P] {ρ ρ' : Ren} {m m' : AW} {w w' : World} {ts : Tr Value} {self : Self}
theorem doOp_nodefer (h : doOp P self ts o m = some r) : NoDefer o := by
 rintro c rfl
 simp [doOp, cls, opH] at h
theorem valM_val (h : valM v x = some (.pan u m')) : False := by
 unfold valM at h
 split at h <;> cases h
theorem valP_val (h : valP x = some (.pan u m')) : False := by
 unfold valP at h
 split at h <;> cases h
theorem callB_pan (h : callB P b args t m = some (.pan u m')) : False := by
 unfold callB at h
 split at h
 ·split at h
  ·unfold appendV at h
   split at h
   ·split at h
    ·split at h
     ·split at h
      ·obtain ⟨_, h⟩ := bif_some h
       split at h
       ·exact valP_val h
       cases h
      cases h
     ·split at h
      ·split at h
       ·exact valP_val h
       cases h
      cases h
     cases h
    cases h
   cases h
  cases h
 ·split at h
  ·unfold copyV at h
   split at h
   ·split at h
    ·split at h
     ·split at h
      ·split at h
       ·split at h
        ·obtain ⟨_, h⟩ := bif_some h
         cases h
        ·exact valM_val h
        cases h
       cases h
      cases h
     cases h
    cases h
   cases h
  cases h
 ·split at h
  ·unfold deleteV at h
   split at h
   ·obtain ⟨_, h⟩ := bif_some h
    split at h
    ·cases h
    ·split at h
     ·split at h <;> cases h
     cases h
    cases h
   cases h
  cases h
 ·split at h
  ·unfold unsafeStr at h
   split at h
   ·split at h
    ·obtain ⟨_, h⟩ := bif_some h
     cases h
    cases h
   ·split at h
    ·split at h
     ·split at h
      ·split at h
       ·split at h
        ·obtain ⟨_, h⟩ := bif_some h
         cases h
        cases h
       cases h
      cases h
     cases h
    cases h
   cases h
  cases h
 cases h
theorem nextA_pan (h : nextA x b m = some (.pan u m')) : False := by
 unfold nextA at h
 split at h
 ·split at h
  ·obtain ⟨_, h⟩ := bif_some h
   generalize Nat.blt _ _ = c at h
   cases c <;> cases h
  ·cases b with
   | true => cases h
   | false =>
    simp only [cond_false] at h
    split at h
    ·cases h
    split at h
    ·split at h <;> cases h
    cases h
  cases h
 cases h
theorem entryA_pan (h : entryA x m = some (.pan u m')) : False := by
 unfold entryA at h
 split at h
 ·split at h
  ·split at h
   ·split at h
    ·split at h
     ·revert h
      generalize Nat.beq _ _ = c
      intro h
      cases c <;> cases h
     cases h
    cases h
   cases h
  cases h
 cases h
theorem opH_pan (h : opH P self ts o m = some (.pan u m')) (hl : Local o) : False := by
 unfold opH at h
 split at h
 ·split at h
  ·split at h
   ·unfold storeV at h
    split at h
    ·split at h
     ·obtain ⟨_, h⟩ := bif_some h
      exact valM_val h
     cases h
    cases h
   cases h
  cases h
 ·split at h
  ·unfold mapSet at h
   split at h
   ·split at h
    ·obtain ⟨_, h⟩ := bif_some h
     split at h
     ·split at h <;> cases h
     cases h
    cases h
   cases h
  cases h
 ·split at h
  ·unfold mapSet at h
   split at h
   ·split at h
    ·obtain ⟨_, h⟩ := bif_some h
     split at h
     ·split at h <;> cases h
     cases h
    cases h
   cases h
  cases h
 ·split at h
  ·unfold rangeA at h
   split at h
   ·split at h <;> cases h
   ·split at h <;> cases h
   ·split at h
    ·split at h <;> cases h
    cases h
   cases h
  cases h
 ·split at h
  ·exact nextA_pan h
  cases h
 ·split at h
  ·exact entryA_pan h
  cases h
 ·obtain ⟨b, hb⟩ := hl
  simp only [callH, hb] at h
  split at h
  ·exact callB_pan h
  cases h
 ·exact hl
 cases h
theorem callFunc_args (a b c : List Value) : (⟨a⟩ : Array Value) ++ ⟨b⟩ ++ ⟨c⟩ = ⟨a ++ b ++ c⟩ := by simp
def OpEnds (P : Program) (ρ : Ren) (m : AW) (w : World) (b : Frame) (a : Act) (cs : List Frame) (todo next : List Item) (dst : Option Tmp) (r : Rs) : Prop :=
 match r with
 | .val v m' => ∃ ρ' w' v', Steps P (lone (on b a todo) cs w) (lone (on b (a.put dst v') next) cs w') ∧ Rel P ρ' m' w' ∧ Grow ρ ρ' m m' w w' ∧ VRel ρ' v v'
 | .pan v m' => ∃ ρ' w' v', Steps P (lone (on b a todo) cs w) (lone (off b a todo (.panicking [{ v := v', recovered := false }])) cs w') ∧ Rel P ρ' m' w' ∧ Grow ρ ρ' m m' w w' ∧ VRel ρ' v v'
theorem op_follows (hS : ∀ fr t m out, self fr t m = some out → Sound P fr t m out) (ho : ops[i]? = some o) (hw : Region.wanted o (yielded ops a.tmps) = true)
  (hx : execOp a.eval o = execOp e o) (hE : ERel P ρ ts e) (hr : Rel P ρ m w) (h : doOp P self ts o.op m = some r) (hf : Fresh ρ m r.m) :
  OpEnds P ρ m w b a cs (.inRegion ops (i :: rest) :: k) (.inRegion ops rest :: k) o.dst r := by
 have hd := doOp_nodefer h
 unfold doOp at h
 split at h
 ·unfold doP at h
  split at h
  ·rename_i v hv
   cases h
   obtain ⟨v', q1, q2⟩ := opP_rel hE hv w
   exact ⟨ρ, w, v', .one (op_value ho hw hd (by rw [hx]; exact q1)), hr, .refl _ _ _, q2⟩
  cases h
 ·unfold doL at h
  split at h
  ·rename_i v hv
   cases h
   obtain ⟨v', q1, q2⟩ := opL_imm hE hv w
   exact ⟨ρ, w, v', .one (op_value ho hw hd (by rw [hx]; exact q1)), hr, .refl _ _ _, q2⟩
  ·rename_i bl f hv
   split at h
   ·rename_i v hb
    cases h
    obtain ⟨ob, hb1, hb2⟩ := Option.bind_eq_some_iff.1 hb
    obtain ⟨s, x, q1, q2, q3⟩ := hr.obj _ _ hb1
    obtain ⟨v', r1, r2⟩ := opL_rd hE hv hb2 ⟨q1, q2, q3⟩
    exact ⟨ρ, w, v', .one (op_value ho hw hd (by rw [hx]; exact r1)), hr, .refl _ _ _, r2⟩
   cases h
  cases h
 ·unfold doA at h
  split at h
  ·rename_i x f hv
   cases h
   obtain ⟨s, q1, q2, q3, q4⟩ := opA_rel hE hv
   obtain ⟨cap, y, w1, v', r1, r2, r3, r4⟩ := q4 w
   have hfr := hf _ (Nat.le_refl _) (by simp [Rs.m, AW.new])
   have hle : ρ.le (ρ.set m.next ⟨w.heap.size, 0, cap⟩) := Ren.le_set hfr
   obtain ⟨t1, t2⟩ := r4 (ρ.set m.next ⟨w.heap.size, 0, cap⟩) m.next hle (Ren.set_same _ _ _)
   have hn := hr.new hfr r2 r3 t1
   refine ⟨_, w1, v', .one (op_value ho hw hd ?_), hn.1, hn.2, t2⟩
   rw [hx]
   rw [q1]
   simp only [Sem.run_bind, r1, Result.andThen_ok, Sem.run_pure]
  cases h
 have loc : ∀ v m', r = .val v m' → Local o.op → ∃ ρ' w' v', Steps P (lone (on b a (.inRegion ops (i :: rest) :: k)) cs w) (lone (on b (a.put o.dst v') (.inRegion ops rest :: k)) cs w') ∧ Rel P ρ' m' w' ∧ Grow ρ ρ' m m' w w' ∧ VRel ρ' v v' := by
  intro v m' hrv hl
  subst hrv
  obtain ⟨ρ', w', x, q1, q2, q3, q4⟩ := opH_rel hE hr hf h hl
  rcases q4 with ⟨v', rfl, q5⟩ | ⟨rfl, rfl⟩
  ·exact ⟨ρ', w', v', .one (op_value ho hw hd (by rw [hx]; exact q1)), q2, q3, q5⟩
  exact ⟨ρ', w', undef, .one (Ab.op_skip ho hw hd (by rw [hx]; exact q1)), q2, q3, undef_rel _⟩
 by_cases hl : Local o.op
 ·cases r with
  | val v m' => exact loc v m' rfl hl
  | pan v m' => exact (opH_pan h hl).elim
 cases hop : o.op with
 | call c =>
  cases hc : c.callee with
  | builtin bn => exact absurd (by rw [hop]; exact ⟨bn, hc⟩) hl
  | invoke x nm =>
   rw [hop] at h
   simp only [opH, callH, hc] at h
   split at h
   ·rename_i args ha
    split at h
    ·rename_i t rv hrv
     split at h
     ·rename_i g hg
      have hargs := hE.list ha
      have hrr := hE _ _ hrv
      generalize he : e x = rv' at hrr
      cases hrr with
      | iface hvv =>
       rename_i v0
       have hmeth : (method (P.types.size + Made.depth) t v0 nm).run P w = .ok (g, v0) w := methA_method hg (P.types.size + 99) v0 w
       have hrun : (execOp e o).run P w = (callFunc g ⟨v0 :: c.args.toList.map e⟩).run P w := by
        unfold execOp
        rw [hop]
        have e1 : (#[Value.iface t v0] ++ c.args.map e : Array Value)[0]? = some (.iface t v0) := by
         rw [Array.getElem?_append_left (by simp)]
         rfl
        have e2 : (#[Value.iface t v0] ++ c.args.map e : Array Value).extract 1 (#[Value.iface t v0] ++ c.args.map e : Array Value).size = c.args.map e := by
         apply Array.ext'
         simp [List.take_of_length_le]
        simp only [resolve, hc, he, Sem.run_bind, Sem.run_pure, Result.andThen_ok, invoke, e1, e2, callMethod, run_program, hmeth]
        congr 2
        apply Array.ext'
        simp
       unfold callA at h
       split at h
       ·rename_i heq
        cases h
        have hs := hS _ _ _ _ heq
        obtain ⟨ρ', w', q1, q2, q3⟩ := hs ρ w _ (on b a (.inRegion ops (i :: rest) :: k) :: cs) hr hf (.cons hvv hargs)
        rcases q3 with ⟨v', _, q4, q5⟩ | ⟨q5, fr, q6, q7, q8⟩
        ·exact ⟨ρ', w', v', .one (op_value ho hw hd (by rw [hx, hrun]; exact q5)), q1, q2, q4⟩
        rcases q8 with ⟨v', _, q9, q10⟩ | ⟨_, _, q9, _⟩
        ·refine ⟨ρ', w', v', ?_, q1, q2, q9⟩
         refine .head (op_enter ho hw hd (by rw [hx, hrun]; exact q5)) (q7.trans (.one ?_))
         rw [step_leave_returned q10, on_finish, ho]
         rfl
        cases q9
       ·rename_i heq
        cases h
        have hs := hS _ _ _ _ heq
        obtain ⟨ρ', w', q1, q2, q3⟩ := hs ρ w _ (on b a (.inRegion ops (i :: rest) :: k) :: cs) hr hf (.cons hvv hargs)
        rcases q3 with ⟨v', q4, _⟩ | ⟨q5, fr, q6, q7, q8⟩
        ·cases q4
        rcases q8 with ⟨v', q9, _⟩ | ⟨v2, v', q9, q10, q11⟩
        ·cases q9
        cases q9
        refine ⟨ρ', w', v', ?_, q1, q2, q10⟩
        refine .head (op_enter ho hw hd (by rw [hx, hrun]; exact q5)) (q7.trans (.one ?_))
        rw [step_leave_panicked q11]
        rfl
       cases h
     cases h
    cases h
   cases h
  | value f =>
   rw [hop] at h
   simp only [opH, callH, hc] at h
   split at h
   ·rename_i args ha
    split at h
    ·rename_i fv hfv
     have hargs := hE.list ha
     have hfr := hE _ _ hfv
     have hex : execOp e o = (do let d ← Deferred.ofValue (e f) (c.args.map e); invoke d.target d.args) := by
      unfold execOp
      rw [hop]
      simp only [resolve, hc]
     rw [map_arr] at hex
     unfold callV at h
     split at h
     ·rename_i g first captured
      generalize he : e f = fv' at hfr hex
      cases hfr with
      | func h1 h2 =>
       rename_i first' captured'
       have hrun : (execOp e o).run P w = (callFunc g ⟨first' ++ c.args.toList.map e ++ captured'⟩).run P w := by
        rw [hex]
        simp only [Deferred.ofValue, Sem.run_bind, Sem.run_pure, Result.andThen_ok, invoke, callFunc_args]
       unfold callA at h
       split at h
       ·rename_i heq
        cases h
        have hs := hS _ _ _ _ heq
        obtain ⟨ρ', w', q1, q2, q3⟩ := hs ρ w _ (on b a (.inRegion ops (i :: rest) :: k) :: cs) hr hf ((h1.append hargs).append h2)
        rcases q3 with ⟨v', _, q4, q5⟩ | ⟨q5, fr, q6, q7, q8⟩
        ·exact ⟨ρ', w', v', .one (op_value ho hw hd (by rw [hx, hrun]; exact q5)), q1, q2, q4⟩
        rcases q8 with ⟨v', _, q9, q10⟩ | ⟨_, _, q9, _⟩
        ·refine ⟨ρ', w', v', ?_, q1, q2, q9⟩
         refine .head (op_enter ho hw hd (by rw [hx, hrun]; exact q5)) (q7.trans (.one ?_))
         rw [step_leave_returned q10, on_finish, ho]
         rfl
        cases q9
       ·rename_i heq
        cases h
        have hs := hS _ _ _ _ heq
        obtain ⟨ρ', w', q1, q2, q3⟩ := hs ρ w _ (on b a (.inRegion ops (i :: rest) :: k) :: cs) hr hf ((h1.append hargs).append h2)
        rcases q3 with ⟨v', q4, _⟩ | ⟨q5, fr, q6, q7, q8⟩
        ·cases q4
        rcases q8 with ⟨v', q9, _⟩ | ⟨v2, v', q9, q10, q11⟩
        ·cases q9
        cases q9
        refine ⟨ρ', w', v', ?_, q1, q2, q10⟩
        refine .head (op_enter ho hw hd (by rw [hx, hrun]; exact q5)) (q7.trans (.one ?_))
        rw [step_leave_panicked q11]
        rfl
       cases h
     ·rename_i l x1 x2
      generalize he : e f = fv' at hfr hex
      cases hfr with
      | yield hl2 =>
       rename_i s
       have hrun : (execOp e o).run P w = (Instr.yield s.blk ⟨c.args.toList.map e⟩).run P w := by
        rw [hex]
        simp only [Deferred.ofValue, Sem.run_bind, Sem.run_pure, Result.andThen_ok, invoke]
        rw [show (⟨[]⟩ : Array Value) ++ (⟨c.args.toList.map e⟩ : Array Value) = ⟨c.args.toList.map e⟩ by simp]
       split at h
       ·rename_i heq
        cases h
        have hs := hS _ _ _ _ heq
        obtain ⟨ρ', w', f2, tmps, x, y, q0, q1, q2, q3⟩ := hs ρ w _ (on b a (.inRegion ops (i :: rest) :: k)) cs s hr hf hargs hl2
        rcases q3 with ⟨v', _, q4, q5⟩ | ⟨_, _, q9, _⟩
        ·refine ⟨ρ', w', v', ?_, q1, q2, q4⟩
         rw [on_finish, ho] at q5
         exact .head (op_round ho hw hd (by rw [hx, hrun]; exact q0)) q5
        cases q9
       ·rename_i heq
        cases h
        have hs := hS _ _ _ _ heq
        obtain ⟨ρ', w', f2, tmps, x, y, q0, q1, q2, q3⟩ := hs ρ w _ (on b a (.inRegion ops (i :: rest) :: k)) cs s hr hf hargs hl2
        rcases q3 with ⟨v', q9, _⟩ | ⟨v2, v', q9, q4, q5⟩
        ·cases q9
        cases q9
        exact ⟨ρ', w', v', .head (op_round ho hw hd (by rw [hx, hrun]; exact q0)) q5, q1, q2, q4⟩
       cases h
     cases h
    cases h
   cases h
 | panic x =>
  rw [hop] at h
  simp only [opH] at h
  unfold panicV at h
  split at h
  ·rename_i t v hxv
   cases h
   have hv := hE _ _ hxv
   generalize he : e x = xv at hv
   cases hv with
   | iface hv2 =>
    refine ⟨ρ, w, _, .one (op_panic ho hw hd ?_), hr, .refl _ _ _, .iface hv2⟩
    rw [hx]
    unfold execOp
    rw [hop]
    simp only [he, Instr.panic, Sem.run_bind]
    rfl
  cases h
 | _ => exact absurd (by rw [hop]; trivial) hl
end
end Go.Ab
namespace Go.Ab
variable [Vals]
section
variable {P : Program} [FactsOk P] {ρ ρ' : Ren} {m m' : AW} {w w' : World} {ts : Tr Value} {self : Self}
theorem Fresh.left (h : Fresh ρ m m2) (h1 : m1.next ≤ m2.next) : Fresh ρ m m1 := fun i a b => h i a (by omega)
theorem Fresh.right (h : Fresh ρ m m2) (g : Grow ρ ρ' m m1 w w') : Fresh ρ' m1 m2 := fun i a b => by
 have := g.next
 rw [g.only i (.inr a)]
 exact h i (by omega) b
def Reaches (P : Program) (ρ : Ren) (w : World) (fr : AFr) (b : Frame) (a : Act) (n0 : Nat) (k : List Item) (cs : List Frame) (todo : List Item) (m : AW) (out : Out) : Prop :=
 ∃ ρ' w' a' f, Steps P (lone (on b a todo) cs w) (lone f cs w') ∧ Ends ρ' b a' k out.ex f ∧ Rel P ρ' out.m w' ∧ Grow ρ ρ' m out.m w w' ∧ FOk ρ' n0 (fr.with out.ts) b a' out.m w'
theorem Reaches.after
  (hs : Steps P (lone (on b a todo) cs w) (lone (on b a1 todo1) cs w1)) (hg : Grow ρ ρ1 m m1 w w1) (h : Reaches P ρ1 w1 (fr.with ts1) b a1 n0 k cs todo1 m1 out) : Reaches P ρ w fr b a n0 k cs todo m out := by
 obtain ⟨ρ', w', a', f, q1, q2, q3, q4, q5⟩ := h
 exact ⟨ρ', w', a', f, hs.trans q1, q2, q3, hg.trans q4, q5⟩
theorem Reaches.after0
  (hs : Steps P (lone (on b a todo) cs w) (lone (on b a todo1) cs w)) (h : Reaches P ρ w fr b a n0 k cs todo1 m out) : Reaches P ρ w fr b a n0 k cs todo m out := by
 obtain ⟨ρ', w', a', f, q1, q2, q3, q4, q5⟩ := h
 exact ⟨ρ', w', a', f, hs.trans q1, q2, q3, q4, q5⟩
section
variable (hM : ∀ fr t m out, self fr t m = some out → Mono m out.m) (hS : ∀ fr t m out, self fr t m = some out → Sound P fr t m out)
include hM hS
theorem iops_follows {q : Bool} {ops : Array Oper} {fr : AFr} {b : Frame} {n0 : Nat} {k : List Item} {cs : List Frame} : ∀ (l : List Oper) (i : Nat) (ts : Tr Value) (m : AW) (out : Out) (ρ : Ren) (w : World) (a : Act), ops.toList.drop i = l → iops P self fr.n q ops l ts m = some out → (q = true → fr.round = none) → NR b cs →
  Rel P ρ m w → Fresh ρ m out.m → FOk ρ n0 (fr.with ts) b a m w → n0 ≤ w.heap.size → Reaches P ρ w fr b a n0 k cs (.inRegion ops (List.range' i (ops.size - i)) :: k) m out
 | [], i, ts, m, out, ρ, w, a, hl, h, hq, hnr, hr, hf, hok, hn => by
  simp only [iops, Option.some.injEq] at h
  subst h
  have hsz : ops.size - i = 0 := by
   have := congrArg List.length hl
   simpa using this
  rw [hsz]
  exact ⟨ρ, w, a, _, .one on_region_end, rfl, hr, .refl _ _ _, hok⟩
 | o :: l, i, ts, m, out, ρ, w, a, hl, h, hq, hnr, hr, hf, hok, hn => by
  have hi : i < ops.size := by
   have := congrArg List.length hl
   simp at this
   omega
  have ho : ops[i]? = some o := by
   have := congrArg (·[0]?) hl
   simpa using this
  have hl' : ops.toList.drop (i + 1) = l := by
   have := congrArg List.tail hl
   simpa using this
  have hrange : List.range' i (ops.size - i) = i :: List.range' (i + 1) (ops.size - (i + 1)) := by
   rw [show ops.size - i = (ops.size - (i + 1)) + 1 by omega, List.range'_succ]
  rw [hrange]
  unfold iops at h
  have hw : wantedA ops ts o = Region.wanted o (yielded ops a.tmps) := wanted_rel hok.tmps ops o
  have hE : ERel P ρ ts a.eval := erel_of hok.tmps hr.glob
  cases hc : wantedA ops ts o with
  | true =>
   rw [hc] at h hw
   simp only [cond_true] at h
   split at h
   ·split at h
    ·rename_i v m1 heq
     have h1 := doOp_mono hM heq
     have h2 := iops_mono hM _ _ _ _ h
     obtain ⟨ρ1, w1, v', q1, q2, q3, q4⟩ := op_follows (b := b) (k := k) (cs := cs) (rest := List.range' (i + 1) (ops.size - (i + 1))) hS ho hw.symm rfl hE hr heq (hf.left h2.next)
     have hok1 : FOk ρ1 n0 (fr.with (put fr.n ts o.dst v)) b (a.put o.dst v') m1 w1 :=
      FOk.grow (fr := fr.with ts) hok q3 (Act.put_defers' _ _ _) (put_defs hok.tmps.1.2) ((TsRel.mono q3.le hok.tmps).put q4 o.dst)
     refine Reaches.after (ts1 := put fr.n ts o.dst v) q1 q3 ?_
     exact iops_follows (fr := fr.with (put fr.n ts o.dst v)) l (i + 1) _ _ _ _ _ _ hl' h hq hnr q2 (hf.right q3) hok1 (Nat.le_trans hn q3.size)
    ·rename_i v m1 heq
     cases h
     obtain ⟨ρ1, w1, v', q1, q2, q3, q4⟩ := op_follows (b := b) (k := k) (cs := cs) (rest := List.range' (i + 1) (ops.size - (i + 1))) hS ho hw.symm rfl hE hr heq hf
     exact ⟨ρ1, w1, a, _, q1, ⟨_, v', rfl, q4⟩, q2, q3, FOk.grow (fr := fr.with ts) hok q3 rfl rfl (TsRel.mono q3.le hok.tmps)⟩
    cases h
   ·rename_i c hspc
    have hop : o.op = .defer c := by
     unfold spc at hspc
     split at hspc <;> first | cases hspc | skip
     assumption
    split at h
    ·rename_i v hv
     obtain ⟨hqt, h⟩ := bif_some h
     have hround := hq hqt
     unfold dfrA at hv
     split at hv
     ·rename_i f hcal
      split at hv
      ·rename_i g first captured hfv
       split at hv
       ·rename_i args hargs
        cases hv
        have ha := hE.list hargs
        have hfr := hE _ _ hfv
        generalize he : a.eval f = fv' at hfr
        cases hfr with
        | func h1 h2 =>
         rename_i first' captured'
         rcases hok.round with ⟨l0, s0, e1, _⟩ | ⟨e1, e2, e3⟩
         ·rw [show (fr.with ts).round = fr.round from rfl, hround] at e1
          cases e1
         have hrun : (execOp a.eval o).run P w = .ok (.defer { target := .fn (.func g) ⟨captured'⟩, args := ⟨first' ++ c.args.toList.map a.eval⟩ }) w := by
          unfold execOp
          rw [hop]
          simp only [resolve, hcal, he, Deferred.ofValue, Sem.run_bind, Sem.run_pure, Result.andThen_ok]
          congr 3
          apply Array.ext'
          simp
         have hstep := op_defer (P := P) (b := b) (a := a) (k := k) (cs := cs) (rest := List.range' (i + 1) (ops.size - (i + 1))) ho hw.symm hop e2 hrun
         have hts0 : TsRel ρ fr.n (pushD ts (.func (.func g) ⟨first ++ args⟩ ⟨captured⟩)) a.tmps := by
          refine ⟨hok.tmps.1, fun t ht => ?_⟩
          unfold pushD
          rw [Tr.get_set, if_neg (fun e => Nat.lt_irrefl dIx (by rw [e] at ht; exact ht))]
          exact hok.tmps.2 t ht
         have hdefs : defsOf (pushD ts (.func (.func g) ⟨first ++ args⟩ ⟨captured⟩)) = .func (.func g) ⟨first ++ args⟩ ⟨captured⟩ :: defsOf ts := by
          unfold pushD
          exact defsOf_set _ _
         have hok1 : FOk ρ n0 (fr.with (put fr.n (pushD ts (.func (.func g) ⟨first ++ args⟩ ⟨captured⟩)) o.dst undef)) b ((⟨a.tmps, { target := .fn (.func g) ⟨captured'⟩, args := ⟨first' ++ c.args.toList.map a.eval⟩ } :: a.defers⟩ : Act).put o.dst undef) m w := by
          have hput := TsRel.put (a := ⟨a.tmps, { target := .fn (.func g) ⟨captured'⟩, args := ⟨first' ++ c.args.toList.map a.eval⟩ } :: a.defers⟩) hts0 (undef_rel _) o.dst
          refine ⟨hok.fn, hput, .inr ⟨e1, e2, ?_⟩⟩
          show Defs ρ n0 m w (defsOf (put fr.n _ o.dst undef)) _
          rw [put_defs (n := fr.n) hok.tmps.1.2, hdefs, Act.put_defers']
          obtain ⟨Bs, t1, t2⟩ := e3
          exact ⟨Bs, .call (h1.append ha) h2 t1, t2⟩
         obtain ⟨ρ', w', a', f', r1, r2, r3, r4, r5⟩ := iops_follows (fr := fr.with (put fr.n (pushD ts (.func (.func g) ⟨first ++ args⟩ ⟨captured⟩)) o.dst undef)) l (i + 1) _ _ _ ρ w _ hl' h hq hnr hr hf hok1 hn
         exact ⟨ρ', w', a', f', .head hstep r1, r2, r3, r4, r5⟩
       cases hv
      cases hv
     cases hv
    cases h
   rename_i hspc
   obtain ⟨hqt, h⟩ := bif_some h
   have hround := hq hqt
   have hrec : ∃ c : Call, o.op = .call c ∧ c.callee = .builtin .recover := by
    unfold spc at hspc
    split at hspc <;> first | cases hspc | skip
    rename_i heq
    exact ⟨_, heq, rfl⟩
   obtain ⟨c, hop, hcal⟩ := hrec
   rcases hok.round with ⟨l0, s0, e1, _⟩ | ⟨e1, e2, e3⟩
   ·rw [show (fr.with ts).round = fr.round from rfl, hround] at e1
    cases e1
   have hrun : (execOp a.eval o).run P w = .ok .recover w := by
    unfold execOp
    rw [hop]
    simp only [resolve, hcal, Sem.run_bind, Sem.run_pure, Result.andThen_ok, invoke, builtin]
   have hstep := op_recover (P := P) (b := b) (a := a) (k := k) (cs := cs) (rest := List.range' (i + 1) (ops.size - (i + 1))) ho hw.symm (fun c2 hc2 => by rw [hop] at hc2; cases hc2) e2 (hnr e2) hrun
   have hok1 : FOk ρ n0 (fr.with (put fr.n ts o.dst .nilIface)) b (a.put o.dst .nilIface) m w :=
    FOk.grow (fr := fr.with ts) hok (.refl _ _ _) (Act.put_defers' _ _ _) (put_defs hok.tmps.1.2) (TsRel.put hok.tmps .nilIface o.dst)
   refine Reaches.after (ts1 := put fr.n ts o.dst .nilIface) (.one hstep) (.refl _ _ _) ?_
   exact iops_follows (fr := fr.with (put fr.n ts o.dst .nilIface)) l (i + 1) _ _ _ _ _ _ hl' h hq hnr hr hf hok1 hn
  | false =>
   rw [hc] at h hw
   simp only [cond_false] at h
   have hskip : step P (lone (on b a (.inRegion ops (i :: List.range' (i + 1) (ops.size - (i + 1))) :: k)) cs w) = .next (lone (on b (a.put o.dst undef) (.inRegion ops (List.range' (i + 1) (ops.size - (i + 1))) :: k)) cs w) := by
    have := on_op_skip (P := P) (b := b) (a := a) (k := k) (cs := cs) (w := w) (ops := ops) (i := i) (rest := List.range' (i + 1) (ops.size - (i + 1))) (by rw [ho]; simp only [Option.map_some, Option.getD_some]; exact hw.symm)
    rw [ho] at this
    exact this
   have hok1 : FOk ρ n0 (fr.with (put fr.n ts o.dst undef)) b (a.put o.dst undef) m w :=
    FOk.grow (fr := fr.with ts) hok (.refl _ _ _) (Act.put_defers' _ _ _) (put_defs hok.tmps.1.2) (TsRel.put hok.tmps (undef_rel _) o.dst)
   refine Reaches.after (ts1 := put fr.n ts o.dst undef) (.one hskip) (.refl _ _ _) ?_
   exact iops_follows (fr := fr.with (put fr.n ts o.dst undef)) l (i + 1) _ _ _ _ _ _ hl' h hq hnr hr hf hok1 hn
end
end
end Go.Ab
namespace Go.Ab
variable [Vals]
section
variable {P : Program} [FactsOk P] {ρ ρ' : Ren} {m m' : AW} {w w' : World} {ts : Tr Value} {self : Self}
theorem Ends.pass (h : Ends ρ b a k1 ex f) (hx : ∀ id, exitTo id k1 = exitTo id k) (hg : ∀ l, gotoIn l k1 = gotoIn l k) (hn : ex ≠ .normal) : Ends ρ b a k ex f := by
 cases ex with
 | normal => exact absurd rfl hn
 | exit id =>
  obtain ⟨k', h1, h2⟩ := h
  exact ⟨k', h1, h2.trans (hx id)⟩
 | goto l =>
  obtain ⟨k', h1, h2⟩ := h
  exact ⟨k', h1, h2.trans (hg l)⟩
 | ret => exact h
 | panic v => exact h
theorem Reaches.pass (h : Reaches P ρ w fr b a n0 k1 cs todo m out) (hx : ∀ id, exitTo id k1 = exitTo id k) (hg : ∀ l, gotoIn l k1 = gotoIn l k) (hn : out.ex ≠ .normal) :
  Reaches P ρ w fr b a n0 k cs todo m out := by
 obtain ⟨ρ', w', a', f, q1, q2, q3, q4, q5⟩ := h
 exact ⟨ρ', w', a', f, q1, q2.pass hx hg hn, q3, q4, q5⟩
section
variable (hM : ∀ fr t m out, self fr t m = some out → Mono m out.m) (hS : ∀ fr t m out, self fr t m = some out → Sound P fr t m out)
include hM hS
theorem then_follows (heq : self fr (.code c) m = some out1) (hr : Rel P ρ m w) (hf : Fresh ρ m out.m) (hok : FOk ρ n0 fr b a m w) (hn : n0 ≤ w.heap.size)
  (hnr : NR b cs) (hst : Starts c k1 todo) (hle : out1.m.next ≤ out.m.next) (hx : ∀ id, exitTo id k1 = exitTo id k) (hg : ∀ l, gotoIn l k1 = gotoIn l k)
  (hno : out1.ex ≠ .normal → out = out1) (hyes : out1.ex = .normal → ∀ ρ1 w1 a1, Rel P ρ1 out1.m w1 → Fresh ρ1 out1.m out.m → FOk ρ1 n0 (fr.with out1.ts) b a1 out1.m w1 → n0 ≤ w1.heap.size → Reaches P ρ1 w1 (fr.with out1.ts) b a1 n0 k cs k1 out1.m out) :
  Reaches P ρ w fr b a n0 k cs todo m out := by
 have _ := hM
 obtain ⟨ρ1, w1, a1, f, q1, q2, q3, q4, q5⟩ := hS _ _ _ _ heq ρ w b a n0 k1 cs todo hnr hr (hf.left hle) hok hn hst
 by_cases he : out1.ex = .normal
 ·rw [he] at q2
  have q2 : f = on b a1 k1 := q2
  subst q2
  exact Reaches.after q1 q4 (hyes he ρ1 w1 a1 q3 (hf.right q4) q5 (Nat.le_trans hn q4.size))
 have := hno he
 subst this
 exact ⟨ρ1, w1, a1, f, q1, q2.pass hx hg he, q3, q4, q5⟩
theorem stSeq_follows (h : stSeq self fr x y m = some out) : Follows P fr m out (Starts (.seq x y)) := by
 intro ρ w b a n0 k cs todo hnr hr hf hok hn hst
 rcases hst with rfl | ⟨body, hb, _⟩
 ·refine Reaches.after0 (.one on_seq) ?_
  unfold stSeq at h
  split at h
  ·rename_i ts1 v1 m1 heq
   exact then_follows (k1 := .code y :: k) hM hS heq hr hf hok hn hnr (.inl rfl) (hM _ _ _ _ h).next (fun id => by simp [exitTo]) (fun l => by simp [gotoIn]) (fun hh => absurd rfl hh)
    (fun _ ρ1 w1 a1 r1 r2 r3 r4 => hS _ _ _ _ h ρ1 w1 b a1 n0 k cs _ hnr r1 r2 r3 r4 (.inl rfl))
  rename_i hnn
  refine then_follows (k1 := .code y :: k) hM hS h hr hf hok hn hnr (.inl rfl) (Nat.le_refl _) (fun id => by simp [exitTo]) (fun l => by simp [gotoIn]) (fun _ => rfl) (fun he => ?_)
  obtain ⟨ex, ts1, v1, m1⟩ := out
  simp only at he
  subst he
  exact absurd h (hnn _ _ _)
 cases hb
theorem stCond_follows (h : stCond P self fr x y z m = some out) : Follows P fr m out (Starts (.cond x y z)) := by
 have _ := hM
 intro ρ w b a n0 k cs todo hnr hr hf hok hn hst
 rcases hst with rfl | ⟨body, hb, _⟩
 ·have hE : ERel P ρ fr.ts a.eval := erel_of hok.tmps hr.glob
  unfold stCond at h
  split at h
  ·rename_i hx
   have hb := (bool_rel (hE _ _ hx) true).1 rfl
   exact Reaches.after0 (.one (on_cond hb)) (hS _ _ _ _ h ρ w b a n0 k cs _ hnr hr hf hok hn (.inl rfl))
  ·rename_i hx
   have hb := (bool_rel (hE _ _ hx) false).1 rfl
   exact Reaches.after0 (.one (on_cond hb)) (hS _ _ _ _ h ρ w b a n0 k cs _ hnr hr hf hok hn (.inl rfl))
  cases h
 cases hb
theorem stBlock_follows {id : Nat} (h : stBlock self fr id c m = some out) : Follows P fr m out (Starts (.block id c)) := by
 have _ := hM
 intro ρ w b a n0 k cs todo hnr hr hf hok hn hst
 rcases hst with rfl | ⟨body, hb, _⟩
 ·refine Reaches.after0 (.one on_block) ?_
  have key : ∀ o1, self fr (.code c) m = some o1 → o1.m = out.m → o1.ts = out.ts → (o1.ex = .normal → out.ex = .normal) → (∀ i, o1.ex = .exit i → i = id → out.ex = .normal) → (o1.ex ≠ .normal → (∀ i, o1.ex = .exit i → i ≠ id) → out.ex = o1.ex) →
    Reaches P ρ w fr b a n0 k cs (.code c :: .inBlock id :: k) m out := by
   intro o1 heq hm ht h1 h2 h3
   obtain ⟨ρ1, w1, a1, f, q1, q2, q3, q4, q5⟩ := hS _ _ _ _ heq ρ w b a n0 (.inBlock id :: k) cs _ hnr hr (by rw [hm]; exact hf) hok hn (.inl rfl)
   rw [hm] at q3 q4 q5
   rw [ht] at q5
   cases hex : o1.ex with
   | normal =>
    rw [hex] at q2
    have q2 : f = on b a1 (.inBlock id :: k) := q2
    subst q2
    exact ⟨ρ1, w1, a1, _, q1.trans (.one on_inBlock), by rw [h1 hex]; rfl, q3, q4, q5⟩
   | exit i =>
    rw [hex] at q2
    obtain ⟨k', rfl, r2⟩ := q2
    by_cases hi : i = id
    ·have : exitTo i k' = some k := by rw [r2]; simp [exitTo, hi]
     exact ⟨ρ1, w1, a1, _, q1.trans (.one (on_exit this)), by rw [h2 i hex hi]; rfl, q3, q4, q5⟩
    have : exitTo i k' = exitTo i k := by
     rw [r2]
     have hne : (id == i) = false := by simpa using fun e => hi e.symm
     simp [exitTo, hne]
    exact ⟨ρ1, w1, a1, _, q1, by rw [h3 (by rw [hex]; simp) (fun j hj => by rw [hex] at hj; cases hj; exact hi), hex]; exact ⟨k', rfl, this⟩, q3, q4, q5⟩
   | goto l =>
    rw [hex] at q2
    obtain ⟨k', rfl, r2⟩ := q2
    exact ⟨ρ1, w1, a1, _, q1, by rw [h3 (by rw [hex]; simp) (fun j hj => by rw [hex] at hj; cases hj), hex]; exact ⟨k', rfl, by rw [r2]; simp [gotoIn]⟩, q3, q4, q5⟩
   | ret =>
    rw [hex] at q2
    exact ⟨ρ1, w1, a1, _, q1, by rw [h3 (by rw [hex]; simp) (fun j hj => by rw [hex] at hj; cases hj), hex]; exact q2, q3, q4, q5⟩
   | panic v =>
    rw [hex] at q2
    exact ⟨ρ1, w1, a1, _, q1, by rw [h3 (by rw [hex]; simp) (fun j hj => by rw [hex] at hj; cases hj), hex]; exact q2, q3, q4, q5⟩
  unfold stBlock at h
  split at h
  ·rename_i i ts1 v1 m1 heq
   by_cases hi : i = id
   ·simp only [nbeq, hi, decide_true, cond_true, Option.some.injEq] at h
    subst h
    exact key _ heq rfl rfl (fun hh => by cases hh) (fun _ _ _ => rfl) (fun _ hh => absurd hi (hh i rfl))
   simp only [nbeq, hi, decide_false, cond_false, Option.some.injEq] at h
   subst h
   exact key _ heq rfl rfl (fun hh => by cases hh) (fun j hj hj2 => by cases hj; exact absurd hj2 hi) (fun _ _ => rfl)
  rename_i hnn
  refine key _ h rfl rfl (fun hh => hh) (fun j hj hj2 => ?_) (fun _ _ => rfl)
  obtain ⟨ex, ts1, v1, m1⟩ := out
  simp only at hj
  subst hj
  exact absurd h (hnn _ _ _ _)
 cases hb
theorem stLoop_follows (h : stLoop self fr c m = some out) : Follows P fr m out (Starts (.loop c)) := by
 intro ρ w b a n0 k cs todo hnr hr hf hok hn hst
 have start : Steps P (lone (on b a todo) cs w) (lone (on b a (.code c :: .inLoop c :: k)) cs w) := by
  rcases hst with rfl | ⟨body, hb, rfl⟩
  ·exact .one on_loop
  cases hb
  exact .one on_inLoop
 refine Reaches.after0 start ?_
 unfold stLoop at h
 split at h
 ·rename_i ts1 v1 m1 heq
  exact then_follows (k1 := .inLoop c :: k) hM hS heq hr hf hok hn hnr (.inl rfl) (hM _ _ _ _ h).next (fun id => by simp [exitTo]) (fun l => by simp [gotoIn]) (fun hh => absurd rfl hh)
   (fun _ ρ1 w1 a1 r1 r2 r3 r4 => hS _ _ _ _ h ρ1 w1 b a1 n0 k cs _ hnr r1 r2 r3 r4 (.inr ⟨c, rfl, rfl⟩))
 rename_i hnn
 refine then_follows (k1 := .inLoop c :: k) hM hS h hr hf hok hn hnr (.inl rfl) (Nat.le_refl _) (fun id => by simp [exitTo]) (fun l => by simp [gotoIn]) (fun _ => rfl) (fun he => ?_)
 obtain ⟨ex, ts1, v1, m1⟩ := out
 simp only at he
 subst he
 exact absurd h (hnn _ _ _)
theorem stScope_follows (h : stScope self fr body rest m = some out) : Follows P fr m out fun k todo => todo = .code rest :: .inScope body :: k := by
 intro ρ w b a n0 k cs todo hnr hr hf hok hn hst
 subst hst
 unfold stScope at h
 split at h
 ·rename_i l ts1 v1 m1 heq
  split at h
  ·rename_i r hl
   have hle := (hM _ _ _ _ h).next
   obtain ⟨ρ1, w1, a1, f, q1, q2, q3, q4, q5⟩ := hS _ _ _ _ heq ρ w b a n0 (.inScope body :: k) cs _ hnr hr (hf.left hle) hok hn (.inl rfl)
   obtain ⟨k', rfl, r2⟩ := q2
   have hgo : gotoIn l k' = some (.code r :: .inScope body :: k) := by rw [r2]; simp [gotoIn, hl]
   exact Reaches.after (q1.trans (.one (on_goto hgo))) q4 (hS _ _ _ _ h ρ1 w1 b a1 n0 k cs _ hnr q3 (hf.right q4) q5 (Nat.le_trans hn q4.size) rfl)
  rename_i hl
  cases h
  obtain ⟨ρ1, w1, a1, f, q1, q2, q3, q4, q5⟩ := hS _ _ _ _ heq ρ w b a n0 (.inScope body :: k) cs _ hnr hr hf hok hn (.inl rfl)
  obtain ⟨k', rfl, r2⟩ := q2
  exact ⟨ρ1, w1, a1, _, q1, ⟨k', rfl, by rw [r2]; simp [gotoIn, hl]⟩, q3, q4, q5⟩
 rename_i hnn
 obtain ⟨ρ1, w1, a1, f, q1, q2, q3, q4, q5⟩ := hS _ _ _ _ h ρ w b a n0 (.inScope body :: k) cs _ hnr hr hf hok hn (.inl rfl)
 obtain ⟨ex, ts1, v1, m1⟩ := out
 cases ex with
 | normal =>
  have q2 : f = on b a1 (.inScope body :: k) := q2
  subst q2
  exact ⟨ρ1, w1, a1, _, q1.trans (.one on_inScope), rfl, q3, q4, q5⟩
 | exit i =>
  obtain ⟨k', rfl, r2⟩ := q2
  exact ⟨ρ1, w1, a1, _, q1, ⟨k', rfl, by rw [r2]; simp [exitTo]⟩, q3, q4, q5⟩
 | goto l => exact absurd h (hnn _ _ _ _)
 | ret => exact ⟨ρ1, w1, a1, _, q1, q2, q3, q4, q5⟩
 | panic v => exact ⟨ρ1, w1, a1, _, q1, q2, q3, q4, q5⟩
end
end
end Go.Ab
namespace Go.Ab
variable [Vals]
section
variable {P : Program} [FactsOk P] {ρ ρ' : Ren} {m m' : AW} {w w' : World} {ts : Tr Value} {self : Self}
theorem argsT_get : ∀ (args : List Value) (i : Nat) (t : Tr Value) (j : Nat), (argsT args i t).get j = if i ≤ j ∧ j - i < args.length then args[j - i]? else t.get j
 | [], i, t, j => by simp [argsT]
 | v :: vs, i, t, j => by
  unfold argsT
  rw [argsT_get vs (i + 1) _ j, Tr.get_set]
  by_cases h1 : j = i
  ·subst h1
   rw [if_neg (by omega), if_pos rfl, if_pos (by simp)]
   simp
  by_cases h2 : i + 1 ≤ j ∧ j - (i + 1) < vs.length
  ·rw [if_pos h2, if_pos (by simp; omega)]
   rw [show j - i = (j - (i + 1)) + 1 by omega, List.getElem?_cons_succ]
  rw [if_neg h2, if_neg h1, if_neg (by simp; omega)]
theorem args_ts (h : VsRel ρ args args') (hn : args.length ≤ n) (hD : n ≤ dIx) : TsRel ρ n (argsT args 0 .lf) ((⟨args'⟩ : Array Value) ++ Array.replicate (n - (⟨args'⟩ : Array Value).size) undef) := by
 have hl := h.length_eq
 have hsz : (⟨args'⟩ : Array Value).size = args'.length := rfl
 refine ⟨⟨by simp; omega, hD⟩, fun t _ => ?_⟩
 rw [argsT_get, Array.getD_eq_getD_getElem?, Array.getElem?_append, hsz]
 by_cases ht : t < args.length
 ·rw [if_pos (by simpa using ht), if_pos (by omega)]
  simp only [Nat.sub_zero, List.getElem?_toArray]
  obtain ⟨v', h1, h2⟩ := h.get (List.getElem?_eq_getElem ht)
  rw [h1, List.getElem?_eq_getElem ht]
  exact h2
 rw [if_neg (by simpa using ht), if_neg (by omega), Array.getElem?_replicate]
 simp only [Tr.get, Option.getD_none]
 split <;> exact undef_rel _
def baseK (kd : CallKind) (f : FuncId) : Frame := { fn := f, tmps := #[], todo := [], defers := [], mode := .run, kind := kd, roundOf := none }
abbrev baseFr (f : FuncId) : Frame := baseK .normal f
theorem enter_on (hf : P.funcs[f]? = some fn) (hb : fn.body = some c) :
  Frame.enter P f args kd = on (baseK kd f) ⟨args ++ Array.replicate (fn.ntmps - args.size) undef, []⟩ [.code c] := by
 simp [Frame.enter, on, baseK, hf, hb]
theorem step_take (hm : mode ≠ .run) (hB : w.heap[B]? = some (.deferred (some []))) :
  step P (lone (off b ⟨tmps, mark1 B :: ds⟩ todo mode) cs w) = .next (lone (off b ⟨tmps, ds⟩ todo mode) cs (setBlk w B (.deferred none))) := by
 have hrun : (Instr.takeDeferred B).run P w = .ok [] (setBlk w B (.deferred none)) := by
  simp only [Instr.takeDeferred, Sem.run_bind]
  have hg : (getObj B).run P w = .ok (.deferred (some [])) w := by simp [getObj, Sem.run, hB]
  rw [hg]
  simp only [Result.andThen_ok, Sem.run_bind, run_setObj_any hB (by intros; simp), Sem.run_pure]
 refine step_lone_go ?_
 cases mode with
 | run => exact absurd rfl hm
 | returning => simp [stepG, unwind, off, mark1, hrun]
 | panicking ch => simp [stepG, unwind, off, mark1, hrun]
structure Taken (n0 : Nat) (w w' : World) : Prop where
 rest : Rest w w'
 size : w'.heap.size = w.heap.size
 old : ∀ j, j < n0 → w'.heap[j]? = w.heap[j]?
 obj : ∀ (j : Nat) (x : Obj), w.heap[j]? = some x → w'.heap[j]? = some x ∨ (∃ q q', x = Obj.deferred q ∧ w'.heap[j]? = some (Obj.deferred q'))
theorem Taken.refl (n0 : Nat) (w : World) : Taken n0 w w := ⟨.refl _, rfl, fun _ _ => rfl, fun _ _ h => .inl h⟩
theorem Taken.trans (h : Taken n0 a b) (k : Taken n0 b c) : Taken n0 a c where
 rest := h.rest.trans k.rest
 size := k.size.trans h.size
 old := fun j hj => (k.old j hj).trans (h.old j hj)
 obj := fun j x hx => by
  rcases h.obj j x hx with h1 | ⟨q, q', rfl, h1⟩
  ·exact k.obj j x h1
  rcases k.obj j _ h1 with h2 | ⟨q2, q2', _, h2⟩
  ·exact .inr ⟨q, q', rfl, h2⟩
  exact .inr ⟨q, q2', rfl, h2⟩
theorem unwind_all {n0 : Nat} {b : Frame} {tmps : Array Value} {todo : List Item} {mode : FrameMode} {cs : List Frame} (hm : mode ≠ .run) : ∀ (Bs : List Nat) (w : World), Bs.Nodup → (∀ B ∈ Bs, n0 ≤ B ∧ w.heap[B]? = some (.deferred (some []))) →
  ∃ w', Steps P (lone (off b ⟨tmps, Bs.map mark1⟩ todo mode) cs w) (lone (off b ⟨tmps, []⟩ todo mode) cs w') ∧ Taken n0 w w'
 | [], w, _, _ => ⟨w, .refl _ _, .refl _ _⟩
 | B :: Bs, w, hnd, h => by
  obtain ⟨h1, h2⟩ := h B List.mem_cons_self
  have hlt : B < w.heap.size := (Array.getElem?_eq_some_iff.1 h2).1
  have hnb := List.nodup_cons.1 hnd
  obtain ⟨w', q1, q2⟩ := unwind_all hm Bs (setBlk w B (.deferred none)) hnb.2 (fun B2 hB2 => by
   obtain ⟨h3, h4⟩ := h B2 (List.mem_cons_of_mem _ hB2)
   refine ⟨h3, ?_⟩
   rw [setBlk_get hlt, if_neg (fun e => hnb.1 (by rw [← e]; exact hB2))]
   exact h4)
  have t1 : Taken n0 w (setBlk w B (.deferred none)) := by
   refine ⟨⟨rfl, rfl, rfl⟩, setBlk_size, fun j hj => ?_, fun j x hx => ?_⟩
   ·rw [setBlk_get hlt, if_neg (by omega)]
   rw [setBlk_get hlt]
   by_cases hj : j = B
   ·subst hj
    rw [h2] at hx
    cases hx
    exact .inr ⟨_, none, rfl, by rw [if_pos rfl]⟩
   exact .inl (by rw [if_neg hj]; exact hx)
  exact ⟨w', .head (step_take hm h2) q1, t1.trans q2⟩
theorem XRel.taken (h : XRel P ρ s o (.deferred q)) : XRel P ρ s o (.deferred q') := by
 cases o with
 | cells cs e g md mt => obtain ⟨c, fr, h1, _⟩ := h; cases h1
 | map es cl => obtain ⟨_, _, h1, _⟩ := h; cases h1
 | siter t pos => obtain ⟨_, h1⟩ := h; cases h1
 | miter _ _ _ _ =>
  obtain ⟨_, _, h1, _⟩ := h
  cases h1
 | loop st pe fn n ts ps as bo d => obtain ⟨l, h1, _⟩ := h; cases h1
 | deferred => exact ⟨_, rfl⟩
theorem Rel.taken (h : Rel P ρ m w) (t : Taken n0 w w') : Rel P ρ m w' := by
 refine ⟨fun b o hb => ?_, h.sep, h.glob, fun b s hb => by rw [t.size]; exact h.inb b s hb⟩
 obtain ⟨s, x, h1, h2, h3⟩ := h.obj b o hb
 rcases t.obj _ _ h2 with h4 | ⟨q, q', rfl, h4⟩
 ·exact ⟨s, x, h1, h4, h3⟩
 exact ⟨s, _, h1, h4, h3.taken⟩
theorem Grow.taken (h : Grow ρ ρ' m m' w0 w) (t : Taken w0.heap.size w w') : Grow ρ ρ' m m' w0 w' :=
 ⟨h.le, h.only, h.rest.trans t.rest, by rw [t.size]; exact h.size, fun B hB hno => by rw [t.old B hB]; exact h.keep B hB hno, h.own, h.next, h.occ⟩
def resSem (tmps : Array Value) : ResultVar → Sem Value
 | .tmp t => pure (tmps.getD t undef)
 | .cell a t => do loadVar t (← asAddr (tmps.getD a undef))
theorem resA_go {tmps : Array Value} {n : Nat} (hr : Rel P ρ m w) (ht : TsRel ρ n ts tmps) : ∀ (l : List ResultVar) (vs : List Value), resA.go P ts m l = some vs → ∃ vs', (l.mapM (resSem tmps)).run P w = .ok vs' w ∧ VsRel ρ vs vs'
 | [], vs, h => by
  simp only [resA.go, Option.some.injEq] at h
  subst h
  exact ⟨[], rfl, .nil⟩
 | .tmp t :: l, vs, h => by
  simp only [resA.go] at h
  obtain ⟨hlt, h⟩ := bif_some h
  rw [nblt, decide_eq_true_eq] at hlt
  obtain ⟨us, h1, rfl⟩ := Option.map_eq_some_iff.1 h
  obtain ⟨us', h2, h3⟩ := resA_go hr ht l us h1
  refine ⟨tmps.getD t undef :: us', ?_, .cons (ht.2 t hlt) h3⟩
  rw [List.mapM_cons]
  simp only [resSem, Sem.run_bind, Sem.run_pure, Result.andThen_ok]
  rw [h2]
  rfl
 | .cell x t :: l, vs, h => by
  simp only [resA.go] at h
  obtain ⟨hlt, h⟩ := bif_some h
  rw [nblt, decide_eq_true_eq] at hlt
  split at h
  ·rename_i bl f hl
   split at h
   ·rename_i v hv
    obtain ⟨us, h1, rfl⟩ := Option.map_eq_some_iff.1 h
    obtain ⟨us', h2, h3⟩ := resA_go hr ht l us h1
    obtain ⟨o, ho1, ho2⟩ := Option.bind_eq_some_iff.1 hv
    obtain ⟨s, y, q1, q2, q3⟩ := hr.obj _ _ ho1
    obtain ⟨v', r1, r2⟩ := loadA_rel hl (ht.2 x hlt) ho2 q1 q2 q3
    refine ⟨v' :: us', ?_, .cons r2 h3⟩
    have hx := ht.2 x hlt
    have : (resSem tmps (.cell x t)).run P w = .ok v' w := by
     rw [← r1]
     show (do loadVar t (← asAddr (tmps.getD x undef))).run P w = (Instr.loadAt t (tmps.getD x undef)).run P w
     unfold loadA at hl
     split at hl
     ·rename_i b1 off e1
      rw [e1] at hx
      generalize tmps.getD x undef = xv at hx
      cases hx with
      | ptr hb => rfl
     cases hl
    rw [List.mapM_cons]
    simp only [Sem.run_bind, this, Result.andThen_ok]
    rw [h2]
    rfl
   cases h
  cases h
theorem resA_rel (hr : Rel P ρ m w) (ht : TsRel ρ n ts tmps) (h : resA P fn ts m = some v) : ∃ v', (results fn tmps).run P w = .ok v' w ∧ VRel ρ v v' := by
  unfold resA at h
  obtain ⟨vs, h1, h2⟩ := Option.map_eq_some_iff.1 h
  obtain ⟨vs', h3, h4⟩ := resA_go hr ht _ _ h1
  have hrun : (results fn tmps).run P w = .ok (if h : (⟨vs'⟩ : Array Value).size = 1 then (⟨vs'⟩ : Array Value)[0] else .tuple ⟨vs'⟩) w := by
    have e1 : results fn tmps = (do
        let vs ← fn.results.mapM (resSem tmps)
        pure (if h : vs.size = 1 then vs[0] else .tuple vs)) := rfl
    rw [e1, Array.mapM_eq_mapM_toList]
    simp only [Sem.run_bind, Sem.run_map, h3, Result.andThen_ok, Sem.run_pure]
  split at h2
  · subst h2
    cases h4 with
    | cons h5 h6 =>
      cases h6
      exact ⟨_, hrun, h5⟩
  · rename_i hne
    subst h2
    refine ⟨_, hrun, ?_⟩
    have : ¬ ((⟨vs'⟩ : Array Value).size = 1) := by
      intro e1
      have e2 : vs.length = 1 := by rw [h4.length_eq]; exact e1
      match vs, e2 with
      | [v], _ => exact hne v rfl
    rw [dif_neg this]
    exact .tuple h4
theorem compare_eq : ∀ (a b : List UInt8), Lib.compareBytes a b = (bif ltBytes a b then -1 else bif ltBytes b a then 1 else 0)
 | [], [] => rfl
 | [], _ :: _ => rfl
 | _ :: _, [] => rfl
 | a :: as, b :: bs => by
  unfold Lib.compareBytes ltBytes
  simp only [nblt, nbeq]
  by_cases h1 : a < b
  ·have : a.toNat < b.toNat := h1
   simp [h1, this]
  have h1' : ¬ a.toNat < b.toNat := h1
  by_cases h2 : b < a
  ·have h2' : b.toNat < a.toNat := h2
   have h3 : ¬ a.toNat = b.toNat := by omega
   simp [h1, h1', h2, h2', h3]
  have h2' : ¬ b.toNat < a.toNat := h2
  have h3 : a.toNat = b.toNat := by omega
  simp [h1, h2, h3, compare_eq as bs]
theorem byteAt_spec (x : ByteArray) (c : UInt8) : ∀ (n i : Nat), i + n = x.size → (List.range' i n).find? (fun i => x[i]! == c) = byteAt c (x.data.toList.drop i) i
 | 0, i, h => by
  have : x.data.toList.drop i = [] := List.drop_eq_nil_of_le (by show x.data.size ≤ i; have : x.data.size = x.size := rfl; omega)
  rw [this]
  rfl
 | n + 1, i, h => by
  have hlt : i < x.data.toList.length := by show i < x.data.size; have : x.data.size = x.size := rfl; omega
  rw [List.range'_succ, List.find?_cons, List.drop_eq_getElem_cons hlt]
  have e : x[i]! = x.data.toList[i] := by
   have hi : i < x.size := by omega
   rw [getElem!_pos x i hi]
   rfl
  unfold byteAt
  rw [e]
  cases x.data.toList[i] == c with
  | true => rfl
  | false =>
   simp only [cond_false]
   exact byteAt_spec x c n (i + 1) (by omega)
theorem byteAt_find (x : ByteArray) (c : UInt8) : (List.range x.size).find? (fun i => x[i]! == c) = byteAt c x.data.toList 0 := by
 rw [List.range_eq_range', byteAt_spec x c x.size 0 (by omega)]
 rfl
theorem countB_list (c : UInt8) : ∀ (l : List UInt8) (n : Nat), l.foldl (fun (n : Int) z => if z == c then n + 1 else n) (n : Int) = ((countB c l n : Nat) : Int)
 | [], _ => rfl
 | x :: l, n => by
  rw [List.foldl_cons]
  unfold countB
  cases x == c with
  | true => exact countB_list c l (n + 1)
  | false => exact countB_list c l n
theorem externA_rel (hf : P.funcs[f]? = some fn) (hb : fn.body = none) (h : externA fn args = some v) (ha : VsRel ρ args args') : ∃ v', (callFunc f ⟨args'⟩).run P w = .ok (.value v') w ∧ VRel ρ v v' := by
  unfold externA at h
  split at h
  · rename_i hn
    split at h
    · cases h
      cases ha with
      | cons h1 h2 =>
        cases h2
        rename_i v'
        refine ⟨v', ?_, h1⟩
        rw [run_callFunc_extern hf (by rw [hn.1]; rfl) (by rw [hb]; rfl) (e := Extern.AbiNoEscape.same) (by unfold Extern.findNext; rw [hn.1, hn.2]; rfl) (by unfold Extern.find; rw [hn.1, hn.2]; rfl)]
        rfl
    · cases h
  · split at h
    · rename_i hn
      split at h
      · rename_i x y
        cases h
        cases ha with
        | cons h1 h2 =>
          cases h2 with
          | cons h3 h4 =>
            cases h4
            cases h1
            cases h3
            refine ⟨_, ?_, .int ..⟩
            rw [run_callFunc_extern hf (by rw [hn.1]; rfl) (by rw [hb]; rfl) (e := Extern.BytealgCompare.compare) (by unfold Extern.findNext; rw [hn.1, hn.2]; rfl) (by unfold Extern.find; rw [hn.1, hn.2]; rfl)]
            have := Lib.run_compareString (P := P) x y w
            rw [compare_eq] at this
            rw [show (⟨[.string x, .string y]⟩ : Array Value) = #[.string x, .string y] from rfl, this]
            rfl
      · cases h
    · split at h
      · rename_i hn
        split at h
        · cases h
          cases ha with
          | cons h1 h2 =>
            cases h2
            cases h1
            refine ⟨_, ?_, .int ..⟩
            rcases hn.1 with hn1 | hn1
            · rw [run_callFunc_extern hf (by rw [hn1]; rfl) (by rw [hb]; rfl) (e := Extern.MathFloatBits.float64bits) (by unfold Extern.findNext; rw [hn1, hn.2]; rfl) (by unfold Extern.find; rw [hn1, hn.2]; rfl)]
              rfl
            · rw [run_callFunc_extern hf (by rw [hn1]; rfl) (by rw [hb]; rfl) (e := Extern.MathFloatBits.float64bits) (by unfold Extern.findNext; rw [hn1, hn.2]; rfl) (by unfold Extern.find; rw [hn1, hn.2]; rfl)]
              rfl
        · cases h
      · split at h
        · rename_i hn
          split at h
          · cases h
            cases ha with
            | cons h1 h2 =>
              cases h2
              cases h1
              refine ⟨_, ?_, .float ..⟩
              rcases hn.1 with hn1 | hn1
              · rw [run_callFunc_extern hf (by rw [hn1]; rfl) (by rw [hb]; rfl) (e := Extern.MathFloatBits.float64frombits) (by unfold Extern.findNext; rw [hn1, hn.2]; rfl) (by unfold Extern.find; rw [hn1, hn.2]; rfl)]
                rfl
              · rw [run_callFunc_extern hf (by rw [hn1]; rfl) (by rw [hb]; rfl) (e := Extern.MathFloatBits.float64frombits) (by unfold Extern.findNext; rw [hn1, hn.2]; rfl) (by unfold Extern.find; rw [hn1, hn.2]; rfl)]
                rfl
          · cases h
        · split at h
          · rename_i hn
            split at h
            · rename_i x y
              cases h
              cases ha with
              | cons h1 h2 =>
                cases h2 with
                | cons h3 h4 =>
                  cases h4
                  cases h1
                  cases h3
                  refine ⟨idxVal (byteAt y.toNat.toUInt8 x.data.toList 0), ?_, ?_⟩
                  · rw [run_callFunc_extern hf (by rw [hn.1]; rfl) (by rw [hb]; rfl) (e := Extern.BytealgIndexByte.indexByte) (by unfold Extern.findNext; rw [hn.1, hn.2]; rfl) (by unfold Extern.find; rw [hn.1, hn.2]; rfl)]
                    rw [← byteAt_find]
                    have hix : Extern.BytealgIndexByte.indexByte ⟨[.string x, .int .u8 y]⟩ = (match (List.range x.size).find? fun i => x[i]! == y.toNat.toUInt8 with
                        | some i => pure (goInt i)
                        | none => pure (goInt (-1)) : Sem Value) := rfl
                    rw [hix]
                    cases (List.range x.size).find? fun i => x[i]! == y.toNat.toUInt8 <;> rfl
                  · unfold idxVal
                    split <;> exact .int ..
            · cases h
          · split at h
            · rename_i hn
              split at h
              · rename_i x y
                cases h
                cases ha with
                | cons h1 h2 =>
                  cases h2 with
                  | cons h3 h4 =>
                    cases h4
                    cases h1
                    cases h3
                    refine ⟨_, ?_, .int ..⟩
                    rw [run_callFunc_extern hf (by rw [hn.1]; rfl) (by rw [hb]; rfl) (e := Extern.BytealgCount.count) (by unfold Extern.findNext; rw [hn.1, hn.2]; rfl) (by unfold Extern.find; rw [hn.1, hn.2]; rfl)]
                    have hix : Extern.BytealgCount.count ⟨[.string x, .int .u8 y]⟩ = (pure (goInt (x.foldl (fun (n : Int) z => if z == y.toNat.toUInt8 then n + 1 else n) ((0 : Nat) : Int))) : Sem Value) := rfl
                    rw [hix, Lib.foldl_data, countB_list]
                    rfl
              · cases h
            · cases h
end
end Go.Ab