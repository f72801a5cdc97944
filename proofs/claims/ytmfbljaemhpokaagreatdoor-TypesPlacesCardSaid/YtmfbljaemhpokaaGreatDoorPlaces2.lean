/-
  TypesPlaces: the functions that it calls, followed, 2. Conditions: none.
-/
import Derived.Test.YtmfbljaemhpokaaGreatDoorAwk
import Derived.Test.YtmfbljaemhpokaaGreatDoorGra
import Derived.Test.YtmfbljaemhpokaaGreatDoorPlaces1
namespace Go.Proofs.YtmfbljaemhpokaaGreatDoor
open Go Go.Ab
set_option linter.unusedVariables false
set_option linter.unusedSimpArgs false
set_option linter.unusedSectionVars false
theorem mkTypes_b : (match Tryz.prog.info? 50 with | some i => Nat.ble i.bytes 65536 | none => false) = true := by kernel_rfl
theorem mkTypes : ∃ z, makeSliceA Tryz.prog 22 (some (Int.ofNat 1025)) (some (Int.ofNat 1025)) = some (newCells z 50, sliceTo 1025 1025) := by
 have h := mkTypes_b
 cases hi : Tryz.prog.info? 50 with
 | none => rw [hi] at h; cases h
 | some i =>
  rw [hi] at h
  simp only at h
  unfold makeSliceA
  simp only [Tryz.underlying22, sz50, hi]
  have e1 : (Nat.ble 1025 1025 && Nat.ble 1025 16777216 && Nat.ble i.bytes 65536) = true := by rw [h]; rfl
  rw [e1]
  unfold zerosT
  simp only [zr50]
  exact ⟨_, rfl⟩
theorem awake_ok {m : AW} : Fc Tryz.prog 13 [] m fun v m' => v = .bool true ∧ Ext m m' := Fc.said Tryz.func13 (by kernel_rfl) rfl rfl fewer ⟨rfl, fun p hp => by cases hp⟩


/-! Right tables, and what is asked of them. -/

theorem first_zero {f : Ty → Int} {l : List Ty} (h : firstE f l = 0) (i : Nat) (x : Ty) (hx : l[i]? = some x) : f x = 0 := by
 unfold firstE at h
 cases hf : l.find? (fun t => decide (f t ≠ 0)) with
 | none =>
  rw [List.find?_eq_none] at hf
  simpa using hf x (List.mem_of_getElem? hx)
 | some y =>
  rw [hf] at h
  have := List.find?_some hf
  simp only [decide_eq_true_eq] at this
  exact absurd h this
structure Fine (l : List Ty) : Prop where
 well : Well l
 fit : ∀ (i : Nat) (a : Ty), l[i]? = some a → fitE l a = 0
 rank : ∃ r sz, Ranked l r ∧ (∀ u, r u ≤ l.length) ∧ SzFix l sz
theorem ChkP.fine {l : List Ty} (h : ChkP l 0) : Fine l := by
 rcases h with ⟨h1, h2⟩ | ⟨_, h1, h2⟩ | ⟨h1, h2, hb, h3⟩
 ·exact absurd h2.symm h1
 ·exact absurd h2.symm h1
 ·rcases h3 with ⟨_, h3⟩ | ⟨r, sz, hr, hz, _⟩
  ·cases h3
  ·obtain ⟨r', h4, h5⟩ := hr.small hb
   exact ⟨⟨fun i a ha => first_zero h1 i a ha⟩, fun i a ha => first_zero h2 i a ha, r', sz, h4, h5, hz⟩
theorem AskP.fine {l : List Ty} {ts : List Int} (h : AskP l ts 0) : Fine l := h.well.1.fine
theorem AskP.at1 {l : List Ty} {t : Int} (h : AskP l [t] 0) : ∃ (q : Nat) (a : Ty), t = Int.ofNat q ∧ q < l.length ∧ l[q]? = some a := by
 have hin := h.well.2 0 t rfl
 obtain ⟨q, rfl⟩ := Int.eq_ofNat_of_zero_le hin.1
 have hq : q < l.length := by omega
 exact ⟨q, l[q], rfl, hq, List.getElem?_eq_getElem hq⟩
def SizeP (l : List Ty) (t : Int) (x : Int × Int) : Prop := AskP l [t] x.2 ∧ (x.2 ≠ 0 → x.1 = 0) ∧ (x.2 = 0 → ∃ r sz, Ranked l r ∧ SzFix l sz ∧ x.1 = szAt sz t)
def findR (a : Ty) (s n : ByteArray) : Int × Bool := if a.kind ≠ 10 ∧ a.kind ≠ 13 then (0, false) else match withL a s with
 | none => (0, false)
 | some L => match L.findIdx? (fun f => decide (f.name = n)) with
  | some i => (Int.ofNat i, true)
  | none => (0, false)
def FindP (l : List Ty) (t : Int) (s n : ByteArray) (x : Int × Bool) : Prop := ∃ e, AskP l [t] e ∧ ((e ≠ 0 ∧ x = (0, false)) ∨ (e = 0 ∧ ∃ (q : Nat) (a : Ty), t = Int.ofNat q ∧ l[q]? = some a ∧ x = findR a s n))
theorem FindP.uniq {l : List Ty} {t : Int} {s n : ByteArray} {x y : Int × Bool} (h : FindP l t s n x) (h' : FindP l t s n y) : x = y := by
 obtain ⟨a, h1, h2⟩ := h
 obtain ⟨b, g1, g2⟩ := h'
 have := h1.uniq g1
 subst this
 rcases h2 with ⟨h3, rfl⟩ | ⟨h3, q, a', hq, ha, rfl⟩
 ·rcases g2 with ⟨_, rfl⟩ | ⟨g3, _⟩
  ·rfl
  ·exact absurd g3 h3
 ·rcases g2 with ⟨g3, _⟩ | ⟨_, q', b', hq', hb, rfl⟩
  ·exact absurd h3 g3
  ·rw [hq] at hq'
   cases hq'
   rw [ha] at hb
   cases hb
   rfl
theorem find_kind {a : Ty} {s n : ByteArray} (h : a.kind ≠ 10 ∧ a.kind ≠ 13) : findR a s n = (0, false) := by
 unfold findR
 rw [if_pos h]
theorem find_none {a : Ty} {s n : ByteArray} (h : withL a s = none) : findR a s n = (0, false) := by
 unfold findR
 split
 ·rfl
 ·rw [h]
theorem find_at {a : Ty} {s n : ByteArray} {L : List Fld} {i : Nat} {x : Fld} (hk : ¬ (a.kind ≠ 10 ∧ a.kind ≠ 13)) (h : withL a s = some L) (hx : L[i]? = some x) (hb : ∀ (j : Nat) (y : Fld), j < i → L[j]? = some y → y.name ≠ n) (he : x.name = n) : findR a s n = (Int.ofNat i, true) := by
 have hf : L.findIdx? (fun f => decide (f.name = n)) = some i := by
  rw [List.findIdx?_eq_some_iff_getElem]
  obtain ⟨hlt, hxe⟩ := List.getElem?_eq_some_iff.1 hx
  refine ⟨hlt, by rw [hxe]; exact decide_eq_true he, fun j hj => ?_⟩
  have := hb j _ hj (List.getElem?_eq_getElem (Nat.lt_trans hj hlt))
  simpa using this
 unfold findR
 rw [if_neg hk, h]
 simp only [hf]
theorem find_not {a : Ty} {s n : ByteArray} {L : List Fld} (hk : ¬ (a.kind ≠ 10 ∧ a.kind ≠ 13)) (h : withL a s = some L) (hb : ∀ (j : Nat) (y : Fld), j < L.length → L[j]? = some y → y.name ≠ n) : findR a s n = (0, false) := by
 have hf : L.findIdx? (fun f => decide (f.name = n)) = none := by
  rw [List.findIdx?_eq_none_iff]
  intro x hx
  obtain ⟨j, hj⟩ := List.getElem?_of_mem hx
  simpa using hb j x (List.getElem?_eq_some_iff.1 hj).1 hj
 unfold findR
 rw [if_neg hk, h]
 simp only [hf]
/-- What is asked for is there, or nothing. -/
theorem FindP.bad {l : List Ty} {t : Int} {s n : ByteArray} {e : Int} (h : AskP l [t] e) (he : e ≠ 0) : FindP l t s n (0, false) := ⟨e, h, .inl ⟨he, rfl⟩⟩
theorem FindP.good {l : List Ty} {s n : ByteArray} {q : Nat} {a : Ty} {x : Int × Bool} (h : AskP l [Int.ofNat q] 0) (ha : l[q]? = some a) (hx : findR a s n = x) : FindP l (Int.ofNat q) s n x := ⟨0, h, .inr ⟨rfl, q, a, rfl, ha, hx.symm⟩⟩
theorem with_all {a : Ty} {s : ByteArray} {z : Hp × Value} (h : WithA a s z) : ∃ (L : List Fld) (b : Bool), ((withL a s = some L ∧ b = true) ∨ (withL a s = none ∧ L = [] ∧ b = false)) ∧ Sl (InH z.1) 2 RFld L z.2 ∧ Tight (InH z.1) L.length z.2 ∧ WithV a s z = .tuple ⟨[z.2, .bool b]⟩ := by
 cases hW : withL a s with
 | none => exact ⟨[], false, .inr ⟨rfl, rfl, rfl⟩, by rw [h.2 hW]; exact ⟨none, 0, rfl, by simp, .inl ⟨rfl, .inl rfl⟩⟩, fun _ => .inl (h.2 hW), by unfold WithV; rw [hW]; rfl⟩
 | some L => exact ⟨L, true, .inl ⟨rfl, rfl⟩, (h.1 L hW).1, (h.1 L hW).2, (WithV.some hW).symm⟩
theorem arm_some {a : Ty} {s : ByteArray} (h : (!(withL a s).isSome) = false) : ∃ L, withL a s = some L := by
 cases hW : withL a s with
 | none => rw [hW] at h; cases h
 | some L => exact ⟨L, rfl⟩
theorem arm_no {a : Ty} {s : ByteArray} (h : (!(withL a s).isSome) = true) : withL a s = none := by
 cases hW : withL a s with
 | none => rfl
 | some L => rw [hW] at h; cases h
theorem dead_all {a : Ty} {s : ByteArray} {L : List Fld} {b : Bool} (h : (withL a s = some L ∧ b = true) ∨ (withL a s = none ∧ L = [] ∧ b = false)) (hb : b = false) {i : Nat} (hi : i < L.length) : False := by
 rcases h with ⟨_, h⟩ | ⟨_, h, _⟩
 ·rw [h] at hb
  cases hb
 ·rw [h] at hi
  exact absurd hi (Nat.not_lt_zero _)

/-! Where fields lie. -/

def extL (a : Ty) (i : Nat) : List Fld := (a.elems.take i).map fun p => ⟨⟨⟨[]⟩⟩, p⟩
theorem extL_len {a : Ty} {i : Nat} (h : i ≤ a.elems.length) : (extL a i).length = i := by
 unfold extL
 rw [List.length_map, List.length_take]
 omega
theorem extL_succ {a : Ty} {i : Nat} {p : Int} (h : a.elems[i]? = some p) : extL a i ++ [⟨⟨⟨[]⟩⟩, p⟩] = extL a (i + 1) := by
 unfold extL
 rw [take_succ' h, List.map_append]
 rfl
def fldL (a : Ty) (L0 : List Fld) : List Fld := L0 ++ extL a a.elems.length
theorem fld_parts {a : Ty} {s : ByteArray} {L0 : List Fld} (hW : withL a s = some L0) {x : Fld} (hx : x ∈ fldL a L0) : x.type ∈ partsL a := by
 rcases List.mem_append.1 hx with hx | hx
 ·exact withL_parts hW hx
 ·unfold extL at hx
  rw [List.take_length] at hx
  obtain ⟨p, hp, rfl⟩ := List.mem_map.1 hx
  exact parts_elems hp
theorem shape_elems {a : Ty} {s : ByteArray} {L0 : List Fld} (h : shapedB a = true) (hk : a.kind = 10 ∨ a.kind = 11) (he : 0 < a.elems.length) (hW : withL a s = some L0) : L0 = [] := by
 unfold shapedB at h
 have h := of_decide_eq_true h
 simp only [shapeP] at h
 have hf : a.fields.length = 0 := by omega
 have ha : a.arms.length = 0 := by omega
 have hf' := List.eq_nil_of_length_eq_zero hf
 have ha' := List.eq_nil_of_length_eq_zero ha
 unfold withL at hW
 split at hW
 ·cases hW
  exact hf'
 ·rw [ha'] at hW
  simp at hW
def FldQ (a : Ty) (L0 : List Fld) (w0 : Value) (q : Nat × Gro × List Value × Value) : Prop := q.1 ≤ a.elems.length ∧ ((q.1 = 0 ∧ q.2.1 = .no ∧ q.2.2.1 = [] ∧ q.2.2.2 = w0) ∨ (0 < q.1 ∧ L0 = [] ∧ Flat 2 RFld (extL a q.1) q.2.2.1 ∧ q.2.1.Ok q.1 ∧ q.2.2.2 = q.2.1.V q.1))
theorem FldQ.sl {a : Ty} {L0 : List Fld} {w0 : Value} {i : Nat} {g : Gro} {cs : List Value} {w : Value} {K : Kn} (h : FldQ a L0 w0 (i, g, cs, w)) (hi : a.elems.length ≤ i) (hS : Sl K 2 RFld L0 w0) (hn : a.elems.length ≤ 6) : Sl (fun b o => InH (g.H 132 cs) b o ∨ K b o) 2 RFld (fldL a L0) w := by
 obtain ⟨h1, h2⟩ := h
 simp only at h1 h2
 have he : i = a.elems.length := by omega
 rcases h2 with ⟨h3, rfl, rfl, rfl⟩ | ⟨h3, rfl, hF, hO, rfl⟩
 ·have : a.elems = [] := List.eq_nil_of_length_eq_zero (by omega)
  have e : fldL a L0 = L0 := by
   unfold fldL extL
   rw [this]
   simp
  rw [e]
  exact hS.mono (fun b o h => .inr h) fun _ _ h => h
 ·have e : fldL a [] = extL a i := by
   rw [he]
   rfl
  rw [e]
  have hl := extL_len h1
  have := Gro.sl (el := 132) hF (by rw [hl]; exact hO) (by rw [hl]; omega)
  rw [hl] at this
  exact this.mono (fun b o h => .inl h) fun _ _ h => h
abbrev R4 := Int × Int × Int × Int
def fieldR (a : Ty) (s : ByteArray) (k : Int) (sz : List Int) : R4 := if a.kind ≠ 10 ∧ a.kind ≠ 11 then (0, 0, 0, 13) else match withL a s with
 | none => (0, 0, 0, 4)
 | some L0 => if k < 0 ∨ ((fldL a L0).length : Int) ≤ k then (0, 0, 0, 11) else match (fldL a L0)[k.toNat]? with
  | some f => ((if 0 < a.arms.length then 1 else 0) + sumF sz ((fldL a L0).take k.toNat), szAt sz f.type, f.type, 0)
  | none => (0, 0, 0, 11)
theorem field_kind {a : Ty} {s : ByteArray} {k : Int} {sz : List Int} (h : a.kind ≠ 10 ∧ a.kind ≠ 11) : fieldR a s k sz = (0, 0, 0, 13) := by
 unfold fieldR
 rw [if_pos h]
theorem field_none {a : Ty} {s : ByteArray} {k : Int} {sz : List Int} (h : ¬ (a.kind ≠ 10 ∧ a.kind ≠ 11)) (hW : withL a s = none) : fieldR a s k sz = (0, 0, 0, 4) := by
 unfold fieldR
 rw [if_neg h, hW]
theorem field_out {a : Ty} {s : ByteArray} {k : Int} {sz : List Int} {L0 : List Fld} (h : ¬ (a.kind ≠ 10 ∧ a.kind ≠ 11)) (hW : withL a s = some L0) (ho : k < 0 ∨ ((fldL a L0).length : Int) ≤ k) : fieldR a s k sz = (0, 0, 0, 11) := by
 unfold fieldR
 rw [if_neg h, hW]
 exact if_pos ho
theorem field_at {a : Ty} {s : ByteArray} {k : Nat} {sz : List Int} {L0 : List Fld} {f : Fld} (h : ¬ (a.kind ≠ 10 ∧ a.kind ≠ 11)) (hW : withL a s = some L0) (hf : (fldL a L0)[k]? = some f) : fieldR a s (Int.ofNat k) sz = ((if 0 < a.arms.length then 1 else 0) + sumF sz ((fldL a L0).take k), szAt sz f.type, f.type, 0) := by
 have hlt := (List.getElem?_eq_some_iff.1 hf).1
 unfold fieldR
 rw [if_neg h, hW]
 simp only
 rw [if_neg (by show ¬ ((k : Int) < 0 ∨ ((fldL a L0).length : Int) ≤ (k : Int)); omega), show (Int.ofNat k).toNat = k from rfl, hf]
def FieldP (l : List Ty) (t : Int) (s : ByteArray) (k : Int) (x : R4) : Prop := ∃ e, AskP l [t] e ∧ ((e ≠ 0 ∧ x = (0, 0, 0, e)) ∨ (e = 0 ∧ ∃ (q : Nat) (a : Ty) (r : Nat → Nat) (sz : List Int), t = Int.ofNat q ∧ l[q]? = some a ∧ Ranked l r ∧ SzFix l sz ∧ x = fieldR a s k sz))
theorem FieldP.bad {l : List Ty} {t : Int} {s : ByteArray} {k e : Int} (h : AskP l [t] e) (he : e ≠ 0) : FieldP l t s k (0, 0, 0, e) := ⟨e, h, .inl ⟨he, rfl⟩⟩
theorem FieldP.good {l : List Ty} {s : ByteArray} {k : Int} {q : Nat} {a : Ty} {r : Nat → Nat} {sz : List Int} {x : R4} (h : AskP l [Int.ofNat q] 0) (ha : l[q]? = some a) (hr : Ranked l r) (hz : SzFix l sz) (hx : fieldR a s k sz = x) : FieldP l (Int.ofNat q) s k x := ⟨0, h, .inr ⟨rfl, q, a, r, sz, rfl, ha, hr, hz, hx.symm⟩⟩

theorem Sees.orB {X : Cx} {h : Hp} {l r : Hp} {b : Nat} {o : AObj} {m : AW} (hb : InH l b o ∨ Mem m b o) (hh : h = l ++ r := by rfl) (hm : X.m0 = m := by rfl) (hS : X.S = [] := by rfl) : Sees X h b o := by
 subst hh
 rcases hb with hb | hb
 ·exact Sees.mem (List.mem_append_left _ hb)
 ·exact Mem.sees hm hS _ _ hb

theorem Size_ok {l : List Ty} {vl : Value} {t : Int} {m : AW} (hm : m.lo ≤ m.next) (hlS : Sl (Mem m) 5 (RTy (Mem m)) l vl) (hwl : ∀ (i : Nat) (a : Ty), l[i]? = some a → FewT a) (hn14 : l.length ≤ 14) : Fc Tryz.prog 33 [vl, .int .i64 t] m fun v m' => ∃ x : Int × Int, SizeP l t x ∧ v = .tuple ⟨[.int .i64 x.1, .int .i64 x.2]⟩ ∧ Ext m m' ∧ News m m' [] := by
 have hlS0 := hlS
 obtain ⟨al, cl, rfl, hnl, hl⟩ := hlS
 refine Fc.body (c := _) Tryz.func33 rfl rfl rfl rfl hm ?_
 refine Ce.seq (Ce.region ?_)
 iterate 2 refine Ie.P ?_
 refine Ie.nil (Ne.seq (Ce.seq (Ce.seq (Ce.region ?_))))
 iterate 2 refine Ie.P ?_
 refine Ie.buildSlice rfl rfl rfl rfl rfl (bs32_1 ..) (fun b9 hb9 => ?_)
 refine Ie.calln _ _ _ rfl rfl rfl rfl rfl rfl (fun m hm => asked_ok hm.lole (hlS0.mono (Mem.kr hm) (RTy.mono (Mem.kr hm))) hwl hn14 ((Sl.single (R := RInt) (x := t) (b := b9) (c := 1) (el := 3) (g := false) (md := .plain) (mate := none) rfl rfl).mono (InH.kr (l := [(b9, .cells [.int .i64 t] 3 false .plain none)]) hm (fun p_ hp_ => by simpa using hp_)) fun _ _ h => h)) (fun e he => ?_)
 refine Ie.P ?_
 refine Ie.nil (Ne.seq (Ce.seq (Ce.region ?_)))
 iterate 2 refine Ie.P ?_
 refine Ie.nil (Ne.seq ?_)
 refine Ce.cond rfl (fun ht12 => ?_) (fun ht12 => ?_)
 ·try simp only [nz] at ht12
  refine Ce.seq (Ce.region ?_)
  iterate 3 refine Ie.P ?_
  refine Ie.nil (Ne.seq (Ce.ret (Re.seq ?_)))
  exact Re.end_ rfl rfl (fun m hm => ⟨(0, e), ⟨he, fun _ => rfl, fun h => absurd h (by omega)⟩, rfl, hm.ext, News.nil _ _⟩)
 ·try simp only [nz] at ht12
  have he0 : e = 0 := by omega
  subst he0
  obtain ⟨q, a, rfl, hq, ha⟩ := he.at1
  obtain ⟨hWl, hFit, r, sz, hr0, hrn, hz⟩ := he.fine
  have hbd : ∀ (i : Nat) (a : Ty), l[i]? = some a → badB l.length a = false := fun i a ha => hWl.sound i a ha
  refine Ce.skip (Ne.seq (Ce.seq (Ce.region (Ie.P ?_))))
  refine Ie.calln _ _ _ rfl rfl rfl rfl rfl rfl (fun m hm => newsizer_ok hm.lole rfl) (fun x _ => ?_)
  refine Ie.P ?_
  refine Ie.callc (fun z => MapA sz z) (fun _ => .int .i64 (szAt sz (Int.ofNat q))) (fun z => [(x.2, .map z.1 z.2)]) (.tail .one) rfl rfl rfl rfl rfl rfl (fun m2 g1 g2 => ssize_ok hwl hbd hz hr0 q hq m2 ([], 0) g1.lole' g2 (MapA.nil sz 0) ⟨Off.known g1 (.head _), hlS0.mono (Off.old g1) (RTy.mono (Off.old g1))⟩) (fun y hy => ?_)
  iterate 2 refine Ie.P ?_
  refine Ie.nil (Ne.seq (Ce.ret ?_))
  exact Re.end_ rfl rfl (fun m hm => ⟨(szAt sz (Int.ofNat q), 0), ⟨he, fun h => absurd rfl h, fun _ => ⟨r, sz, hr0, hz, rfl⟩⟩, rfl, hm.ext, News.nil _ _⟩)

theorem rSize_ok {l : List Ty} {vl : Value} {q : Nat} {r : Nat → Nat} {sz : List Int} {m : AW} (hm : m.lo ≤ m.next) (hlS : Sl (Mem m) 5 (RTy (Mem m)) l vl) (hwl : ∀ (i : Nat) (a : Ty), l[i]? = some a → FewT a) (hbd : ∀ (i : Nat) (a : Ty), l[i]? = some a → badB l.length a = false) (hn14 : l.length ≤ 14) (hr0 : Ranked l r) (hrn : ∀ u, r u ≤ l.length) (hz : SzFix l sz) (hq : q < l.length) : Fc Tryz.prog 38 [vl, .int .i64 (Int.ofNat (q))] m fun v m' => v = .int .i64 (szAt sz (Int.ofNat q)) ∧ Ext m m' := by
 have hlS0 := hlS
 obtain ⟨al, cl, rfl, hnl, hl⟩ := hlS
 obtain ⟨s, hs⟩ : ∃ s, sz[q]? = some s := ⟨_, List.getElem?_eq_getElem (by rw [hz.len]; exact hq)⟩
 refine Fc.body (c := _) Tryz.func38 rfl rfl rfl rfl hm ?_
 refine Ce.seq (Ce.region (Ie.P ?_))
 refine Ie.nil (Ne.seq (Ce.seq (Ce.region (Ie.P ?_))))
 refine Ie.calln _ _ _ rfl rfl rfl rfl rfl rfl (fun m hm => rsizes_ok hm.lole (hlS0.mono (Mem.kr hm) (RTy.mono (Mem.kr hm))) hwl hbd hn14 hr0 hrn hz) (fun bz _ => ?_)
 refine Ie.P ?_
 refine Ie.indexAddr rfl rfl rfl rfl Tryz.underlying32 sz3 rfl rfl (hq) ?_
 refine Ie.load rfl rfl rfl rfl rfl ag3 (by repeat first | exact .head | exact .app .head | exact .base ‹_› ‹_› (by simp) | refine .tail ?_ | refine .app ?_) (map_cell hs) ?_
 refine Ie.P ?_
 refine Ie.nil (Ne.seq (Ce.ret ?_))
 exact Re.end_ rfl rfl (fun m hm => ⟨congrArg (Value.int .i64) (szAt_get hs).symm, hm.ext⟩)

theorem Find_ok {l : List Ty} {vl : Value} {t : Int} {s n : ByteArray} {m : AW} (hm : m.lo ≤ m.next) (hlS : Sl (Mem m) 5 (RTy (Mem m)) l vl) (hwl : ∀ (i : Nat) (a : Ty), l[i]? = some a → FewT a) (hn14 : l.length ≤ 14) : Fc Tryz.prog 35 [vl, .int .i64 t, .string s, .string n] m fun v m' => ∃ x : Int × Bool, FindP l t s n x ∧ v = .tuple ⟨[.int .i64 x.1, .bool x.2]⟩ ∧ Ext m m' ∧ News m m' [] := by
 have hlS0 := hlS
 obtain ⟨al, cl, rfl, hnl, hl⟩ := hlS
 refine Fc.body (c := _) Tryz.func35 rfl rfl rfl rfl hm ?_
 refine Ce.seq (Ce.region ?_)
 iterate 2 refine Ie.P ?_
 refine Ie.nil (Ne.seq (Ce.seq (Ce.seq (Ce.region ?_))))
 iterate 2 refine Ie.P ?_
 refine Ie.buildSlice rfl rfl rfl rfl rfl (bs32_1 ..) (fun b16 hb16 => ?_)
 refine Ie.calln _ _ _ rfl rfl rfl rfl rfl rfl (fun m hm => asked_ok hm.lole (hlS0.mono (Mem.kr hm) (RTy.mono (Mem.kr hm))) hwl hn14 ((Sl.single (R := RInt) (x := t) (b := b16) (c := 1) (el := 3) (g := false) (md := .plain) (mate := none) rfl rfl).mono (InH.kr (l := [(b16, .cells [.int .i64 t] 3 false .plain none)]) hm (fun p_ hp_ => by simpa using hp_)) fun _ _ h => h)) (fun e he => ?_)
 iterate 2 refine Ie.P ?_
 refine Ie.splitB 19 rfl (fun hs_19 => ?_) (fun hs_19 => ?_)
 ·try simp only [nz] at hs_19
  have hne : e ≠ 0 := by omega
  refine Ie.O ?_
  refine Ie.O ?_
  refine Ie.O ?_
  refine Ie.O ?_
  refine Ie.O ?_
  refine Ie.O ?_
  refine Ie.O ?_
  refine Ie.O ?_
  refine Ie.O ?_
  refine Ie.O ?_
  refine Ie.O ?_
  refine Ie.O ?_
  refine Ie.O ?_
  refine Ie.O ?_
  refine Ie.P ?_
  refine Ie.nil (Ne.seq (Ce.cond_true rfl (Ce.seq (Ce.region ?_))))
  iterate 2 refine Ie.P ?_
  refine Ie.nil (Ne.seq (Ce.ret (Re.seq ?_)))
  exact Re.end_ rfl rfl (by first | exact (fun m hm => ⟨(0, false), FindP.bad he hne, rfl, hm.ext, News.nil _ _⟩) | exact (fun m hm => ⟨(0, false), FindP.good he ha (find_kind (by omega)), rfl, hm.ext, News.nil _ _⟩) | exact (fun m hm => ⟨(0, false), FindP.good he ha (find_none hW), rfl, hm.ext, News.nil _ _⟩) | exact (fun m hm => ⟨(Int.ofNat i, true), FindP.good he ha (find_at (by omega) hW hx hi.2 (by assumption)), rfl, hm.ext, News.nil _ _⟩) | exact (fun m hm => ⟨(0, false), FindP.good he ha (find_not (by omega) hW fun j y hj hy => hi.2 j y (by omega) hy), rfl, hm.ext, News.nil _ _⟩) | exact (fun m hm => ⟨(0, false), FindP.good he ha (by rcases hor with ⟨hW, _⟩ | ⟨hW, _⟩; exact find_not (by omega) hW fun j y hj hy => hi.2 j y (by omega) hy; exact find_none hW), rfl, hm.ext, News.nil _ _⟩))
 ·try simp only [nz] at hs_19
  have he0 : e = 0 := by omega
  subst he0
  obtain ⟨q, a, rfl, hq, ha⟩ := he.at1
  obtain ⟨hWl, hFit, r, sz, hr0, hrn, hz⟩ := he.fine
  have hbd : ∀ (i : Nat) (a : Ty), l[i]? = some a → badB l.length a = false := fun i a ha => hWl.sound i a ha
  rcases hl with ⟨e0, -⟩ | ⟨b, off, cs, el, g, md, mate, rfl, ⟨hb, hh⟩, hle, hc⟩
  ·rw [e0] at hq; simp at hq
  have hr := hc q a ha
  obtain ⟨ve, vf, va, hr, he_, hf_, hga⟩ := hr
  have hraS : RTy (Mem m) a [.int .i64 a.kind, ve, .string a.name, vf, va] := ⟨ve, vf, va, rfl, he_, hf_, hga⟩
  iterate 2 refine Ie.P ?_
  refine Ie.K Tryz.underlying22 sz50 ?_
  refine Ie.F fa50_0 ?_
  refine Ie.M ag3 (.base hh hb (by simp)) (cell_of_take hr (k := 0) rfl) ?_
  iterate 2 refine Ie.P ?_
  refine Ie.splitB 26 rfl (fun hs_26 => ?_) (fun hs_26 => ?_)
  ·try simp only [nz] at hs_26
   iterate 2 refine Ie.P ?_
   refine Ie.K Tryz.underlying22 sz50 ?_
   refine Ie.F fa50_0 ?_
   refine Ie.M ag3 (.base hh hb (by simp)) (cell_of_take hr (k := 0) rfl) ?_
   iterate 3 refine Ie.P ?_
   refine Ie.nil (Ne.seq ?_)
   refine Ce.cond rfl (fun ht34 => ?_) (fun ht34 => ?_)
   ·try simp only [nz] at ht34
    refine Ce.seq (Ce.region ?_)
    iterate 2 refine Ie.P ?_
    refine Ie.nil (Ne.seq (Ce.ret (Re.seq ?_)))
    exact Re.end_ rfl rfl (by first | exact (fun m hm => ⟨(0, false), FindP.bad he hne, rfl, hm.ext, News.nil _ _⟩) | exact (fun m hm => ⟨(0, false), FindP.good he ha (find_kind (by omega)), rfl, hm.ext, News.nil _ _⟩) | exact (fun m hm => ⟨(0, false), FindP.good he ha (find_none hW), rfl, hm.ext, News.nil _ _⟩) | exact (fun m hm => ⟨(Int.ofNat i, true), FindP.good he ha (find_at (by omega) hW hx hi.2 (by assumption)), rfl, hm.ext, News.nil _ _⟩) | exact (fun m hm => ⟨(0, false), FindP.good he ha (find_not (by omega) hW fun j y hj hy => hi.2 j y (by omega) hy), rfl, hm.ext, News.nil _ _⟩) | exact (fun m hm => ⟨(0, false), FindP.good he ha (by rcases hor with ⟨hW, _⟩ | ⟨hW, _⟩; exact find_not (by omega) hW fun j y hj hy => hi.2 j y (by omega) hy; exact find_none hW), rfl, hm.ext, News.nil _ _⟩))
   ·try simp only [nz] at ht34
    refine Ce.skip (Ne.seq (Ce.seq (Ce.region ?_)))
    iterate 2 refine Ie.P ?_
    refine Ie.K Tryz.underlying22 sz50 ?_
    refine Ie.loadAgg rfl rfl rfl rfl rfl ag50 sz50 (.base hh hb (by simp)) (by omega) hr ?_
    refine Ie.P ?_
    refine Ie.calln _ _ _ rfl rfl rfl rfl rfl rfl (fun m hm => arm_ok (t := a) (s := s) hm.lole (Mem.kr hm) hraS (hwl q a ha)) (fun z hzw => ?_)
    obtain ⟨zh, zv⟩ := z
    iterate 5 refine Ie.P ?_
    refine Ie.nil (Ne.seq (Ce.seq (Ce.seq (Ce.region ?_))))
    iterate 2 refine Ie.P ?_
    refine Ie.nil (Ne.seq ?_)
    refine Ce.cond rfl (fun ht45 => ?_) (fun ht45 => ?_)
    ·have hW := arm_no ht45
     refine Ce.seq (Ce.region ?_)
     iterate 2 refine Ie.P ?_
     refine Ie.nil (Ne.seq (Ce.ret (Re.seq ?_)))
     exact Re.end_ rfl rfl (by first | exact (fun m hm => ⟨(0, false), FindP.bad he hne, rfl, hm.ext, News.nil _ _⟩) | exact (fun m hm => ⟨(0, false), FindP.good he ha (find_kind (by omega)), rfl, hm.ext, News.nil _ _⟩) | exact (fun m hm => ⟨(0, false), FindP.good he ha (find_none hW), rfl, hm.ext, News.nil _ _⟩) | exact (fun m hm => ⟨(Int.ofNat i, true), FindP.good he ha (find_at (by omega) hW hx hi.2 (by assumption)), rfl, hm.ext, News.nil _ _⟩) | exact (fun m hm => ⟨(0, false), FindP.good he ha (find_not (by omega) hW fun j y hj hy => hi.2 j y (by omega) hy), rfl, hm.ext, News.nil _ _⟩) | exact (fun m hm => ⟨(0, false), FindP.good he ha (by rcases hor with ⟨hW, _⟩ | ⟨hW, _⟩; exact find_not (by omega) hW fun j y hj hy => hi.2 j y (by omega) hy; exact find_none hW), rfl, hm.ext, News.nil _ _⟩))
    ·obtain ⟨L, hW⟩ := arm_some ht45
     obtain ⟨hLz, -⟩ := hzw L hW
     simp only at hLz
     obtain ⟨az, cz, rfl, hnz, hLz⟩ := hLz
     refine Ce.skip (Ne.seq (Ce.seq (Ce.seq (Ce.region (Ie.P ?_)))))
     refine Ie.G (ln47 ..) ?_
     refine Ie.P ?_
     refine Ie.nil (Ne.seq (Ce.block ?_))
    
     refine Ce.loop (α := Nat) (fun i => [(3, .string n), (46, .slice az L.length cz), (47, .int .i64 (Int.ofNat (L.length))), (48, .int .i64 (Int.ofNat (i)))]) (fun i => zh) (fun i => i ≤ L.length ∧ ∀ (j : Nat) (y : Fld), j < i → L[j]? = some y → y.name ≠ n) (fun i => L.length - i) 0 ⟨Nat.zero_le _, fun _ _ h => (by cases h)⟩ ⟨rfl, rfl, rfl, rfl, trivial⟩ (List.sublist_append_left _ _) (fun i hi => ?_)
     refine Ce.seq (Ce.region (Ie.P ?_))
     refine Ie.nil (Ne.seq (Ce.seq ?_))
     refine Ce.cond rfl (fun ht49 => ?_) (fun ht49 => ?_)
     ·try simp only [nz] at ht49
      have hltz : i < L.length := by omega
      obtain ⟨x, hx⟩ : ∃ w_, L[i]? = some w_ := ⟨_, List.getElem?_eq_getElem hltz⟩
      rcases hLz with ⟨e0, -⟩ | ⟨bz, offz, csz, elz, gz, mdz, matez, rfl, hbz, hlez, hcz⟩
      ·rw [e0] at hltz; simp at hltz
      have hrz := hcz i x hx
      refine Ce.skip (Ne.seq (Ce.seq (Ce.block (Ce.seq (Ce.region (Ie.P ?_))))))
      refine Ie.K Tryz.underlying47 sz132 ?_
      refine Ie.loadAgg rfl rfl rfl rfl rfl ag132 sz132 (Sees.orB (r := []) hbz (List.append_nil _).symm) (by omega) hrz ?_
      refine Ie.alloc rfl rfl rfl rfl zr132 (fun b13 hb13 => ?_)
      refine Ie.P ?_
      refine Ie.store rfl rfl rfl rfl rfl sz132 rfl (by first | exact .head | exact .tail .head | exact .tail (.tail .head) | exact .tail (.tail (.tail .head)) | exact updo) rfl ?_
      refine Ie.nil (Ne.seq (Ce.seq (Ce.region (Ie.F fa132_0 ?_))))
      refine Ie.L ag9 ?_
      iterate 2 refine Ie.P ?_
      refine Ie.nil (Ne.seq ?_)
      refine Ce.cond rfl (fun ht56 => ?_) (fun ht56 => ?_)
      ·try simp only [nz] at ht56
       refine Ce.seq (Ce.region ?_)
       iterate 3 refine Ie.P ?_
       refine Ie.nil (Ne.seq (Ce.ret (Re.blk (Re.seq (Re.loop (Re.blk (Re.seq ?_)))))))
       exact Re.end_ rfl rfl (by first | exact (fun m hm => ⟨(0, false), FindP.bad he hne, rfl, hm.ext, News.nil _ _⟩) | exact (fun m hm => ⟨(0, false), FindP.good he ha (find_kind (by omega)), rfl, hm.ext, News.nil _ _⟩) | exact (fun m hm => ⟨(0, false), FindP.good he ha (find_none hW), rfl, hm.ext, News.nil _ _⟩) | exact (fun m hm => ⟨(Int.ofNat i, true), FindP.good he ha (find_at (by omega) hW hx hi.2 (by assumption)), rfl, hm.ext, News.nil _ _⟩) | exact (fun m hm => ⟨(0, false), FindP.good he ha (find_not (by omega) hW fun j y hj hy => hi.2 j y (by omega) hy), rfl, hm.ext, News.nil _ _⟩) | exact (fun m hm => ⟨(0, false), FindP.good he ha (by rcases hor with ⟨hW, _⟩ | ⟨hW, _⟩; exact find_not (by omega) hW fun j y hj hy => hi.2 j y (by omega) hy; exact find_none hW), rfl, hm.ext, News.nil _ _⟩))
      ·try simp only [nz] at ht56
       refine Ce.skip (Ne.blk (Ne.seq (Ce.region (Ie.P ?_))))
       refine Ie.as 58 (.int .i64 (Int.ofNat (i + 1))) rfl (congrArg (Value.int .i64) (wr_succ (by omega))) ?_
       refine Ie.P ?_
       refine Ie.nil ?_
       exact Ne.loop (i + 1) ⟨hltz, upto_succ hi.2 hx (by assumption)⟩ (by omega) ⟨rfl, rfl, rfl, rfl, trivial⟩ (.cons _ (.refl _))
     ·try simp only [nz] at ht49
      refine Ce.exit (Xe.seq (Xe.loop (Xe.here (Ne.seq (Ce.seq (Ce.region ?_))))))
      iterate 2 refine Ie.P ?_
      refine Ie.nil (Ne.seq (Ce.ret ?_))
      exact Re.end_ rfl rfl (by first | exact (fun m hm => ⟨(0, false), FindP.bad he hne, rfl, hm.ext, News.nil _ _⟩) | exact (fun m hm => ⟨(0, false), FindP.good he ha (find_kind (by omega)), rfl, hm.ext, News.nil _ _⟩) | exact (fun m hm => ⟨(0, false), FindP.good he ha (find_none hW), rfl, hm.ext, News.nil _ _⟩) | exact (fun m hm => ⟨(Int.ofNat i, true), FindP.good he ha (find_at (by omega) hW hx hi.2 (by assumption)), rfl, hm.ext, News.nil _ _⟩) | exact (fun m hm => ⟨(0, false), FindP.good he ha (find_not (by omega) hW fun j y hj hy => hi.2 j y (by omega) hy), rfl, hm.ext, News.nil _ _⟩) | exact (fun m hm => ⟨(0, false), FindP.good he ha (by rcases hor with ⟨hW, _⟩ | ⟨hW, _⟩; exact find_not (by omega) hW fun j y hj hy => hi.2 j y (by omega) hy; exact find_none hW), rfl, hm.ext, News.nil _ _⟩))
  ·try simp only [nz] at hs_26
   refine Ie.O ?_
   refine Ie.O ?_
   refine Ie.O ?_
   refine Ie.O ?_
   refine Ie.O ?_
   refine Ie.O ?_
   iterate 2 refine Ie.P ?_
   refine Ie.nil (Ne.seq (Ce.cond_false rfl (Ce.skip (Ne.seq (Ce.seq (Ce.region ?_))))))
   iterate 2 refine Ie.P ?_
   refine Ie.K Tryz.underlying22 sz50 ?_
   refine Ie.loadAgg rfl rfl rfl rfl rfl ag50 sz50 (.base hh hb (by simp)) (by omega) hr ?_
   refine Ie.P ?_
   refine Ie.calln _ _ _ rfl rfl rfl rfl rfl rfl (fun m hm => arm_ok (t := a) (s := s) hm.lole (Mem.kr hm) hraS (hwl q a ha)) (fun z hzw => ?_)
   obtain ⟨zh, zv⟩ := z
   iterate 5 refine Ie.P ?_
   refine Ie.nil (Ne.seq (Ce.seq (Ce.seq (Ce.region ?_))))
   iterate 2 refine Ie.P ?_
   refine Ie.nil (Ne.seq ?_)
   refine Ce.cond rfl (fun ht45 => ?_) (fun ht45 => ?_)
   ·have hW := arm_no ht45
    refine Ce.seq (Ce.region ?_)
    iterate 2 refine Ie.P ?_
    refine Ie.nil (Ne.seq (Ce.ret (Re.seq ?_)))
    exact Re.end_ rfl rfl (by first | exact (fun m hm => ⟨(0, false), FindP.bad he hne, rfl, hm.ext, News.nil _ _⟩) | exact (fun m hm => ⟨(0, false), FindP.good he ha (find_kind (by omega)), rfl, hm.ext, News.nil _ _⟩) | exact (fun m hm => ⟨(0, false), FindP.good he ha (find_none hW), rfl, hm.ext, News.nil _ _⟩) | exact (fun m hm => ⟨(Int.ofNat i, true), FindP.good he ha (find_at (by omega) hW hx hi.2 (by assumption)), rfl, hm.ext, News.nil _ _⟩) | exact (fun m hm => ⟨(0, false), FindP.good he ha (find_not (by omega) hW fun j y hj hy => hi.2 j y (by omega) hy), rfl, hm.ext, News.nil _ _⟩) | exact (fun m hm => ⟨(0, false), FindP.good he ha (by rcases hor with ⟨hW, _⟩ | ⟨hW, _⟩; exact find_not (by omega) hW fun j y hj hy => hi.2 j y (by omega) hy; exact find_none hW), rfl, hm.ext, News.nil _ _⟩))
   ·obtain ⟨L, hW⟩ := arm_some ht45
    obtain ⟨hLz, -⟩ := hzw L hW
    simp only at hLz
    obtain ⟨az, cz, rfl, hnz, hLz⟩ := hLz
    refine Ce.skip (Ne.seq (Ce.seq (Ce.seq (Ce.region (Ie.P ?_)))))
    refine Ie.G (ln47 ..) ?_
    refine Ie.P ?_
    refine Ie.nil (Ne.seq (Ce.block ?_))
   
    refine Ce.loop (α := Nat) (fun i => [(3, .string n), (46, .slice az L.length cz), (47, .int .i64 (Int.ofNat (L.length))), (48, .int .i64 (Int.ofNat (i)))]) (fun i => zh) (fun i => i ≤ L.length ∧ ∀ (j : Nat) (y : Fld), j < i → L[j]? = some y → y.name ≠ n) (fun i => L.length - i) 0 ⟨Nat.zero_le _, fun _ _ h => (by cases h)⟩ ⟨rfl, rfl, rfl, rfl, trivial⟩ (List.sublist_append_left _ _) (fun i hi => ?_)
    refine Ce.seq (Ce.region (Ie.P ?_))
    refine Ie.nil (Ne.seq (Ce.seq ?_))
    refine Ce.cond rfl (fun ht49 => ?_) (fun ht49 => ?_)
    ·try simp only [nz] at ht49
     have hltz : i < L.length := by omega
     obtain ⟨x, hx⟩ : ∃ w_, L[i]? = some w_ := ⟨_, List.getElem?_eq_getElem hltz⟩
     rcases hLz with ⟨e0, -⟩ | ⟨bz, offz, csz, elz, gz, mdz, matez, rfl, hbz, hlez, hcz⟩
     ·rw [e0] at hltz; simp at hltz
     have hrz := hcz i x hx
     refine Ce.skip (Ne.seq (Ce.seq (Ce.block (Ce.seq (Ce.region (Ie.P ?_))))))
     refine Ie.K Tryz.underlying47 sz132 ?_
     refine Ie.loadAgg rfl rfl rfl rfl rfl ag132 sz132 (Sees.orB (r := []) hbz (List.append_nil _).symm) (by omega) hrz ?_
     refine Ie.alloc rfl rfl rfl rfl zr132 (fun b13 hb13 => ?_)
     refine Ie.P ?_
     refine Ie.store rfl rfl rfl rfl rfl sz132 rfl (by first | exact .head | exact .tail .head | exact .tail (.tail .head) | exact .tail (.tail (.tail .head)) | exact updo) rfl ?_
     refine Ie.nil (Ne.seq (Ce.seq (Ce.region (Ie.F fa132_0 ?_))))
     refine Ie.L ag9 ?_
     iterate 2 refine Ie.P ?_
     refine Ie.nil (Ne.seq ?_)
     refine Ce.cond rfl (fun ht56 => ?_) (fun ht56 => ?_)
     ·try simp only [nz] at ht56
      refine Ce.seq (Ce.region ?_)
      iterate 3 refine Ie.P ?_
      refine Ie.nil (Ne.seq (Ce.ret (Re.blk (Re.seq (Re.loop (Re.blk (Re.seq ?_)))))))
      exact Re.end_ rfl rfl (by first | exact (fun m hm => ⟨(0, false), FindP.bad he hne, rfl, hm.ext, News.nil _ _⟩) | exact (fun m hm => ⟨(0, false), FindP.good he ha (find_kind (by omega)), rfl, hm.ext, News.nil _ _⟩) | exact (fun m hm => ⟨(0, false), FindP.good he ha (find_none hW), rfl, hm.ext, News.nil _ _⟩) | exact (fun m hm => ⟨(Int.ofNat i, true), FindP.good he ha (find_at (by omega) hW hx hi.2 (by assumption)), rfl, hm.ext, News.nil _ _⟩) | exact (fun m hm => ⟨(0, false), FindP.good he ha (find_not (by omega) hW fun j y hj hy => hi.2 j y (by omega) hy), rfl, hm.ext, News.nil _ _⟩) | exact (fun m hm => ⟨(0, false), FindP.good he ha (by rcases hor with ⟨hW, _⟩ | ⟨hW, _⟩; exact find_not (by omega) hW fun j y hj hy => hi.2 j y (by omega) hy; exact find_none hW), rfl, hm.ext, News.nil _ _⟩))
     ·try simp only [nz] at ht56
      refine Ce.skip (Ne.blk (Ne.seq (Ce.region (Ie.P ?_))))
      refine Ie.as 58 (.int .i64 (Int.ofNat (i + 1))) rfl (congrArg (Value.int .i64) (wr_succ (by omega))) ?_
      refine Ie.P ?_
      refine Ie.nil ?_
      exact Ne.loop (i + 1) ⟨hltz, upto_succ hi.2 hx (by assumption)⟩ (by omega) ⟨rfl, rfl, rfl, rfl, trivial⟩ (.cons _ (.refl _))
    ·try simp only [nz] at ht49
     refine Ce.exit (Xe.seq (Xe.loop (Xe.here (Ne.seq (Ce.seq (Ce.region ?_))))))
     iterate 2 refine Ie.P ?_
     refine Ie.nil (Ne.seq (Ce.ret ?_))
     exact Re.end_ rfl rfl (by first | exact (fun m hm => ⟨(0, false), FindP.bad he hne, rfl, hm.ext, News.nil _ _⟩) | exact (fun m hm => ⟨(0, false), FindP.good he ha (find_kind (by omega)), rfl, hm.ext, News.nil _ _⟩) | exact (fun m hm => ⟨(0, false), FindP.good he ha (find_none hW), rfl, hm.ext, News.nil _ _⟩) | exact (fun m hm => ⟨(Int.ofNat i, true), FindP.good he ha (find_at (by omega) hW hx hi.2 (by assumption)), rfl, hm.ext, News.nil _ _⟩) | exact (fun m hm => ⟨(0, false), FindP.good he ha (find_not (by omega) hW fun j y hj hy => hi.2 j y (by omega) hy), rfl, hm.ext, News.nil _ _⟩) | exact (fun m hm => ⟨(0, false), FindP.good he ha (by rcases hor with ⟨hW, _⟩ | ⟨hW, _⟩; exact find_not (by omega) hW fun j y hj hy => hi.2 j y (by omega) hy; exact find_none hW), rfl, hm.ext, News.nil _ _⟩))

theorem rFind_ok {l : List Ty} {vl : Value} {t : Int} {s n : ByteArray} {m : AW} (hm : m.lo ≤ m.next) (hlS : Sl (Mem m) 5 (RTy (Mem m)) l vl) (hwl : ∀ (i : Nat) (a : Ty), l[i]? = some a → FewT a) (hn14 : l.length ≤ 14) : Fc Tryz.prog 36 [vl, .int .i64 t, .string s, .string n] m fun v m' => ∃ x : Int × Bool, FindP l t s n x ∧ v = .tuple ⟨[.int .i64 x.1, .bool x.2]⟩ ∧ Ext m m' ∧ News m m' [] := by
 have hlS0 := hlS
 obtain ⟨al, cl, rfl, hnl, hl⟩ := hlS
 refine Fc.body (c := _) Tryz.func36 rfl rfl rfl rfl hm ?_
 refine Ce.seq (Ce.region ?_)
 iterate 2 refine Ie.P ?_
 refine Ie.nil (Ne.seq (Ce.seq (Ce.seq (Ce.region ?_))))
 iterate 2 refine Ie.P ?_
 refine Ie.buildSlice rfl rfl rfl rfl rfl (bs32_1 ..) (fun b15 hb15 => ?_)
 refine Ie.calln _ _ _ rfl rfl rfl rfl rfl rfl (fun m hm => rasked_ok hm.lole (hlS0.mono (Mem.kr hm) (RTy.mono (Mem.kr hm))) hwl hn14 ((Sl.single (R := RInt) (x := t) (b := b15) (c := 1) (el := 3) (g := false) (md := .plain) (mate := none) rfl rfl).mono (InH.kr (l := [(b15, .cells [.int .i64 t] 3 false .plain none)]) hm (fun p_ hp_ => by simpa using hp_)) fun _ _ h => h)) (fun e he => ?_)
 iterate 2 refine Ie.P ?_
 refine Ie.splitB 18 rfl (fun hs_18 => ?_) (fun hs_18 => ?_)
 ·try simp only [nz] at hs_18
  have hne : e ≠ 0 := by omega
  refine Ie.O ?_
  refine Ie.O ?_
  refine Ie.O ?_
  refine Ie.O ?_
  refine Ie.O ?_
  refine Ie.O ?_
  refine Ie.O ?_
  refine Ie.O ?_
  refine Ie.O ?_
  refine Ie.O ?_
  refine Ie.O ?_
  refine Ie.O ?_
  refine Ie.O ?_
  refine Ie.O ?_
  refine Ie.P ?_
  refine Ie.nil (Ne.seq (Ce.cond_true rfl (Ce.seq (Ce.region ?_))))
  iterate 2 refine Ie.P ?_
  refine Ie.nil (Ne.seq (Ce.ret (Re.seq ?_)))
  exact Re.end_ rfl rfl (by first | exact (fun m hm => ⟨(0, false), FindP.bad he hne, rfl, hm.ext, News.nil _ _⟩) | exact (fun m hm => ⟨(0, false), FindP.good he ha (find_kind (by omega)), rfl, hm.ext, News.nil _ _⟩) | exact (fun m hm => ⟨(0, false), FindP.good he ha (find_none hW), rfl, hm.ext, News.nil _ _⟩) | exact (fun m hm => ⟨(Int.ofNat i, true), FindP.good he ha (find_at (by omega) hW hx hi.2 (by assumption)), rfl, hm.ext, News.nil _ _⟩) | exact (fun m hm => ⟨(0, false), FindP.good he ha (find_not (by omega) hW fun j y hj hy => hi.2 j y (by omega) hy), rfl, hm.ext, News.nil _ _⟩) | exact (fun m hm => ⟨(0, false), FindP.good he ha (by rcases hor with ⟨hW, _⟩ | ⟨hW, _⟩; exact find_not (by omega) hW fun j y hj hy => hi.2 j y (by omega) hy; exact find_none hW), rfl, hm.ext, News.nil _ _⟩))
 ·try simp only [nz] at hs_18
  have he0 : e = 0 := by omega
  subst he0
  obtain ⟨q, a, rfl, hq, ha⟩ := he.at1
  obtain ⟨hWl, hFit, r, sz, hr0, hrn, hz⟩ := he.fine
  have hbd : ∀ (i : Nat) (a : Ty), l[i]? = some a → badB l.length a = false := fun i a ha => hWl.sound i a ha
  rcases hl with ⟨e0, -⟩ | ⟨b, off, cs, el, g, md, mate, rfl, ⟨hb, hh⟩, hle, hc⟩
  ·rw [e0] at hq; simp at hq
  have hr := hc q a ha
  obtain ⟨ve, vf, va, hr, he_, hf_, hga⟩ := hr
  have hraS : RTy (Mem m) a [.int .i64 a.kind, ve, .string a.name, vf, va] := ⟨ve, vf, va, rfl, he_, hf_, hga⟩
  iterate 2 refine Ie.P ?_
  refine Ie.K Tryz.underlying22 sz50 ?_
  refine Ie.F fa50_0 ?_
  refine Ie.M ag3 (.base hh hb (by simp)) (cell_of_take hr (k := 0) rfl) ?_
  iterate 2 refine Ie.P ?_
  refine Ie.splitB 25 rfl (fun hs_25 => ?_) (fun hs_25 => ?_)
  ·try simp only [nz] at hs_25
   iterate 2 refine Ie.P ?_
   refine Ie.K Tryz.underlying22 sz50 ?_
   refine Ie.F fa50_0 ?_
   refine Ie.M ag3 (.base hh hb (by simp)) (cell_of_take hr (k := 0) rfl) ?_
   iterate 3 refine Ie.P ?_
   refine Ie.nil (Ne.seq ?_)
   refine Ce.cond rfl (fun ht33 => ?_) (fun ht33 => ?_)
   ·try simp only [nz] at ht33
    refine Ce.seq (Ce.region ?_)
    iterate 2 refine Ie.P ?_
    refine Ie.nil (Ne.seq (Ce.ret (Re.seq ?_)))
    exact Re.end_ rfl rfl (by first | exact (fun m hm => ⟨(0, false), FindP.bad he hne, rfl, hm.ext, News.nil _ _⟩) | exact (fun m hm => ⟨(0, false), FindP.good he ha (find_kind (by omega)), rfl, hm.ext, News.nil _ _⟩) | exact (fun m hm => ⟨(0, false), FindP.good he ha (find_none hW), rfl, hm.ext, News.nil _ _⟩) | exact (fun m hm => ⟨(Int.ofNat i, true), FindP.good he ha (find_at (by omega) hW hx hi.2 (by assumption)), rfl, hm.ext, News.nil _ _⟩) | exact (fun m hm => ⟨(0, false), FindP.good he ha (find_not (by omega) hW fun j y hj hy => hi.2 j y (by omega) hy), rfl, hm.ext, News.nil _ _⟩) | exact (fun m hm => ⟨(0, false), FindP.good he ha (by rcases hor with ⟨hW, _⟩ | ⟨hW, _⟩; exact find_not (by omega) hW fun j y hj hy => hi.2 j y (by omega) hy; exact find_none hW), rfl, hm.ext, News.nil _ _⟩))
   ·try simp only [nz] at ht33
    refine Ce.skip (Ne.seq (Ce.seq (Ce.region ?_)))
    iterate 2 refine Ie.P ?_
    refine Ie.K Tryz.underlying22 sz50 ?_
    refine Ie.loadAgg rfl rfl rfl rfl rfl ag50 sz50 (.base hh hb (by simp)) (by omega) hr ?_
    refine Ie.P ?_
    refine Ie.calln _ _ _ rfl rfl rfl rfl rfl rfl (fun m hm => rwith_ok (t := a) (s := s) hm.lole (RTy.mono (Mem.kr hm) _ _ hraS) (hwl q a ha)) (fun z hzw => ?_)
    obtain ⟨zh, zv⟩ := z
    obtain ⟨L, is_, hor, hLz, -, htup⟩ := with_all hzw
    simp only at hLz
    obtain ⟨az, cz, rfl, hnz, hLz⟩ := hLz
    refine Ie.as 40 (.tuple ⟨[.slice az L.length cz, .bool is_]⟩) rfl htup ?_
    iterate 5 refine Ie.P ?_
    refine Ie.nil (Ne.seq (Ce.seq (Ce.seq (Ce.region (Ie.P ?_)))))
    refine Ie.nil (Ne.seq (Ce.block ?_))
   
    refine Ce.loop (α := Nat) (fun i => [(3, .string n), (10, .slice az L.length cz), (11, .bool is_), (12, .int .i64 (Int.ofNat (i)))]) (fun i => zh) (fun i => i ≤ L.length ∧ ∀ (j : Nat) (y : Fld), j < i → L[j]? = some y → y.name ≠ n) (fun i => L.length - i) 0 ⟨Nat.zero_le _, fun _ _ h => (by cases h)⟩ ⟨rfl, rfl, rfl, rfl, trivial⟩ (List.sublist_append_left _ _) (fun i hi => ?_)
    refine Ce.seq (Ce.seq (Ce.region ?_))
    iterate 2 refine Ie.P ?_
    refine Ie.G (ln47 ..) ?_
    iterate 2 refine Ie.P ?_
    refine Ie.splitB 47 rfl (fun hs_47 => ?_) (fun hs_47 => ?_)
    ·try simp only [nz] at hs_47
     iterate 2 refine Ie.P ?_
     refine Ie.nil (Ne.seq ?_)
     refine Ce.cond rfl (fun ht49 => ?_) (fun ht49 => ?_)
     ·obtain ⟨hW, -⟩ := hor.resolve_right fun h => (by rw [h.2.2] at ht49; cases ht49)
      have hltz : i < L.length := by omega
      obtain ⟨x, hx⟩ : ∃ w_, L[i]? = some w_ := ⟨_, List.getElem?_eq_getElem hltz⟩
      rcases hLz with ⟨e0, -⟩ | ⟨bz, offz, csz, elz, gz, mdz, matez, rfl, hbz, hlez, hcz⟩
      ·rw [e0] at hltz; simp at hltz
      have hrz := hcz i x hx
      refine Ce.skip (Ne.seq (Ce.seq (Ce.block (Ce.seq (Ce.region ?_)))))
      iterate 2 refine Ie.P ?_
      refine Ie.K Tryz.underlying47 sz132 ?_
      refine Ie.F fa132_0 ?_
      refine Ie.M ag9 (InH.sees (l := zh) (fun p_ hp_ => hp_) _ _ hbz) (cell_of_take hrz (k := 0) rfl) ?_
      iterate 2 refine Ie.P ?_
      refine Ie.nil (Ne.seq ?_)
      refine Ce.cond rfl (fun ht58 => ?_) (fun ht58 => ?_)
      ·try simp only [nz] at ht58
       refine Ce.seq (Ce.region ?_)
       iterate 3 refine Ie.P ?_
       refine Ie.nil (Ne.seq (Ce.ret (Re.blk (Re.seq (Re.loop (Re.blk (Re.seq ?_)))))))
       exact Re.end_ rfl rfl (by first | exact (fun m hm => ⟨(0, false), FindP.bad he hne, rfl, hm.ext, News.nil _ _⟩) | exact (fun m hm => ⟨(0, false), FindP.good he ha (find_kind (by omega)), rfl, hm.ext, News.nil _ _⟩) | exact (fun m hm => ⟨(0, false), FindP.good he ha (find_none hW), rfl, hm.ext, News.nil _ _⟩) | exact (fun m hm => ⟨(Int.ofNat i, true), FindP.good he ha (find_at (by omega) hW hx hi.2 (by assumption)), rfl, hm.ext, News.nil _ _⟩) | exact (fun m hm => ⟨(0, false), FindP.good he ha (find_not (by omega) hW fun j y hj hy => hi.2 j y (by omega) hy), rfl, hm.ext, News.nil _ _⟩) | exact (fun m hm => ⟨(0, false), FindP.good he ha (by rcases hor with ⟨hW, _⟩ | ⟨hW, _⟩; exact find_not (by omega) hW fun j y hj hy => hi.2 j y (by omega) hy; exact find_none hW), rfl, hm.ext, News.nil _ _⟩))
      ·try simp only [nz] at ht58
       refine Ce.skip (Ne.blk (Ne.seq (Ce.region ?_)))
       iterate 2 refine Ie.P ?_
       refine Ie.as 51 (.int .i64 (Int.ofNat (i + 1))) rfl (congrArg (Value.int .i64) (wr_succ (by omega))) ?_
       refine Ie.P ?_
       refine Ie.nil ?_
       exact Ne.loop (i + 1) ⟨hltz, upto_succ hi.2 hx (by assumption)⟩ (by omega) ⟨rfl, rfl, rfl, rfl, trivial⟩ (.refl _)
     ·exact (dead_all hor ht49 (i := i) (by omega)).elim
    ·try simp only [nz] at hs_47
     refine Ie.O ?_
     refine Ie.P ?_
     refine Ie.nil (Ne.seq (Ce.cond_false rfl (Ce.exit (Xe.seq (Xe.loop (Xe.here (Ne.seq (Ce.seq (Ce.region ?_)))))))))
     iterate 2 refine Ie.P ?_
     refine Ie.nil (Ne.seq (Ce.ret ?_))
     exact Re.end_ rfl rfl (by first | exact (fun m hm => ⟨(0, false), FindP.bad he hne, rfl, hm.ext, News.nil _ _⟩) | exact (fun m hm => ⟨(0, false), FindP.good he ha (find_kind (by omega)), rfl, hm.ext, News.nil _ _⟩) | exact (fun m hm => ⟨(0, false), FindP.good he ha (find_none hW), rfl, hm.ext, News.nil _ _⟩) | exact (fun m hm => ⟨(Int.ofNat i, true), FindP.good he ha (find_at (by omega) hW hx hi.2 (by assumption)), rfl, hm.ext, News.nil _ _⟩) | exact (fun m hm => ⟨(0, false), FindP.good he ha (find_not (by omega) hW fun j y hj hy => hi.2 j y (by omega) hy), rfl, hm.ext, News.nil _ _⟩) | exact (fun m hm => ⟨(0, false), FindP.good he ha (by rcases hor with ⟨hW, _⟩ | ⟨hW, _⟩; exact find_not (by omega) hW fun j y hj hy => hi.2 j y (by omega) hy; exact find_none hW), rfl, hm.ext, News.nil _ _⟩))
  ·try simp only [nz] at hs_25
   refine Ie.O ?_
   refine Ie.O ?_
   refine Ie.O ?_
   refine Ie.O ?_
   refine Ie.O ?_
   refine Ie.O ?_
   iterate 2 refine Ie.P ?_
   refine Ie.nil (Ne.seq (Ce.cond_false rfl (Ce.skip (Ne.seq (Ce.seq (Ce.region ?_))))))
   iterate 2 refine Ie.P ?_
   refine Ie.K Tryz.underlying22 sz50 ?_
   refine Ie.loadAgg rfl rfl rfl rfl rfl ag50 sz50 (.base hh hb (by simp)) (by omega) hr ?_
   refine Ie.P ?_
   refine Ie.calln _ _ _ rfl rfl rfl rfl rfl rfl (fun m hm => rwith_ok (t := a) (s := s) hm.lole (RTy.mono (Mem.kr hm) _ _ hraS) (hwl q a ha)) (fun z hzw => ?_)
   obtain ⟨zh, zv⟩ := z
   obtain ⟨L, is_, hor, hLz, -, htup⟩ := with_all hzw
   simp only at hLz
   obtain ⟨az, cz, rfl, hnz, hLz⟩ := hLz
   refine Ie.as 40 (.tuple ⟨[.slice az L.length cz, .bool is_]⟩) rfl htup ?_
   iterate 5 refine Ie.P ?_
   refine Ie.nil (Ne.seq (Ce.seq (Ce.seq (Ce.region (Ie.P ?_)))))
   refine Ie.nil (Ne.seq (Ce.block ?_))
  
   refine Ce.loop (α := Nat) (fun i => [(3, .string n), (10, .slice az L.length cz), (11, .bool is_), (12, .int .i64 (Int.ofNat (i)))]) (fun i => zh) (fun i => i ≤ L.length ∧ ∀ (j : Nat) (y : Fld), j < i → L[j]? = some y → y.name ≠ n) (fun i => L.length - i) 0 ⟨Nat.zero_le _, fun _ _ h => (by cases h)⟩ ⟨rfl, rfl, rfl, rfl, trivial⟩ (List.sublist_append_left _ _) (fun i hi => ?_)
   refine Ce.seq (Ce.seq (Ce.region ?_))
   iterate 2 refine Ie.P ?_
   refine Ie.G (ln47 ..) ?_
   iterate 2 refine Ie.P ?_
   refine Ie.splitB 47 rfl (fun hs_47 => ?_) (fun hs_47 => ?_)
   ·try simp only [nz] at hs_47
    iterate 2 refine Ie.P ?_
    refine Ie.nil (Ne.seq ?_)
    refine Ce.cond rfl (fun ht49 => ?_) (fun ht49 => ?_)
    ·obtain ⟨hW, -⟩ := hor.resolve_right fun h => (by rw [h.2.2] at ht49; cases ht49)
     have hltz : i < L.length := by omega
     obtain ⟨x, hx⟩ : ∃ w_, L[i]? = some w_ := ⟨_, List.getElem?_eq_getElem hltz⟩
     rcases hLz with ⟨e0, -⟩ | ⟨bz, offz, csz, elz, gz, mdz, matez, rfl, hbz, hlez, hcz⟩
     ·rw [e0] at hltz; simp at hltz
     have hrz := hcz i x hx
     refine Ce.skip (Ne.seq (Ce.seq (Ce.block (Ce.seq (Ce.region ?_)))))
     iterate 2 refine Ie.P ?_
     refine Ie.K Tryz.underlying47 sz132 ?_
     refine Ie.F fa132_0 ?_
     refine Ie.M ag9 (InH.sees (l := zh) (fun p_ hp_ => hp_) _ _ hbz) (cell_of_take hrz (k := 0) rfl) ?_
     iterate 2 refine Ie.P ?_
     refine Ie.nil (Ne.seq ?_)
     refine Ce.cond rfl (fun ht58 => ?_) (fun ht58 => ?_)
     ·try simp only [nz] at ht58
      refine Ce.seq (Ce.region ?_)
      iterate 3 refine Ie.P ?_
      refine Ie.nil (Ne.seq (Ce.ret (Re.blk (Re.seq (Re.loop (Re.blk (Re.seq ?_)))))))
      exact Re.end_ rfl rfl (by first | exact (fun m hm => ⟨(0, false), FindP.bad he hne, rfl, hm.ext, News.nil _ _⟩) | exact (fun m hm => ⟨(0, false), FindP.good he ha (find_kind (by omega)), rfl, hm.ext, News.nil _ _⟩) | exact (fun m hm => ⟨(0, false), FindP.good he ha (find_none hW), rfl, hm.ext, News.nil _ _⟩) | exact (fun m hm => ⟨(Int.ofNat i, true), FindP.good he ha (find_at (by omega) hW hx hi.2 (by assumption)), rfl, hm.ext, News.nil _ _⟩) | exact (fun m hm => ⟨(0, false), FindP.good he ha (find_not (by omega) hW fun j y hj hy => hi.2 j y (by omega) hy), rfl, hm.ext, News.nil _ _⟩) | exact (fun m hm => ⟨(0, false), FindP.good he ha (by rcases hor with ⟨hW, _⟩ | ⟨hW, _⟩; exact find_not (by omega) hW fun j y hj hy => hi.2 j y (by omega) hy; exact find_none hW), rfl, hm.ext, News.nil _ _⟩))
     ·try simp only [nz] at ht58
      refine Ce.skip (Ne.blk (Ne.seq (Ce.region ?_)))
      iterate 2 refine Ie.P ?_
      refine Ie.as 51 (.int .i64 (Int.ofNat (i + 1))) rfl (congrArg (Value.int .i64) (wr_succ (by omega))) ?_
      refine Ie.P ?_
      refine Ie.nil ?_
      exact Ne.loop (i + 1) ⟨hltz, upto_succ hi.2 hx (by assumption)⟩ (by omega) ⟨rfl, rfl, rfl, rfl, trivial⟩ (.refl _)
    ·exact (dead_all hor ht49 (i := i) (by omega)).elim
   ·try simp only [nz] at hs_47
    refine Ie.O ?_
    refine Ie.P ?_
    refine Ie.nil (Ne.seq (Ce.cond_false rfl (Ce.exit (Xe.seq (Xe.loop (Xe.here (Ne.seq (Ce.seq (Ce.region ?_)))))))))
    iterate 2 refine Ie.P ?_
    refine Ie.nil (Ne.seq (Ce.ret ?_))
    exact Re.end_ rfl rfl (by first | exact (fun m hm => ⟨(0, false), FindP.bad he hne, rfl, hm.ext, News.nil _ _⟩) | exact (fun m hm => ⟨(0, false), FindP.good he ha (find_kind (by omega)), rfl, hm.ext, News.nil _ _⟩) | exact (fun m hm => ⟨(0, false), FindP.good he ha (find_none hW), rfl, hm.ext, News.nil _ _⟩) | exact (fun m hm => ⟨(Int.ofNat i, true), FindP.good he ha (find_at (by omega) hW hx hi.2 (by assumption)), rfl, hm.ext, News.nil _ _⟩) | exact (fun m hm => ⟨(0, false), FindP.good he ha (find_not (by omega) hW fun j y hj hy => hi.2 j y (by omega) hy), rfl, hm.ext, News.nil _ _⟩) | exact (fun m hm => ⟨(0, false), FindP.good he ha (by rcases hor with ⟨hW, _⟩ | ⟨hW, _⟩; exact find_not (by omega) hW fun j y hj hy => hi.2 j y (by omega) hy; exact find_none hW), rfl, hm.ext, News.nil _ _⟩))

theorem Field_ok {l : List Ty} {vl : Value} {t k : Int} {s : ByteArray} {m : AW} (hm : m.lo ≤ m.next) (hlS : Sl (Mem m) 5 (RTyT (Mem m)) l vl) (hwl : ∀ (i : Nat) (a : Ty), l[i]? = some a → FewT a) (hn14 : l.length ≤ 14) : Fc Tryz.prog 34 [vl, .int .i64 t, .string s, .int .i64 k] m fun v m' => ∃ x : R4, FieldP l t s k x ∧ v = .tuple ⟨[.agg ⟨[.int .i64 x.1, .int .i64 x.2.1, .int .i64 x.2.2.1]⟩, .int .i64 x.2.2.2]⟩ ∧ Ext m m' ∧ News m m' [] := by
 have hlS0 := hlS
 obtain ⟨al, cl, rfl, hnl, hl⟩ := hlS
 refine Fc.body (c := _) Tryz.func34 rfl rfl rfl rfl hm ?_
 refine Ce.seq (Ce.region ?_)
 refine Ie.alloc rfl rfl rfl rfl zr64 (fun b8 hb8 => ?_)
 refine Ie.P ?_
 refine Ie.nil (Ne.seq (Ce.seq (Ce.seq (Ce.region ?_))))
 iterate 2 refine Ie.P ?_
 refine Ie.buildSlice rfl rfl rfl rfl rfl (bs32_1 ..) (fun b20 hb20 => ?_)
 refine Ie.calln _ _ _ rfl rfl rfl rfl rfl rfl (fun m hm => asked_ok hm.lole (hlS0.mono (Mem.kr hm) fun x_ cs_ h_ => RTy.mono (Mem.kr hm) x_ cs_ h_.1) hwl hn14 ((Sl.single (R := RInt) (x := t) (b := b20) (c := 1) (el := 3) (g := false) (md := .plain) (mate := none) rfl rfl).mono (InH.kr (l := [(b20, .cells [.int .i64 t] 3 false .plain none)]) hm (fun p_ hp_ => by rw [List.mem_singleton.1 hp_]; exact List.mem_cons_self)) fun _ _ h => h)) (fun e he => ?_)
 refine Ie.P ?_
 refine Ie.nil (Ne.seq (Ce.seq (Ce.region ?_)))
 iterate 2 refine Ie.P ?_
 refine Ie.nil (Ne.seq ?_)
 refine Ce.cond rfl (fun ht23 => ?_) (fun ht23 => ?_)
 ·try simp only [nz] at ht23
  have hne : e ≠ 0 := by omega
  refine Ce.seq (Ce.region ?_)
  refine Ie.p (v := .agg ⟨[.int .i64 0, .int .i64 0, .int .i64 0]⟩) rfl rfl rfl (by kernel_rfl) ?_
  refine Ie.P ?_
  refine Ie.store rfl rfl rfl rfl rfl sz64 rfl (by repeat first | exact .head | apply Upd.app | apply Upd.tail) rfl ?_
  refine Ie.P ?_
  refine Ie.nil (Ne.seq (Ce.ret (Re.seq ?_)))
  refine Re.endH rfl (.agg rfl ag64 sz64 (by repeat first | exact .head | exact .base ‹_› ‹_› (by simp) | refine .app ?_ | refine .tail ?_) (Nat.le_of_ble_eq_true rfl) rfl (.tmp rfl .nil)) ?_
  exact by first | exact (fun m hm => ⟨_, FieldP.bad he hne, rfl, hm.ext, News.nil _ _⟩) | exact (fun m hm => ⟨_, FieldP.good he ha hr0 hz (field_kind (by omega)), rfl, hm.ext, News.nil _ _⟩) | exact (fun m hm => ⟨_, FieldP.good he ha hr0 hz (field_none (by omega) hW), rfl, hm.ext, News.nil _ _⟩) | exact (fun m hm => ⟨_, FieldP.good he ha hr0 hz (field_out (by omega) hW (by assumption)), rfl, hm.ext, News.nil _ _⟩) | exact (fun m hm => ⟨_, FieldP.good he ha hr0 hz (field_at (by omega) hW hfk), (by rw [hqf0]; rfl), hm.ext, News.nil _ _⟩)
 ·try simp only [nz] at ht23
  have he0 : e = 0 := by omega
  subst he0
  obtain ⟨q, a, rfl, hq, ha⟩ := he.at1
  obtain ⟨hWl, hFit, r, sz, hr0, hrn, hz⟩ := he.fine
  have hbd : ∀ (i : Nat) (a : Ty), l[i]? = some a → badB l.length a = false := fun i a ha => hWl.sound i a ha
  rcases hl with ⟨e0, -⟩ | ⟨b, off, cs, el, g, md, mate, rfl, ⟨hb, hh⟩, hle, hc⟩
  ·rw [e0] at hq; simp at hq
  have hr := hc q a ha
  obtain ⟨⟨ve, vf, va, hr, he_, hf_, hga⟩, htf⟩ := hr
  rw [hr] at htf
  have hraS : RTy (Mem m) a [.int .i64 a.kind, ve, .string a.name, vf, va] := ⟨ve, vf, va, rfl, he_, hf_, hga⟩
  obtain ⟨ae, ce, rfl, hne, he_⟩ := he_
  obtain ⟨af, cf, rfl, hnf, hf_⟩ := hf_
  obtain ⟨aa, ca, rfl, hna, hga⟩ := hga
  have hw := hwl q a ha
  have k1 := hw.elems
  have hshp := (single_zero (hWl.all q a ha)).1
  have hTf := htf _ rfl
  refine Ce.skip (Ne.seq (Ce.seq (Ce.region ?_)))
  iterate 2 refine Ie.P ?_
  refine Ie.K Tryz.underlying22 sz50 ?_
  refine Ie.loadAgg rfl rfl rfl rfl rfl ag50 sz50 (.base hh hb (by simp)) (by omega) hr ?_
  refine Ie.alloc rfl rfl rfl rfl zr50 (fun b11 hb11 => ?_)
  refine Ie.store rfl rfl rfl rfl rfl sz50 rfl (by repeat first | exact .head | apply Upd.app | apply Upd.tail) rfl ?_
  refine Ie.nil (Ne.seq (Ce.seq ?_))
  refine Ce.joinA (True) [(37, .bool (decide (a.kind ≠ 10 ∧ a.kind ≠ 11)))] ?_ (fun _ => ?_)
  ·refine Ce.region (Ie.F fa50_0 ?_)
   refine Ie.load rfl rfl rfl rfl rfl ag3 (by repeat first | exact .head | exact .base ‹_› ‹_› (by simp) | refine .app ?_ | refine .tail ?_) rfl ?_
   iterate 2 refine Ie.P ?_
   refine Ie.splitB 33 rfl (fun hs_33 => ?_) (fun hs_33 => ?_)
   ·try simp only [nz] at hs_33
    refine Ie.F fa50_0 ?_
    refine Ie.load rfl rfl rfl rfl rfl ag3 (by repeat first | exact .head | exact .base ‹_› ‹_› (by simp) | refine .app ?_ | refine .tail ?_) rfl ?_
    iterate 2 refine Ie.P ?_
    refine Ie.nil ?_
    refine Ne.as 37 (.bool (decide (a.kind ≠ 10 ∧ a.kind ≠ 11))) rfl (congrArg Value.bool (by apply bbx; simp only [nz, nb, reduceCtorEq, Classical.not_not]; (try simp only [shapeP, letterP, charP]); omega)) ?_
    exact Ne.J (trivial)
   ·try simp only [nz] at hs_33
    refine Ie.O ?_
    refine Ie.O ?_
    refine Ie.O ?_
    refine Ie.P ?_
    refine Ie.nil ?_
    refine Ne.as 37 (.bool (decide (a.kind ≠ 10 ∧ a.kind ≠ 11))) rfl (congrArg Value.bool (by apply bbx; simp only [nz, nb, reduceCtorEq, Classical.not_not]; (try simp only [shapeP, letterP, charP]); omega)) ?_
    exact Ne.J (trivial)
  ·refine Ce.cond rfl (fun ht37 => ?_) (fun ht37 => ?_)
   ·try simp only [nz] at ht37
    refine Ce.seq (Ce.region ?_)
    refine Ie.p (v := .agg ⟨[.int .i64 0, .int .i64 0, .int .i64 0]⟩) rfl rfl rfl (by kernel_rfl) ?_
    refine Ie.store rfl rfl rfl rfl rfl sz64 rfl (by repeat first | exact .head | apply Upd.app | apply Upd.tail) rfl ?_
    refine Ie.P ?_
    refine Ie.nil (Ne.seq (Ce.ret (Re.seq ?_)))
    refine Re.endH rfl (.agg rfl ag64 sz64 (by repeat first | exact .head | exact .base ‹_› ‹_› (by simp) | refine .app ?_ | refine .tail ?_) (Nat.le_of_ble_eq_true rfl) rfl (.tmp rfl .nil)) ?_
    exact by first | exact (fun m hm => ⟨_, FieldP.bad he hne, rfl, hm.ext, News.nil _ _⟩) | exact (fun m hm => ⟨_, FieldP.good he ha hr0 hz (field_kind (by omega)), rfl, hm.ext, News.nil _ _⟩) | exact (fun m hm => ⟨_, FieldP.good he ha hr0 hz (field_none (by omega) hW), rfl, hm.ext, News.nil _ _⟩) | exact (fun m hm => ⟨_, FieldP.good he ha hr0 hz (field_out (by omega) hW (by assumption)), rfl, hm.ext, News.nil _ _⟩) | exact (fun m hm => ⟨_, FieldP.good he ha hr0 hz (field_at (by omega) hW hfk), (by rw [hqf0]; rfl), hm.ext, News.nil _ _⟩)
   ·try simp only [nz] at ht37
    refine Ce.skip (Ne.seq (Ce.seq (Ce.region ?_)))
    refine Ie.loadAgg rfl rfl rfl rfl rfl ag50 sz50 (by repeat first | exact .head | exact .base ‹_› ‹_› (by simp) | refine .app ?_ | refine .tail ?_) (Nat.le_of_ble_eq_true rfl) rfl ?_
    refine Ie.P ?_
    refine Ie.calln _ _ _ rfl rfl rfl rfl rfl rfl (fun m hm => arm_ok (t := a) (s := s) hm.lole (Mem.kr hm) hraS hw) (fun z hzw => ?_)
    obtain ⟨zh, w0⟩ := z
    iterate 5 refine Ie.P ?_
    refine Ie.nil (Ne.seq (Ce.seq (Ce.seq (Ce.region ?_))))
    iterate 2 refine Ie.P ?_
    refine Ie.nil (Ne.seq ?_)
    refine Ce.cond rfl (fun ht46 => ?_) (fun ht46 => ?_)
    ·have hW := arm_no ht46
     refine Ce.seq (Ce.region ?_)
     refine Ie.p (v := .agg ⟨[.int .i64 0, .int .i64 0, .int .i64 0]⟩) rfl rfl rfl (by kernel_rfl) ?_
     refine Ie.store rfl rfl rfl rfl rfl sz64 rfl (by repeat first | exact .head | apply Upd.app | apply Upd.tail) rfl ?_
     refine Ie.P ?_
     refine Ie.nil (Ne.seq (Ce.ret (Re.seq ?_)))
     refine Re.endH rfl (.agg rfl ag64 sz64 (by repeat first | exact .head | exact .base ‹_› ‹_› (by simp) | refine .app ?_ | refine .tail ?_) (Nat.le_of_ble_eq_true rfl) rfl (.tmp rfl .nil)) ?_
     exact by first | exact (fun m hm => ⟨_, FieldP.bad he hne, rfl, hm.ext, News.nil _ _⟩) | exact (fun m hm => ⟨_, FieldP.good he ha hr0 hz (field_kind (by omega)), rfl, hm.ext, News.nil _ _⟩) | exact (fun m hm => ⟨_, FieldP.good he ha hr0 hz (field_none (by omega) hW), rfl, hm.ext, News.nil _ _⟩) | exact (fun m hm => ⟨_, FieldP.good he ha hr0 hz (field_out (by omega) hW (by assumption)), rfl, hm.ext, News.nil _ _⟩) | exact (fun m hm => ⟨_, FieldP.good he ha hr0 hz (field_at (by omega) hW hfk), (by rw [hqf0]; rfl), hm.ext, News.nil _ _⟩)
    ·obtain ⟨L0, hW⟩ := arm_some ht46
     obtain ⟨hLz, hTz⟩ := hzw L0 hW
     have hTq := hTz _ rfl hTf
     simp only at hLz hTq
     refine Ce.skip (Ne.seq (Ce.seq (Ce.seq (Ce.region (Ie.F fa50_1 ?_)))))
     refine Ie.load rfl rfl rfl rfl rfl ag32 (by repeat first | exact .head | exact .base ‹_› ‹_› (by simp) | refine .app ?_ | refine .tail ?_) rfl ?_
     refine Ie.G (ln32 ..) ?_
     refine Ie.P ?_
     refine Ie.nil (Ne.seq (Ce.block ?_))
    
     refine Ce.loop (α := Nat × Gro × List Value × Value) (fun q => [(0, .slice (some ⟨b, off, none⟩) l.length cl), (3, .int .i64 k), (8, ptr b8), (9, .int .i64 0), (11, ptr b11), (12, q.2.2.2), (49, .slice ae a.elems.length ce), (50, .int .i64 (Int.ofNat (a.elems.length))), (51, .int .i64 (Int.ofNat (q.1)))]) (fun q => q.2.1.H 132 q.2.2.1 ++ (zh ++ [(b11, .cells [.int .i64 a.kind, .slice ae a.elems.length ce, .string a.name, .slice af a.fields.length cf, .slice aa a.arms.length ca] 50 false .plain none), (b8, .cells [.int .i64 0, .int .i64 0, .int .i64 0] 64 false .plain none)])) (FldQ a L0 w0) (fun q => a.elems.length - q.1) (0, .no, [], w0) ⟨Nat.zero_le _, .inl ⟨rfl, rfl, rfl, rfl⟩⟩ ⟨rfl, rfl, rfl, rfl, rfl, rfl, rfl, rfl, rfl, trivial⟩ (List.Sublist.append_left (.cons_cons _ (.cons _ (.refl _))) _) (fun q hq0 => ?_)
     obtain ⟨i, g_, cs_, w⟩ := q
     have hQ := hq0
     obtain ⟨hi, hor⟩ := hq0
     simp only at hi hor
     refine Ce.seq (Ce.region (Ie.P ?_))
     refine Ie.nil (Ne.seq (Ce.seq ?_))
     refine Ce.cond rfl (fun ht52 => ?_) (fun ht52 => ?_)
     ·try simp only [nz] at ht52
      have hltE : i < a.elems.length := by omega
      obtain ⟨p, hp⟩ : ∃ w_, a.elems[i]? = some w_ := ⟨_, List.getElem?_eq_getElem hltE⟩
      rcases he_ with ⟨e0, -⟩ | ⟨bE, offE, csE, elE, gE, mdE, mateE, rfl, ⟨hbE, hhE⟩, hleE, hcE⟩
      ·rw [e0] at hltE; simp at hltE
      have hrp := hcE i p hp
      refine Ce.skip (Ne.seq (Ce.seq (Ce.block (Ce.seq (Ce.region (Ie.K Tryz.underlying32 sz3 ?_))))))
      refine Ie.M ag3 (.base hhE hbE (by simp)) (cell_of_take hrp (k := 0) rfl) ?_
      refine Ie.P ?_
      refine Ie.nil (Ne.seq (Ce.region ?_))
      iterate 2 refine Ie.P ?_
      refine Ie.p (v := .agg ⟨[.string ⟨⟨[]⟩⟩, .int .i64 p]⟩) rfl rfl rfl (by kernel_rfl) ?_
      refine Ie.buildSlice rfl rfl rfl rfl rfl (bs47_1 ..) (fun b58 hb58 => ?_)
      rcases hor with ⟨hi0, hg0, hc0, hw0⟩ | ⟨hi0, hL0, hF, hO, hw0⟩
      ·subst hg0 hc0
       rw [hw0]
       have hL0 := shape_elems hshp (by omega) (by omega) hW
       refine Ie.appendTight (R := RFld) (x0 := ⟨⟨⟨[]⟩⟩, p⟩) ((hTq (by rw [hL0]; rfl)).imp id fun ⟨b_, e1_, e2_⟩ => ⟨b_, .plain, none, e1_, e2_.elim (fun h => Sees.mem (.tail _ (List.mem_append_right _ (List.mem_append_left _ h)))) (fun h => Mem.sees rfl rfl _ _ h)⟩) (Sl.single (R := RFld) (x := ⟨⟨⟨[]⟩⟩, p⟩) (b := b58) (c := 1) (el := 132) (g := false) (md := .plain) (mate := none) rfl rfl) (InH.sees (by intro p_ hp_; rw [List.mem_singleton.1 hp_]; exact List.mem_cons_self)) RFld.flats rfl rfl rfl rfl Tryz.underlying47 Tryz.underlying47 ap132 rfl rfl (fun g1 cs1 hF1 hO1 => ?_)
       have hF1 : Flat 2 RFld (extL a (i + 1)) cs1 := by rw [← extL_succ hp, hi0]; exact hF1
       have hO1 : g1.Ok (i + 1) := by rw [hi0]; exact hO1
       refine Ie.as 59 (g1.V (i + 1)) rfl (by rw [hi0]) ?_
       refine Ie.P ?_
       refine Ie.nil (Ne.blk (Ne.seq (Ce.region (Ie.P ?_))))
       refine Ie.as 60 (.int .i64 (Int.ofNat (i + 1))) rfl (congrArg (Value.int .i64) (wr_succ (by omega))) ?_
       refine Ie.P ?_
       refine Ie.nil ?_
       exact Ne.loop (i + 1, g1, cs1, _) ⟨hltE, .inr ⟨Nat.succ_pos _, hL0, hF1, hO1, rfl⟩⟩ (by show a.elems.length - (i + 1) < a.elems.length - i; omega) ⟨rfl, rfl, rfl, rfl, rfl, rfl, rfl, rfl, rfl, trivial⟩ (List.Sublist.append_left (.cons _ (.refl _)) _)
      ·rw [hw0]
       have hel := extL_len (a := a) (i := i) (by omega)
       have hel1 := extL_len (a := a) (i := i + 1) hltE
       refine Ie.as 55 (g_.V (extL a i).length) rfl (by rw [hel]) ?_
       refine Ie.appendSl (R := RFld) (l0 := extL a i) (l := [⟨⟨⟨[]⟩⟩, p⟩]) (L := extL a (i + 1)) (g := g_) (cs := cs_) (extL_succ hp) (.tail .here) hF (by rw [hel]; exact hO) (Sl.single (R := RFld) (x := ⟨⟨⟨[]⟩⟩, p⟩) (b := b58) (c := 1) (el := 132) (g := false) (md := .plain) (mate := none) rfl rfl) (InH.sees (by intro p_ hp_; rw [List.mem_singleton.1 hp_]; exact List.mem_cons_self)) RFld.flats (by rw [hel]; simp; omega) rfl rfl rfl rfl Tryz.underlying47 Tryz.underlying47 ap132 rfl rfl (fun g1 cs1 hF1 hO1 => ?_)
       rw [hel1] at hO1
       refine Ie.as 59 (g1.V (i + 1)) rfl (by rw [hel1]) ?_
       refine Ie.P ?_
       refine Ie.nil (Ne.blk (Ne.seq (Ce.region (Ie.P ?_))))
       refine Ie.as 60 (.int .i64 (Int.ofNat (i + 1))) rfl (congrArg (Value.int .i64) (wr_succ (by omega))) ?_
       refine Ie.P ?_
       refine Ie.nil ?_
       exact Ne.loop (i + 1, g1, cs1, _) ⟨hltE, .inr ⟨Nat.succ_pos _, hL0, hF1, hO1, rfl⟩⟩ (by show a.elems.length - (i + 1) < a.elems.length - i; omega) ⟨rfl, rfl, rfl, rfl, rfl, rfl, rfl, rfl, rfl, trivial⟩ (List.Sublist.append_left (.cons _ (.refl _)) _)
     ·try simp only [nz] at ht52
      have hSw := FldQ.sl hQ (by omega) hLz k1
      obtain ⟨aw, cw, hwe, hnw, hlw⟩ := hSw
      rw [hwe] at hQ
      subst hwe
      refine Ce.exit (Xe.seq (Xe.loop (Xe.here (Ne.seq (Ce.seq ?_)))))
      refine Ce.joinA (True) [(68, .bool (decide (k < 0 ∨ ((fldL a L0).length : Int) ≤ k)))] ?_ (fun _ => ?_)
      ·refine Ce.region ?_
       iterate 3 refine Ie.P ?_
       refine Ie.splitB 63 rfl (fun hs_63 => ?_) (fun hs_63 => ?_)
       ·try simp only [nz] at hs_63
        refine Ie.O ?_
        refine Ie.O ?_
        refine Ie.O ?_
        refine Ie.O ?_
        refine Ie.P ?_
        refine Ie.nil ?_
        refine Ne.as 68 (.bool (decide (k < 0 ∨ ((fldL a L0).length : Int) ≤ k))) rfl (congrArg Value.bool (by apply bbx; simp only [nz, nb, reduceCtorEq, Classical.not_not]; (try simp only [shapeP, letterP, charP]); omega)) ?_
        exact Ne.J (trivial)
       ·try simp only [nz] at hs_63
        iterate 2 refine Ie.P ?_
        refine Ie.G (ln47 ..) ?_
        iterate 2 refine Ie.P ?_
        refine Ie.nil ?_
        refine Ne.as 68 (.bool (decide (k < 0 ∨ ((fldL a L0).length : Int) ≤ k))) rfl (congrArg Value.bool (by apply bbx; simp only [nz, nb, reduceCtorEq, Classical.not_not]; (try simp only [shapeP, letterP, charP]); omega)) ?_
        exact Ne.J (trivial)
      ·refine Ce.cond rfl (fun ht68 => ?_) (fun ht68 => ?_)
       ·try simp only [nz] at ht68
        refine Ce.seq (Ce.region ?_)
        refine Ie.p (v := .agg ⟨[.int .i64 0, .int .i64 0, .int .i64 0]⟩) rfl rfl rfl (by kernel_rfl) ?_
        refine Ie.store rfl rfl rfl rfl rfl sz64 rfl (by repeat first | exact .head | apply Upd.app | apply Upd.tail) rfl ?_
        refine Ie.P ?_
        refine Ie.nil (Ne.seq (Ce.ret (Re.seq ?_)))
        refine Re.endH rfl (.agg rfl ag64 sz64 (by repeat first | exact .head | exact .base ‹_› ‹_› (by simp) | refine .app ?_ | refine .tail ?_) (Nat.le_of_ble_eq_true rfl) rfl (.tmp rfl .nil)) ?_
        exact by first | exact (fun m hm => ⟨_, FieldP.bad he hne, rfl, hm.ext, News.nil _ _⟩) | exact (fun m hm => ⟨_, FieldP.good he ha hr0 hz (field_kind (by omega)), rfl, hm.ext, News.nil _ _⟩) | exact (fun m hm => ⟨_, FieldP.good he ha hr0 hz (field_none (by omega) hW), rfl, hm.ext, News.nil _ _⟩) | exact (fun m hm => ⟨_, FieldP.good he ha hr0 hz (field_out (by omega) hW (by assumption)), rfl, hm.ext, News.nil _ _⟩) | exact (fun m hm => ⟨_, FieldP.good he ha hr0 hz (field_at (by omega) hW hfk), (by rw [hqf0]; rfl), hm.ext, News.nil _ _⟩)
       ·try simp only [nz] at ht68
        obtain ⟨kk, rfl⟩ := Int.eq_ofNat_of_zero_le (show 0 ≤ k by omega)
        have hkl : kk < (fldL a L0).length := by omega
        obtain ⟨f, hfk⟩ : ∃ w_, (fldL a L0)[kk]? = some w_ := ⟨_, List.getElem?_eq_getElem hkl⟩
        have hSw := FldQ.sl hQ (by omega) hLz k1
        have hSk := Sl.take hSw (kk := kk) (by omega)
        obtain ⟨qf, hqf0, hqf⟩ := parts_ok_fld (hbd q a ha) (fun x hx => fld_parts hW hx) kk f hfk
        rcases hlw with ⟨e0, -⟩ | ⟨bw, offw, csw, elw, gw, mdw, matew, rfl, hbw, hlew, hcw⟩
        ·rw [e0] at hkl; simp at hkl
        have hrw := hcw kk f hfk
        refine Ce.skip (Ne.seq (Ce.seq (Ce.region (Ie.P ?_))))
        refine Ie.calln _ _ _ rfl rfl rfl rfl rfl rfl (fun m hm => newsizer_ok hm.lole rfl) (fun x _ => ?_)
        refine Ie.swap (h' := (x.1, .cells [.slice (some ⟨b, off, none⟩) l.length cl, .map (some x.2)] 157 false .plain none) :: (x.2, .map [] 0) :: (g_.H 132 cs_ ++ (zh ++ [(b11, .cells [.int .i64 a.kind, .slice ae a.elems.length ce, .string a.name, .slice af a.fields.length cf, .slice aa a.arms.length ca] 50 false .plain none), (b8, .cells [.int .i64 0, .int .i64 0, .int .i64 0] 64 false .plain none)]))) (List.Perm.refl _) ?_
        refine Ie.P ?_
        refine Ie.nil (Ne.seq (Ce.seq (Ce.region (Ie.P ?_))))
        refine Ie.nil (Ne.seq ?_)
        refine Ce.joinA (True) [(17, .int .i64 (if 0 < a.arms.length then 1 else 0))] ?_ (fun _ => ?_)
        ·refine Ce.seq (Ce.region (Ie.F fa50_4 ?_))
         refine Ie.load rfl rfl rfl rfl rfl ag48 (by repeat first | exact .head | exact .base ‹_› ‹_› (by simp) | refine .app ?_ | refine .tail ?_) rfl ?_
         refine Ie.G (ln48 ..) ?_
         refine Ie.P ?_
         refine Ie.nil (Ne.seq ?_)
         refine Ce.cond rfl (fun ht75 => ?_) (fun ht75 => ?_)
         ·try simp only [nz] at ht75
          refine Ce.region (Ie.P ?_)
          refine Ie.nil ?_
          refine Ne.as 17 (.int .i64 (if 0 < a.arms.length then 1 else 0)) rfl (congrArg (Value.int .i64) (by split <;> omega)) ?_
          exact Ne.J (trivial)
         ·try simp only [nz] at ht75
          refine Ce.skip ?_
          refine Ne.as 17 (.int .i64 (if 0 < a.arms.length then 1 else 0)) rfl (congrArg (Value.int .i64) (by split <;> omega)) ?_
          exact Ne.J (trivial)
        ·refine Ce.seq (Ce.region ?_)
         iterate 4 refine Ie.P ?_
         refine Ie.sliceTo (by omega) hnw.2 rfl rfl rfl rfl Tryz.underlying47 sz132 rfl rfl ?_
         refine Ie.callc (fun z => MapA sz z) (fun _ => .int .i64 (sumF sz ((fldL a L0).take kk))) (fun z => [(x.2, .map z.1 z.2)]) (.tail .one) rfl rfl rfl rfl rfl rfl (fun m2 g1 g2 => sfields_ok (x0 := ([], 0)) g1.lole' g2 (MapA.nil sz 0) ⟨Off.known g1 (.head _), hlS0.mono (Off.old g1) fun x_ cs_ h_ => RTy.mono (Off.old g1) x_ cs_ h_.1⟩ hwl hbd hz (hSk.mono (fun b o h => h.elim (fun h => Off.known g1 (.tail _ (List.mem_append_left _ h))) fun h => h.elim (fun h => Off.known g1 (.tail _ (List.mem_append_right _ (List.mem_append_left _ h)))) (Off.old g1 b o)) fun _ _ h => h) (fun j x_ hx_ => by obtain ⟨q2, e1, e2⟩ := parts_ok_fld (hbd q a ha) (fun x_ hx_ => fld_parts hW (List.mem_of_mem_take hx_)) j x_ hx_; exact ⟨q2, e1, e2, ssize_ok hwl hbd hz hr0 q2 e2⟩)) (fun y hy => ?_)
         refine Ie.P ?_
         refine Ie.as 82 (.int .i64 ((if 0 < a.arms.length then 1 else 0) + sumF sz ((fldL a L0).take kk))) rfl (congrArg (Value.int .i64) (wr_small (by have := sumF_range hz.ok ((fldL a L0).take kk); split <;> omega) (by have := sumF_range hz.ok ((fldL a L0).take kk); split <;> omega))) ?_
         refine Ie.P ?_
         refine Ie.nil (Ne.seq (Ce.seq ?_))
         refine Ce.draw [⟨0, .p, false, true, 0⟩, ⟨1, .p, true, true, 0⟩, ⟨2, .p, true, true, 0⟩, ⟨3, .p, true, true, 0⟩, ⟨4, .p, true, true, 12⟩, ⟨5, .p, true, true, 28⟩, ⟨6, .l, true, true, 60⟩, ⟨7, .h, true, true, 126⟩, ⟨8, .p, false, false, 0⟩, ⟨9, .p, false, false, 0⟩, ⟨10, .p, false, false, 768⟩, ⟨11, .p, false, false, 1792⟩, ⟨12, .l, false, false, 3840⟩, ⟨13, .p, true, true, 8191⟩, ⟨14, .h, true, true, 16383⟩, ⟨15, .p, true, true, 32767⟩] (by kernel_rfl) (by kernel_rfl) (fun base hbase hB => ?_)
         refine De.p rfl rfl rfl rfl rfl (De.p rfl rfl rfl rfl rfl (De.p rfl rfl rfl rfl rfl (De.p rfl rfl rfl rfl rfl ?_)))
         refine De.indexAddr rfl rfl rfl rfl rfl Tryz.underlying47 sz132 rfl rfl (hkl) ?_
         refine De.fieldAddr rfl rfl rfl rfl rfl rfl fa132_1 ?_
         refine De.load rfl rfl rfl rfl rfl rfl rfl rfl ag3 (hbw.elim (fun h => Sees.mem ((fun h => List.Mem.tail _ (List.Mem.tail _ h)) (List.mem_append_left _ h))) fun h => h.elim (fun h => Sees.mem ((fun h => List.Mem.tail _ (List.Mem.tail _ h)) (List.mem_append_right _ (List.mem_append_left _ h)))) fun h => Mem.sees rfl rfl _ _ h) (cell_of_take hrw (k := 1) rfl) ?_
         refine De.as 89 (.int .i64 (Int.ofNat qf)) rfl (congrArg (Value.int .i64) hqf0) ?_
         refine De.callc (fun z => MapA sz z) (fun _ => .int .i64 (szAt sz (Int.ofNat qf))) (fun z => [(x.2, .map z.1 z.2)]) .one rfl rfl (by kernel_rfl) (by kernel_rfl) rfl rfl rfl rfl rfl rfl (fun m2 g0 g2 gb gr => ssize_ok hwl hbd hz hr0 qf hqf m2 _ g0 g2 hy ⟨gr _ _ (.head _), hlS0.mono (fun b o h => gb b o ⟨h.1, List.not_mem_nil, h.2⟩) fun x_ cs_ h_ => RTy.mono (fun b o h => gb b o ⟨h.1, List.not_mem_nil, h.2⟩) x_ cs_ h_.1⟩) (fun y2 hy2 => ?_)
         refine DeW.p rfl rfl rfl rfl rfl (DeW.p rfl rfl rfl rfl rfl ?_)
         refine DeW.indexAddr rfl rfl rfl rfl rfl Tryz.underlying47 sz132 rfl rfl (hkl) ?_
         refine DeW.fieldAddr rfl rfl rfl rfl rfl rfl fa132_1 ?_
         refine DeW.load rfl rfl rfl rfl rfl rfl ag3 (hbw.elim (fun h => Sees.mem ((fun h => List.Mem.tail _ (List.Mem.tail _ h)) (List.mem_append_left _ h))) fun h => h.elim (fun h => Sees.mem ((fun h => List.Mem.tail _ (List.Mem.tail _ h)) (List.mem_append_right _ (List.mem_append_left _ h)))) fun h => Mem.sees rfl rfl _ _ h) (cell_of_take hrw (k := 1) rfl) (hbw.elim (fun h => hB _ _ (List.Mem.tail _ (List.Mem.tail _ (List.mem_append_left _ h)))) fun h => h.elim (fun h => hB _ _ (List.Mem.tail _ (List.Mem.tail _ (List.mem_append_right _ (List.mem_append_left _ h))))) fun h => Nat.lt_of_lt_of_le h.1 hbase) (fun c hc_ => by obtain rfl := List.mem_singleton.1 hc_; exact ⟨_, .head _, by intro h_; cases h_⟩) ?_
         refine DeW.of ?_
         refine De.p (v := .agg ⟨[.int .i64 ((if 0 < a.arms.length then 1 else 0) + sumF sz ((fldL a L0).take kk)), .int .i64 (szAt sz (Int.ofNat qf)), .int .i64 f.type]⟩) rfl rfl rfl rfl (by kernel_rfl) ?_
         refine De.store rfl rfl (by kernel_rfl) (by kernel_rfl) rfl rfl rfl rfl rfl sz64 rfl (by repeat first | exact .head | apply Upd.app | apply Upd.tail) rfl ?_
         refine De.p rfl rfl rfl rfl rfl (De.nil (Ne.seq (Ce.ret ?_)))
         refine Re.endH rfl (.agg rfl ag64 sz64 (by repeat first | exact .head | exact .base ‹_› ‹_› (by simp) | refine .app ?_ | refine .tail ?_) (Nat.le_of_ble_eq_true rfl) rfl (.tmp rfl .nil)) ?_
         exact by first | exact (fun m hm => ⟨_, FieldP.bad he hne, rfl, hm.ext, News.nil _ _⟩) | exact (fun m hm => ⟨_, FieldP.good he ha hr0 hz (field_kind (by omega)), rfl, hm.ext, News.nil _ _⟩) | exact (fun m hm => ⟨_, FieldP.good he ha hr0 hz (field_none (by omega) hW), rfl, hm.ext, News.nil _ _⟩) | exact (fun m hm => ⟨_, FieldP.good he ha hr0 hz (field_out (by omega) hW (by assumption)), rfl, hm.ext, News.nil _ _⟩) | exact (fun m hm => ⟨_, FieldP.good he ha hr0 hz (field_at (by omega) hW hfk), (by rw [hqf0]; rfl), hm.ext, News.nil _ _⟩)

theorem rField_ok {l : List Ty} {vl : Value} {q : Nat} {a : Ty} {k : Int} {s : ByteArray} {r : Nat → Nat} {sz : List Int} {m : AW} (hm : m.lo ≤ m.next) (hlS : Sl (Mem m) 5 (RTy (Mem m)) l vl) (hwl : ∀ (i : Nat) (a : Ty), l[i]? = some a → FewT a) (hbd : ∀ (i : Nat) (a : Ty), l[i]? = some a → badB l.length a = false) (hn14 : l.length ≤ 14) (hr0 : Ranked l r) (hrn : ∀ u, r u ≤ l.length) (hz : SzFix l sz) (hWl : Well l) (ha : l[q]? = some a) : Fc Tryz.prog 37 [vl, .int .i64 (Int.ofNat (q)), .string s, .int .i64 k] m fun v m' => ∃ x : R4, x = fieldR a s k sz ∧ v = .tuple ⟨[.int .i64 x.1, .int .i64 x.2.1, .int .i64 x.2.2.1, .int .i64 x.2.2.2]⟩ ∧ Ext m m' ∧ News m m' [] := by
 have hlS0 := hlS
 obtain ⟨al, cl, rfl, hnl, hl⟩ := hlS
 have hq : q < l.length := (List.getElem?_eq_some_iff.1 ha).1
 rcases hl with ⟨e0, -⟩ | ⟨b, off, cs, el, g, md, mate, rfl, ⟨hb, hh⟩, hle, hc⟩
 ·rw [e0] at hq; simp at hq
 have hr := hc q a ha
 obtain ⟨ve, vf, va, hr, he_, hf_, hga⟩ := hr
 have hraS : RTy (Mem m) a [.int .i64 a.kind, ve, .string a.name, vf, va] := ⟨ve, vf, va, rfl, he_, hf_, hga⟩
 obtain ⟨ae, ce, rfl, hne, he_⟩ := he_
 obtain ⟨af, cf, rfl, hnf, hf_⟩ := hf_
 obtain ⟨aa, ca, rfl, hna, hga⟩ := hga
 have hw := hwl q a ha
 have k1 := hw.elems
 have hshp := (single_zero (hWl.all q a ha)).1
 refine Fc.body (c := _) Tryz.func37 rfl rfl rfl rfl hm ?_
 refine Ce.seq (Ce.region ?_)
 iterate 4 refine Ie.P ?_
 refine Ie.nil (Ne.seq (Ce.seq (Ce.region ?_)))
 iterate 2 refine Ie.P ?_
 refine Ie.K Tryz.underlying22 sz50 ?_
 refine Ie.loadAgg rfl rfl rfl rfl rfl ag50 sz50 (.base hh hb (by simp)) (by omega) hr ?_
 refine Ie.alloc rfl rfl rfl rfl zr50 (fun b12 hb12 => ?_)
 refine Ie.store rfl rfl rfl rfl rfl sz50 rfl (by first | exact .head | exact .tail .head | exact .tail (.tail .head) | exact .tail (.tail (.tail .head)) | exact updo) rfl ?_
 refine Ie.nil (Ne.seq (Ce.seq ?_))
 refine Ce.joinA (True) [(28, .bool (decide (a.kind ≠ 10 ∧ a.kind ≠ 11)))] ?_ (fun _ => ?_)
 ·refine Ce.region (Ie.F fa50_0 ?_)
  refine Ie.load rfl rfl rfl rfl rfl ag3 (by repeat first | exact .head | exact .base ‹_› ‹_› (by simp) | refine .app ?_ | refine .tail ?_) rfl ?_
  iterate 2 refine Ie.P ?_
  refine Ie.splitB 24 rfl (fun hs_24 => ?_) (fun hs_24 => ?_)
  ·try simp only [nz] at hs_24
   refine Ie.F fa50_0 ?_
   refine Ie.load rfl rfl rfl rfl rfl ag3 (by repeat first | exact .head | exact .base ‹_› ‹_› (by simp) | refine .app ?_ | refine .tail ?_) rfl ?_
   iterate 2 refine Ie.P ?_
   refine Ie.nil ?_
   refine Ne.as 28 (.bool (decide (a.kind ≠ 10 ∧ a.kind ≠ 11))) rfl (congrArg Value.bool (by apply bbx; simp only [nz, nb, reduceCtorEq, Classical.not_not]; (try simp only [shapeP, letterP, charP]); omega)) ?_
   exact Ne.J (trivial)
  ·try simp only [nz] at hs_24
   refine Ie.O ?_
   refine Ie.O ?_
   refine Ie.O ?_
   refine Ie.P ?_
   refine Ie.nil ?_
   refine Ne.as 28 (.bool (decide (a.kind ≠ 10 ∧ a.kind ≠ 11))) rfl (congrArg Value.bool (by apply bbx; simp only [nz, nb, reduceCtorEq, Classical.not_not]; (try simp only [shapeP, letterP, charP]); omega)) ?_
   exact Ne.J (trivial)
 ·refine Ce.cond rfl (fun ht28 => ?_) (fun ht28 => ?_)
  ·try simp only [nz] at ht28
   refine Ce.seq (Ce.region ?_)
   iterate 4 refine Ie.P ?_
   refine Ie.nil (Ne.seq (Ce.ret (Re.seq ?_)))
   exact Re.end_ rfl rfl (by first | exact (fun m hm => ⟨_, (field_kind (by omega)).symm, rfl, hm.ext, News.nil _ _⟩) | exact (fun m hm => ⟨_, (field_none (by omega) hW).symm, rfl, hm.ext, News.nil _ _⟩) | exact (fun m hm => ⟨_, (field_out (by omega) hW (by assumption)).symm, rfl, hm.ext, News.nil _ _⟩) | exact (fun m hm => ⟨_, (field_at (by omega) hW hfk).symm, (by simp only [hqf0]; rw [szAt_get hsf]; rfl), hm.ext, News.nil _ _⟩))
  ·try simp only [nz] at ht28
   refine Ce.skip (Ne.seq (Ce.seq (Ce.region ?_)))
   refine Ie.loadAgg rfl rfl rfl rfl rfl ag50 sz50 (by repeat first | exact .head | exact .base ‹_› ‹_› (by simp) | refine .app ?_ | refine .tail ?_) (Nat.le_of_ble_eq_true rfl) rfl ?_
   refine Ie.P ?_
   refine Ie.calln _ _ _ rfl rfl rfl rfl rfl rfl (fun m hm => rwith_ok (t := a) (s := s) hm.lole (RTy.mono (Mem.kr hm) _ _ hraS) hw) (fun z hzw => ?_)
   obtain ⟨zh, w0⟩ := z
   iterate 5 refine Ie.P ?_
   refine Ie.nil (Ne.seq (Ce.seq (Ce.seq (Ce.region ?_))))
   iterate 2 refine Ie.P ?_
   refine Ie.nil (Ne.seq ?_)
   refine Ce.cond rfl (fun ht36 => ?_) (fun ht36 => ?_)
   ·have hW := arm_no ht36
    refine Ce.seq (Ce.region ?_)
    iterate 4 refine Ie.P ?_
    refine Ie.nil (Ne.seq (Ce.ret (Re.seq ?_)))
    exact Re.end_ rfl rfl (by first | exact (fun m hm => ⟨_, (field_kind (by omega)).symm, rfl, hm.ext, News.nil _ _⟩) | exact (fun m hm => ⟨_, (field_none (by omega) hW).symm, rfl, hm.ext, News.nil _ _⟩) | exact (fun m hm => ⟨_, (field_out (by omega) hW (by assumption)).symm, rfl, hm.ext, News.nil _ _⟩) | exact (fun m hm => ⟨_, (field_at (by omega) hW hfk).symm, (by simp only [hqf0]; rw [szAt_get hsf]; rfl), hm.ext, News.nil _ _⟩))
   ·obtain ⟨L0, hW⟩ := arm_some ht36
    obtain ⟨hLz, hTq⟩ := hzw.1 L0 hW
    simp only at hLz hTq
    refine Ce.skip (Ne.seq (Ce.seq (Ce.seq (Ce.region (Ie.P ?_)))))
    refine Ie.nil (Ne.seq (Ce.block ?_))
   
    refine Ce.loop (α := Nat × Gro × List Value × Value) (fun q => [(0, .slice (some ⟨b, off, none⟩) l.length cl), (3, .int .i64 k), (12, ptr b12), (13, q.2.2.2), (15, .int .i64 (Int.ofNat (q.1)))]) (fun q => q.2.1.H 132 q.2.2.1 ++ (zh ++ [(b12, .cells [.int .i64 a.kind, .slice ae a.elems.length ce, .string a.name, .slice af a.fields.length cf, .slice aa a.arms.length ca] 50 false .plain none)])) (FldQ a L0 w0) (fun q => a.elems.length - q.1) (0, .no, [], w0) ⟨Nat.zero_le _, .inl ⟨rfl, rfl, rfl, rfl⟩⟩ ⟨rfl, rfl, rfl, rfl, rfl, trivial⟩ (.refl _) (fun q hq0 => ?_)
    obtain ⟨i, g_, cs_, w⟩ := q
    have hQ := hq0
    obtain ⟨hi, hor⟩ := hq0
    simp only at hi hor
    refine Ce.seq (Ce.seq (Ce.region (Ie.P ?_)))
    refine Ie.F fa50_1 ?_
    refine Ie.load rfl rfl rfl rfl rfl ag32 (by repeat first | exact .head | exact .base ‹_› ‹_› (by simp) | refine .app ?_ | refine .tail ?_) rfl ?_
    refine Ie.G (ln32 ..) ?_
    refine Ie.P ?_
    refine Ie.nil (Ne.seq ?_)
    refine Ce.cond rfl (fun ht41 => ?_) (fun ht41 => ?_)
    ·try simp only [nz] at ht41
     have hltE : i < a.elems.length := by omega
     obtain ⟨p, hp⟩ : ∃ w_, a.elems[i]? = some w_ := ⟨_, List.getElem?_eq_getElem hltE⟩
     rcases he_ with ⟨e0, -⟩ | ⟨bE, offE, csE, elE, gE, mdE, mateE, rfl, ⟨hbE, hhE⟩, hleE, hcE⟩
     ·rw [e0] at hltE; simp at hltE
     have hrp := hcE i p hp
     refine Ce.skip (Ne.seq (Ce.seq (Ce.block (Ce.region (Ie.P ?_)))))
     refine Ie.F fa50_1 ?_
     refine Ie.load rfl rfl rfl rfl rfl ag32 (by repeat first | exact .head | exact .base ‹_› ‹_› (by simp) | refine .app ?_ | refine .tail ?_) rfl ?_
     refine Ie.P ?_
     refine Ie.K Tryz.underlying32 sz3 ?_
     refine Ie.M ag3 (.base hhE hbE (by simp)) (cell_of_take hrp (k := 0) rfl) ?_
     refine Ie.p (v := .agg ⟨[.string ⟨⟨[]⟩⟩, .int .i64 p]⟩) rfl rfl rfl (by kernel_rfl) ?_
     refine Ie.buildSlice rfl rfl rfl rfl rfl (bs47_1 ..) (fun b51 hb51 => ?_)
     rcases hor with ⟨hi0, hg0, hc0, hw0⟩ | ⟨hi0, hL0, hF, hO, hw0⟩
     ·subst hg0 hc0
      rw [hw0]
      have hL0 := shape_elems hshp (by omega) (by omega) hW
      refine Ie.appendTight (R := RFld) (x0 := ⟨⟨⟨[]⟩⟩, p⟩) ((hTq (by rw [hL0]; rfl)).imp id fun ⟨b_, e1_, e2_⟩ => ⟨b_, .plain, none, e1_, Sees.mem (.tail _ (List.mem_append_right _ (List.mem_append_left _ e2_)))⟩) (Sl.single (R := RFld) (x := ⟨⟨⟨[]⟩⟩, p⟩) (b := b51) (c := 1) (el := 132) (g := false) (md := .plain) (mate := none) rfl rfl) (InH.sees (by intro p_ hp_; rw [List.mem_singleton.1 hp_]; exact List.mem_cons_self)) RFld.flats rfl rfl rfl rfl Tryz.underlying47 Tryz.underlying47 ap132 rfl rfl (fun g1 cs1 hF1 hO1 => ?_)
      have hF1 : Flat 2 RFld (extL a (i + 1)) cs1 := by rw [← extL_succ hp, hi0]; exact hF1
      have hO1 : g1.Ok (i + 1) := by rw [hi0]; exact hO1
      refine Ie.as 52 (g1.V (i + 1)) rfl (by rw [hi0]) ?_
      refine Ie.P ?_
      refine Ie.nil (Ne.blk (Ne.seq (Ce.region ?_)))
      iterate 2 refine Ie.P ?_
      refine Ie.as 43 (.int .i64 (Int.ofNat (i + 1))) rfl (congrArg (Value.int .i64) (wr_succ (by omega))) ?_
      refine Ie.P ?_
      refine Ie.nil ?_
      exact Ne.loop (i + 1, g1, cs1, _) ⟨hltE, .inr ⟨Nat.succ_pos _, hL0, hF1, hO1, rfl⟩⟩ (by show a.elems.length - (i + 1) < a.elems.length - i; omega) ⟨rfl, rfl, rfl, rfl, rfl, trivial⟩ (List.Sublist.append_left (.cons _ (.refl _)) _)
     ·rw [hw0]
      have hel := extL_len (a := a) (i := i) (by omega)
      have hel1 := extL_len (a := a) (i := i + 1) hltE
      refine Ie.as 44 (g_.V (extL a i).length) rfl (by rw [hel]) ?_
      refine Ie.appendSl (R := RFld) (l0 := extL a i) (l := [⟨⟨⟨[]⟩⟩, p⟩]) (L := extL a (i + 1)) (g := g_) (cs := cs_) (extL_succ hp) (.tail .here) hF (by rw [hel]; exact hO) (Sl.single (R := RFld) (x := ⟨⟨⟨[]⟩⟩, p⟩) (b := b51) (c := 1) (el := 132) (g := false) (md := .plain) (mate := none) rfl rfl) (InH.sees (by intro p_ hp_; rw [List.mem_singleton.1 hp_]; exact List.mem_cons_self)) RFld.flats (by rw [hel]; simp; omega) rfl rfl rfl rfl Tryz.underlying47 Tryz.underlying47 ap132 rfl rfl (fun g1 cs1 hF1 hO1 => ?_)
      rw [hel1] at hO1
      refine Ie.as 52 (g1.V (i + 1)) rfl (by rw [hel1]) ?_
      refine Ie.P ?_
      refine Ie.nil (Ne.blk (Ne.seq (Ce.region ?_)))
      iterate 2 refine Ie.P ?_
      refine Ie.as 43 (.int .i64 (Int.ofNat (i + 1))) rfl (congrArg (Value.int .i64) (wr_succ (by omega))) ?_
      refine Ie.P ?_
      refine Ie.nil ?_
      exact Ne.loop (i + 1, g1, cs1, _) ⟨hltE, .inr ⟨Nat.succ_pos _, hL0, hF1, hO1, rfl⟩⟩ (by show a.elems.length - (i + 1) < a.elems.length - i; omega) ⟨rfl, rfl, rfl, rfl, rfl, trivial⟩ (List.Sublist.append_left (.cons _ (.refl _)) _)
    ·try simp only [nz] at ht41
     have hSw := FldQ.sl hQ (by omega) hLz k1
     obtain ⟨aw, cw, hwe, hnw, hlw⟩ := hSw
     rw [hwe] at hQ
     subst hwe
     refine Ce.exit (Xe.seq (Xe.loop (Xe.here (Ne.seq (Ce.seq ?_)))))
     refine Ce.joinA (True) [(60, .bool (decide (k < 0 ∨ ((fldL a L0).length : Int) ≤ k)))] ?_ (fun _ => ?_)
     ·refine Ce.region ?_
      iterate 3 refine Ie.P ?_
      refine Ie.splitB 55 rfl (fun hs_55 => ?_) (fun hs_55 => ?_)
      ·try simp only [nz] at hs_55
       refine Ie.O ?_
       refine Ie.O ?_
       refine Ie.O ?_
       refine Ie.O ?_
       refine Ie.P ?_
       refine Ie.nil ?_
       refine Ne.as 60 (.bool (decide (k < 0 ∨ ((fldL a L0).length : Int) ≤ k))) rfl (congrArg Value.bool (by apply bbx; simp only [nz, nb, reduceCtorEq, Classical.not_not]; (try simp only [shapeP, letterP, charP]); omega)) ?_
       exact Ne.J (trivial)
      ·try simp only [nz] at hs_55
       iterate 2 refine Ie.P ?_
       refine Ie.G (ln47 ..) ?_
       iterate 2 refine Ie.P ?_
       refine Ie.nil ?_
       refine Ne.as 60 (.bool (decide (k < 0 ∨ ((fldL a L0).length : Int) ≤ k))) rfl (congrArg Value.bool (by apply bbx; simp only [nz, nb, reduceCtorEq, Classical.not_not]; (try simp only [shapeP, letterP, charP]); omega)) ?_
       exact Ne.J (trivial)
     ·refine Ce.cond rfl (fun ht60 => ?_) (fun ht60 => ?_)
      ·try simp only [nz] at ht60
       refine Ce.seq (Ce.region ?_)
       iterate 4 refine Ie.P ?_
       refine Ie.nil (Ne.seq (Ce.ret (Re.seq ?_)))
       exact Re.end_ rfl rfl (by first | exact (fun m hm => ⟨_, (field_kind (by omega)).symm, rfl, hm.ext, News.nil _ _⟩) | exact (fun m hm => ⟨_, (field_none (by omega) hW).symm, rfl, hm.ext, News.nil _ _⟩) | exact (fun m hm => ⟨_, (field_out (by omega) hW (by assumption)).symm, rfl, hm.ext, News.nil _ _⟩) | exact (fun m hm => ⟨_, (field_at (by omega) hW hfk).symm, (by simp only [hqf0]; rw [szAt_get hsf]; rfl), hm.ext, News.nil _ _⟩))
      ·try simp only [nz] at ht60
       obtain ⟨kk, rfl⟩ := Int.eq_ofNat_of_zero_le (show 0 ≤ k by omega)
       have hkl : kk < (fldL a L0).length := by omega
       obtain ⟨f, hfk⟩ : ∃ w_, (fldL a L0)[kk]? = some w_ := ⟨_, List.getElem?_eq_getElem hkl⟩
       have hSw := FldQ.sl hQ (by omega) hLz k1
       have hSk := Sl.take hSw (kk := kk) (by omega)
       obtain ⟨qf, hqf0, hqf⟩ := parts_ok_fld (hbd q a ha) (fun x hx => fld_parts hW hx) kk f hfk
       obtain ⟨sf, hsf⟩ : ∃ s, sz[qf]? = some s := ⟨_, List.getElem?_eq_getElem (by rw [hz.len]; exact hqf)⟩
       rcases hlw with ⟨e0, -⟩ | ⟨bw, offw, csw, elw, gw, mdw, matew, rfl, hbw, hlew, hcw⟩
       ·rw [e0] at hkl; simp at hkl
       have hrw := hcw kk f hfk
       refine Ce.skip (Ne.seq (Ce.seq (Ce.region (Ie.P ?_))))
       refine Ie.calln _ _ _ rfl rfl rfl rfl rfl rfl (fun m hm => rsizes_ok hm.lole (hlS0.mono (Mem.kr hm) (RTy.mono (Mem.kr hm))) hwl hbd hn14 hr0 hrn hz) (fun bz _ => ?_)
       refine Ie.swap (h' := (bz, .cells (ints sz) 3 false .plain none) :: (g_.H 132 cs_ ++ (zh ++ [(b12, .cells [.int .i64 a.kind, .slice ae a.elems.length ce, .string a.name, .slice af a.fields.length cf, .slice aa a.arms.length ca] 50 false .plain none)]))) (List.Perm.refl _) ?_
       refine Ie.P ?_
       refine Ie.nil (Ne.seq (Ce.seq ?_))
       refine Ce.draw [⟨0, .l, true, true, 0⟩, ⟨1, .h, true, true, 1⟩, ⟨2, .p, false, false, 0⟩, ⟨3, .p, false, false, 0⟩, ⟨4, .p, false, false, 0⟩, ⟨5, .p, false, false, 24⟩, ⟨6, .h, true, true, 63⟩, ⟨7, .p, true, true, 127⟩, ⟨8, .p, false, false, 0⟩, ⟨9, .p, false, false, 0⟩, ⟨10, .p, false, false, 0⟩, ⟨11, .p, false, false, 1536⟩, ⟨12, .p, false, false, 3584⟩, ⟨13, .l, false, false, 7680⟩, ⟨14, .p, false, false, 16128⟩, ⟨15, .l, false, false, 32512⟩, ⟨16, .p, false, false, 0⟩, ⟨17, .p, false, false, 0⟩, ⟨18, .p, false, false, 196608⟩, ⟨19, .p, false, false, 458752⟩, ⟨20, .l, false, false, 983040⟩, ⟨21, .p, true, true, 255⟩, ⟨22, .p, true, true, 2162687⟩, ⟨23, .p, true, true, 8388607⟩, ⟨24, .p, true, true, 16777215⟩] (by kernel_rfl) (by kernel_rfl) (fun base hbase hB => ?_)
       refine De.loadAgg rfl rfl rfl rfl rfl rfl rfl rfl ag50 sz50 (by repeat first | exact .head | exact .base ‹_› ‹_› (by simp) | refine .app ?_ | refine .tail ?_) (Nat.le_of_ble_eq_true rfl) rfl ?_
       have hbwb : bw < base := hbw.elim (fun h => hB _ _ (List.Mem.tail _ (List.mem_append_left _ h))) fun h => hB _ _ (List.Mem.tail _ (List.mem_append_right _ (List.mem_append_left _ h)))
       refine De.call _ rfl rfl rfl rfl rfl rfl rfl rfl rfl (fun m hm => rtag_ok hm.lole (RTy.mono (Mem.kr hm) _ _ hraS)) ?_
       refine De.p rfl rfl rfl rfl rfl (De.p rfl rfl rfl rfl rfl (De.p rfl rfl rfl rfl rfl ?_))
       refine De.sliceTo (by omega) hnw.2 rfl rfl rfl rfl rfl Tryz.underlying47 sz132 rfl rfl ?_
       refine De.call _ rfl rfl rfl rfl rfl rfl rfl rfl rfl (fun m hm => rsum_ok hm.lole (ints_sl (l := sz) (⟨(hm.has _ _ (.head _)).2, (hm.has _ _ (.head _)).1⟩ : Mem _ _ _) hz.len hnl.1) (hSk.mono (fun b o h => h.elim (fun h => ⟨(hm.has b o (.tail _ (List.mem_append_left _ h))).2, (hm.has b o (.tail _ (List.mem_append_left _ h))).1⟩) fun h => ⟨(hm.has b o (.tail _ (List.mem_append_right _ (List.mem_append_left _ h)))).2, (hm.has b o (.tail _ (List.mem_append_right _ (List.mem_append_left _ h)))).1⟩) fun _ _ h => h) hz.ok (fun j x_ hx_ => by obtain ⟨q2, e1, e2⟩ := parts_ok_fld (hbd q a ha) (fun x_ hx_ => fld_parts hW (List.mem_of_mem_take hx_)) j x_ hx_; exact ⟨q2, e1, by rw [hz.len]; exact e2⟩)) ?_
       refine De.p rfl rfl rfl rfl rfl ?_
       refine De.as 70 (.int .i64 ((if 0 < a.arms.length then 1 else 0) + sumF sz ((fldL a L0).take kk))) rfl (congrArg (Value.int .i64) (wr_small (by have := sumF_range hz.ok ((fldL a L0).take kk); split <;> omega) (by have := sumF_range hz.ok ((fldL a L0).take kk); split <;> omega))) ?_
       refine De.p rfl rfl rfl rfl rfl (De.p rfl rfl rfl rfl rfl (De.p rfl rfl rfl rfl rfl ?_))
       refine De.indexAddr rfl rfl rfl rfl rfl Tryz.underlying47 sz132 rfl rfl (hkl) ?_
       refine De.fieldAddr rfl rfl rfl rfl rfl rfl fa132_1 ?_
       refine De.loadOld rfl rfl rfl rfl rfl rfl ag3 (hbw.elim (fun h => Sees.mem ((fun h => List.Mem.tail _ h) (List.mem_append_left _ h))) fun h => Sees.mem ((fun h => List.Mem.tail _ h) (List.mem_append_right _ (List.mem_append_left _ h)))) (cell_of_take hrw (k := 1) rfl) (by first | exact hbwb | exact hB _ _ (.head _) | exact hB _ _ (.tail _ (List.mem_append_right _ (List.mem_append_right _ (.head _))))) ?_
       refine De.as 76 (.int .i64 (Int.ofNat qf)) rfl (congrArg (Value.int .i64) hqf0) ?_
       refine De.indexAddr rfl rfl rfl rfl rfl Tryz.underlying32 sz3 rfl rfl (hqf) ?_
       refine De.loadOld rfl rfl rfl rfl rfl rfl ag3 (by repeat first | exact .head | exact .base ‹_› ‹_› (by simp) | refine .app ?_ | refine .tail ?_) (map_cell hsf) (by first | exact hbwb | exact hB _ _ (.head _) | exact hB _ _ (.tail _ (List.mem_append_right _ (List.mem_append_right _ (.head _))))) ?_
       refine De.p rfl rfl rfl rfl rfl (De.p rfl rfl rfl rfl rfl ?_)
       refine De.indexAddr rfl rfl rfl rfl rfl Tryz.underlying47 sz132 rfl rfl (hkl) ?_
       refine De.fieldAddr rfl rfl rfl rfl rfl rfl fa132_1 ?_
       refine De.loadOld rfl rfl rfl rfl rfl rfl ag3 (hbw.elim (fun h => Sees.mem ((fun h => List.Mem.tail _ h) (List.mem_append_left _ h))) fun h => Sees.mem ((fun h => List.Mem.tail _ h) (List.mem_append_right _ (List.mem_append_left _ h)))) (cell_of_take hrw (k := 1) rfl) (by first | exact hbwb | exact hB _ _ (.head _) | exact hB _ _ (.tail _ (List.mem_append_right _ (List.mem_append_right _ (.head _))))) ?_
       refine De.p rfl rfl rfl rfl rfl (De.p rfl rfl rfl rfl rfl (De.p rfl rfl rfl rfl rfl (De.p rfl rfl rfl rfl rfl (De.nil (Ne.seq (Ce.ret ?_))))))
       exact Re.end_ rfl rfl (by first | exact (fun m hm => ⟨_, (field_kind (by omega)).symm, rfl, hm.ext, News.nil _ _⟩) | exact (fun m hm => ⟨_, (field_none (by omega) hW).symm, rfl, hm.ext, News.nil _ _⟩) | exact (fun m hm => ⟨_, (field_out (by omega) hW (by assumption)).symm, rfl, hm.ext, News.nil _ _⟩) | exact (fun m hm => ⟨_, (field_at (by omega) hW hfk).symm, (by simp only [hqf0]; rw [szAt_get hsf]; rfl), hm.ext, News.nil _ _⟩))

theorem place_fld (d : Nat) (n : Int) : eqA Tryz.prog (d + 1) 3 (.int .i64 n) (.int .i64 n) = some true := by
 unfold eqA
 simp only [Tryz.underlying3]
 show eqBase _ _ = _
 unfold eqBase
 simp [eqI_eq]
theorem place_part (a b c : Int) : partA Tryz.prog 3 [.int .i64 a, .int .i64 b, .int .i64 c] 0 = some (.int .i64 a) ∧ partA Tryz.prog 3 [.int .i64 a, .int .i64 b, .int .i64 c] 1 = some (.int .i64 b) ∧ partA Tryz.prog 3 [.int .i64 a, .int .i64 b, .int .i64 c] 2 = some (.int .i64 c) := ⟨by kernel_rfl, by kernel_rfl, by kernel_rfl⟩
theorem place_held : Tryz.prog.stoodInHeld 64 = false := by kernel_rfl
theorem place_eqA (a b c : Int) : eqA Tryz.prog 10000 64 (.agg ⟨[.int .i64 a, .int .i64 b, .int .i64 c]⟩) (.agg ⟨[.int .i64 a, .int .i64 b, .int .i64 c]⟩) = some true := by
 obtain ⟨h0, h1, h2⟩ := place_part a b c
 rw [show (10000 : Nat) = 9998 + 1 + 1 from rfl]
 unfold eqA
 simp only [Tryz.underlying64, place_held, cond_false]
 simp [eqFields, h0, h1, h2, place_fld]
theorem place_eq (xo yo : Operand) (a b c : Int) : binS Tryz.prog .eql 64 xo yo (.agg ⟨[.int .i64 a, .int .i64 b, .int .i64 c]⟩) (.agg ⟨[.int .i64 a, .int .i64 b, .int .i64 c]⟩) = some (.bool true) := by
 have h : binA Tryz.prog .eql 64 xo yo (.agg ⟨[.int .i64 a, .int .i64 b, .int .i64 c]⟩) (.agg ⟨[.int .i64 a, .int .i64 b, .int .i64 c]⟩) = some (.bool true) := by
  unfold binA
  simp only
  unfold binEq
  have hg : (guardOk Tryz.prog 64 xo yo (.agg ⟨[.int .i64 a, .int .i64 b, .int .i64 c]⟩) (.agg ⟨[.int .i64 a, .int .i64 b, .int .i64 c]⟩) && (notSym (.agg ⟨[.int .i64 a, .int .i64 b, .int .i64 c]⟩) && notSym (.agg ⟨[.int .i64 a, .int .i64 b, .int .i64 c]⟩))) = true := by kernel_rfl
  rw [hg]
  simp only [cond_true, place_eqA]
  rfl
 unfold binS
 rw [h]

theorem SizeP.bad {l : List Ty} {t e : Int} {x : Int × Int} (h : SizeP l t x) (he : AskP l [t] e) (hne : e ≠ 0) : x.2 = e ∧ x.1 = 0 := by
 have h1 := h.1.uniq he
 exact ⟨h1, h.2.1 (by rw [h1]; exact hne)⟩
theorem SizeP.good {l : List Ty} {t : Int} {x : Int × Int} {r : Nat → Nat} {sz : List Int} (hb : Sound8 l) (h : SizeP l t x) (he : AskP l [t] 0) (hr : Ranked l r) (hz : SzFix l sz) : x.2 = 0 ∧ x.1 = szAt sz t := by
 have h1 := h.1.uniq he
 obtain ⟨r', sz', hr', hz', h2⟩ := h.2.2 h1
 exact ⟨h1, by rw [h2, hz.uniq hb hr hz']⟩
theorem FieldP.isBad {l : List Ty} {t k e : Int} {s : ByteArray} {x : R4} (h : FieldP l t s k x) (he : AskP l [t] e) (hne : e ≠ 0) : x = (0, 0, 0, e) := by
 obtain ⟨e', h1, h2⟩ := h
 have h3 := h1.uniq he
 subst h3
 rcases h2 with ⟨_, h2⟩ | ⟨h2, _⟩
 ·exact h2
 ·exact absurd h2 hne
theorem FieldP.isGood {l : List Ty} {k : Int} {s : ByteArray} {x : R4} {q : Nat} {a : Ty} {r : Nat → Nat} {sz : List Int} (hb : Sound8 l) (h : FieldP l (Int.ofNat q) s k x) (he : AskP l [Int.ofNat q] 0) (ha : l[q]? = some a) (hr : Ranked l r) (hz : SzFix l sz) : x = fieldR a s k sz := by
 obtain ⟨e', h1, h2⟩ := h
 have h3 := h1.uniq he
 subst h3
 rcases h2 with ⟨h2, _⟩ | ⟨_, q', a', r', sz', e1, e2, e3, e4, e5⟩
 ·exact absurd rfl h2
 ·cases e1
  rw [ha] at e2
  cases e2
  rw [e5, hz.uniq hb hr e4]

theorem places_ok {l : List Ty} {vl : Value} {t k : Int} {s n : ByteArray} {m : AW} (hm : m.lo ≤ m.next) (hlS : Sl (Mem m) 5 (RTy (Mem m)) l vl) : Fc Tryz.prog 8 [vl, .agg ⟨[.int .i64 t, .string s, .int .i64 k, .string n]⟩] m fun v m' => v = .bool true ∧ Ext m m' := by
 have hlS0 := hlS
 obtain ⟨al, cl, rfl, hnl, hl⟩ := hlS
 refine Fc.body (c := _) Tryz.func8 rfl rfl rfl rfl hm ?_
 refine Ce.seq (Ce.region ?_)
 refine Ie.box rfl rfl rfl rfl rfl (fun b3 hb3 => ?_)
 refine Ie.P ?_
 refine Ie.nil (Ne.seq (Ce.seq (Ce.seq (Ce.region ?_))))
 refine Ie.call _ rfl rfl rfl rfl rfl rfl (fun m hm => awake_ok) ?_
 iterate 3 refine Ie.P ?_
 refine Ie.call _ rfl rfl rfl rfl rfl rfl (fun m hm => few_ok hm.lole (hlS0.mono (Mem.kr hm) (RTy.mono (Mem.kr hm)))) ?_
 iterate 3 refine Ie.P ?_
 refine Ie.splitB 25 rfl (fun hs_25 => ?_) (fun hs_25 => ?_)
 ·try simp only [nz] at hs_25
  refine Ie.O ?_
  refine Ie.O ?_
  refine Ie.O ?_
  refine Ie.O ?_
  iterate 2 refine Ie.P ?_
  refine Ie.O ?_
  refine Ie.O ?_
  refine Ie.O ?_
  refine Ie.O ?_
  refine Ie.P ?_
  refine Ie.nil (Ne.seq (Ce.cond_true rfl (Ce.seq (Ce.region ?_))))
  refine Ie.call _ rfl rfl rfl rfl rfl rfl (fun m hm => awake_ok) ?_
  refine Ie.P ?_
  refine Ie.nil (Ne.seq (Ce.ret (Re.seq ?_)))
  exact Re.end_ rfl rfl (fun m hm => ⟨rfl, hm.ext⟩)
 ·try simp only [nz] at hs_25
  obtain ⟨hn14, hwl⟩ := few_all hs_25
  refine Ie.F fa61_1 ?_
  refine Ie.L ag9 ?_
  refine Ie.G (ln9 ..) ?_
  iterate 3 refine Ie.P ?_
  refine Ie.splitB 31 rfl (fun hs_31 => ?_) (fun hs_31 => ?_)
  ·try simp only [nz] at hs_31
   refine Ie.O ?_
   refine Ie.O ?_
   refine Ie.O ?_
   refine Ie.O ?_
   refine Ie.P ?_
   refine Ie.nil (Ne.seq (Ce.cond_true rfl (Ce.seq (Ce.region ?_))))
   refine Ie.call _ rfl rfl rfl rfl rfl rfl (fun m hm => awake_ok) ?_
   refine Ie.P ?_
   refine Ie.nil (Ne.seq (Ce.ret (Re.seq ?_)))
   exact Re.end_ rfl rfl (fun m hm => ⟨rfl, hm.ext⟩)
  ·try simp only [nz] at hs_31
   refine Ie.F fa61_3 ?_
   refine Ie.L ag9 ?_
   refine Ie.G (ln9 ..) ?_
   iterate 2 refine Ie.P ?_
   refine Ie.nil (Ne.seq ?_)
   refine Ce.cond rfl (fun ht36 => ?_) (fun ht36 => ?_)
   ·try simp only [nz] at ht36
    refine Ce.seq (Ce.region ?_)
    refine Ie.call _ rfl rfl rfl rfl rfl rfl (fun m hm => awake_ok) ?_
    refine Ie.P ?_
    refine Ie.nil (Ne.seq (Ce.ret (Re.seq ?_)))
    exact Re.end_ rfl rfl (fun m hm => ⟨rfl, hm.ext⟩)
   ·try simp only [nz] at ht36
    refine Ce.skip (Ne.seq (Ce.seq ?_))
    refine Ce.draw [⟨0, .p, true, true, 0⟩, ⟨1, .h, true, true, 1⟩, ⟨2, .p, false, false, 0⟩, ⟨3, .l, false, false, 4⟩, ⟨4, .h, true, true, 15⟩, ⟨5, .p, true, true, 31⟩, ⟨6, .p, true, true, 63⟩, ⟨7, .p, true, true, 63⟩, ⟨8, .p, true, true, 127⟩, ⟨9, .p, true, true, 511⟩] (by kernel_rfl) (by kernel_rfl) (fun base hbase hB => ?_)
    refine De.p rfl rfl rfl rfl rfl ?_
    refine De.calln _ _ _ rfl rfl rfl rfl rfl rfl rfl rfl rfl (fun m hm => own_ok hm.lole (hlS0.mono (Mem.kr hm) (RTy.mono (Mem.kr hm))) hwl hn14) (fun zo hzo => ?_)
    refine De.fieldAddr rfl rfl rfl rfl rfl rfl fa61_0 ?_
    refine De.loadOld rfl rfl rfl rfl rfl rfl ag3 (by repeat first | exact .head | exact .app .head | exact .base ‹_› ‹_› (by simp) | refine .tail ?_ | refine .app ?_) rfl (by first | exact hB _ _ (.head _) | exact hB _ _ (.tail _ (.head _)) | exact hB _ _ (.tail _ (.tail _ (.head _))) | exact hB _ _ (.tail _ (.tail _ (.tail _ (.head _)))) | exact hB _ _ (List.mem_append_right _ (.head _)) | exact Nat.lt_of_lt_of_le ‹_› hbase) ?_
    refine De.calln _ _ _ rfl rfl rfl rfl rfl rfl rfl rfl rfl (fun m hm => Size_ok hm.lole (hzo.mono (InH.kr hm fun p_ hp_ => List.mem_append_left _ hp_) fun x_ cs_ h_ => RTy.mono (InH.kr hm fun p_ hp_ => List.mem_append_left _ hp_) x_ cs_ h_.1) hwl hn14) (fun x1 hx1 => ?_)
    refine De.p rfl rfl rfl rfl rfl (De.p rfl rfl rfl rfl rfl (De.p rfl rfl rfl rfl rfl (De.p rfl rfl rfl rfl rfl (De.p rfl rfl rfl rfl rfl ?_))))
    refine De.drop (h' := [(b3, .cells [.int .i64 t, .string s, .int .i64 k, .string n] 61 false .plain none)]) ((List.sublist_append_right _ _).trans (List.sublist_append_right _ _)) ?_
    refine De.nil (Ne.seq (Ce.seq ?_))
    refine Ce.draw [⟨0, .p, true, true, 0⟩, ⟨1, .h, true, true, 1⟩, ⟨2, .p, false, false, 0⟩, ⟨3, .l, false, false, 4⟩, ⟨4, .p, false, false, 0⟩, ⟨5, .l, false, false, 16⟩, ⟨6, .p, false, false, 0⟩, ⟨7, .l, false, false, 64⟩, ⟨8, .h, true, true, 255⟩, ⟨9, .p, true, true, 511⟩, ⟨10, .p, true, true, 1023⟩, ⟨11, .p, false, true, 1023⟩, ⟨12, .a, false, false, 0⟩, ⟨13, .h, true, true, 6143⟩, ⟨14, .p, true, true, 16383⟩] (by kernel_rfl) (by kernel_rfl) (fun base hbase hB => ?_)
    refine De.p rfl rfl rfl rfl rfl ?_
    refine De.calln _ _ _ rfl rfl rfl rfl rfl rfl rfl rfl rfl (fun m hm => own_ok hm.lole (hlS0.mono (Mem.kr hm) (RTy.mono (Mem.kr hm))) hwl hn14) (fun zo hzo => ?_)
    refine De.fieldAddr rfl rfl rfl rfl rfl rfl fa61_0 ?_
    refine De.loadOld rfl rfl rfl rfl rfl rfl ag3 (by repeat first | exact .head | exact .app .head | exact .base ‹_› ‹_› (by simp) | refine .tail ?_ | refine .app ?_) rfl (by first | exact hB _ _ (.head _) | exact hB _ _ (.tail _ (.head _)) | exact hB _ _ (.tail _ (.tail _ (.head _))) | exact hB _ _ (.tail _ (.tail _ (.tail _ (.head _)))) | exact hB _ _ (List.mem_append_right _ (.head _)) | exact Nat.lt_of_lt_of_le ‹_› hbase) ?_
    refine De.fieldAddr rfl rfl rfl rfl rfl rfl fa61_1 ?_
    refine De.loadOld rfl rfl rfl rfl rfl rfl ag9 (by repeat first | exact .head | exact .app .head | exact .base ‹_› ‹_› (by simp) | refine .tail ?_ | refine .app ?_) rfl (by first | exact hB _ _ (.head _) | exact hB _ _ (.tail _ (.head _)) | exact hB _ _ (.tail _ (.tail _ (.head _))) | exact hB _ _ (.tail _ (.tail _ (.tail _ (.head _)))) | exact hB _ _ (List.mem_append_right _ (.head _)) | exact Nat.lt_of_lt_of_le ‹_› hbase) ?_
    refine De.fieldAddr rfl rfl rfl rfl rfl rfl fa61_2 ?_
    refine De.loadOld rfl rfl rfl rfl rfl rfl ag3 (by repeat first | exact .head | exact .app .head | exact .base ‹_› ‹_› (by simp) | refine .tail ?_ | refine .app ?_) rfl (by first | exact hB _ _ (.head _) | exact hB _ _ (.tail _ (.head _)) | exact hB _ _ (.tail _ (.tail _ (.head _))) | exact hB _ _ (.tail _ (.tail _ (.tail _ (.head _)))) | exact hB _ _ (List.mem_append_right _ (.head _)) | exact Nat.lt_of_lt_of_le ‹_› hbase) ?_
    refine De.calln _ _ _ rfl rfl rfl rfl rfl rfl rfl rfl rfl (fun m hm => Field_ok hm.lole (hzo.mono (InH.kr hm fun p_ hp_ => List.mem_append_left _ hp_) (RTyT.mono (InH.kr hm fun p_ hp_ => List.mem_append_left _ hp_))) hwl hn14) (fun x2 hx2 => ?_)
    refine De.p rfl rfl rfl rfl rfl (De.p rfl rfl rfl rfl rfl (De.p rfl rfl rfl rfl rfl ?_))
    refine De.alloc rfl rfl rfl rfl rfl zr64 (fun b7 hn7 hb7 => ?_)
    refine De.store rfl rfl (by kernel_rfl) (by kernel_rfl) rfl rfl rfl rfl rfl sz64 rfl (by first | exact .head | exact .tail .head | exact .tail (.tail .head) | exact .tail (.tail (.tail .head)) | exact updo) rfl ?_
    refine De.p rfl rfl rfl rfl rfl ?_
    refine De.drop (h' := [(b7, .cells [.int .i64 x2.1, .int .i64 x2.2.1, .int .i64 x2.2.2.1] 64 false .plain none), (b3, .cells [.int .i64 t, .string s, .int .i64 k, .string n] 61 false .plain none)]) (.cons_cons _ ((List.sublist_append_right _ _).trans (List.sublist_append_right _ _))) ?_
    refine De.nil (Ne.seq (Ce.seq ?_))
    refine Ce.draw [⟨0, .p, true, true, 0⟩, ⟨1, .h, true, true, 1⟩, ⟨2, .p, false, false, 0⟩, ⟨3, .l, false, false, 4⟩, ⟨4, .p, false, false, 0⟩, ⟨5, .l, false, false, 16⟩, ⟨6, .p, false, false, 0⟩, ⟨7, .l, false, false, 64⟩, ⟨8, .h, true, true, 255⟩, ⟨9, .p, true, true, 511⟩, ⟨10, .p, true, true, 1023⟩, ⟨11, .p, true, true, 1023⟩, ⟨12, .p, true, true, 2047⟩, ⟨13, .p, true, true, 8191⟩] (by kernel_rfl) (by kernel_rfl) (fun base hbase hB => ?_)
    refine De.p rfl rfl rfl rfl rfl ?_
    refine De.calln _ _ _ rfl rfl rfl rfl rfl rfl rfl rfl rfl (fun m hm => own_ok hm.lole (hlS0.mono (Mem.kr hm) (RTy.mono (Mem.kr hm))) hwl hn14) (fun zo hzo => ?_)
    refine De.fieldAddr rfl rfl rfl rfl rfl rfl fa61_0 ?_
    refine De.loadOld rfl rfl rfl rfl rfl rfl ag3 (by repeat first | exact .head | exact .app .head | exact .base ‹_› ‹_› (by simp) | refine .tail ?_ | refine .app ?_) rfl (by first | exact hB _ _ (.head _) | exact hB _ _ (.tail _ (.head _)) | exact hB _ _ (.tail _ (.tail _ (.head _))) | exact hB _ _ (.tail _ (.tail _ (.tail _ (.head _)))) | exact hB _ _ (List.mem_append_right _ (.head _)) | exact Nat.lt_of_lt_of_le ‹_› hbase) ?_
    refine De.fieldAddr rfl rfl rfl rfl rfl rfl fa61_1 ?_
    refine De.loadOld rfl rfl rfl rfl rfl rfl ag9 (by repeat first | exact .head | exact .app .head | exact .base ‹_› ‹_› (by simp) | refine .tail ?_ | refine .app ?_) rfl (by first | exact hB _ _ (.head _) | exact hB _ _ (.tail _ (.head _)) | exact hB _ _ (.tail _ (.tail _ (.head _))) | exact hB _ _ (.tail _ (.tail _ (.tail _ (.head _)))) | exact hB _ _ (List.mem_append_right _ (.head _)) | exact Nat.lt_of_lt_of_le ‹_› hbase) ?_
    refine De.fieldAddr rfl rfl rfl rfl rfl rfl fa61_3 ?_
    refine De.loadOld rfl rfl rfl rfl rfl rfl ag9 (by repeat first | exact .head | exact .app .head | exact .base ‹_› ‹_› (by simp) | refine .tail ?_ | refine .app ?_) rfl (by first | exact hB _ _ (.head _) | exact hB _ _ (.tail _ (.head _)) | exact hB _ _ (.tail _ (.tail _ (.head _))) | exact hB _ _ (.tail _ (.tail _ (.tail _ (.head _)))) | exact hB _ _ (List.mem_append_right _ (.head _)) | exact Nat.lt_of_lt_of_le ‹_› hbase) ?_
    refine De.calln _ _ _ rfl rfl rfl rfl rfl rfl rfl rfl rfl (fun m hm => Find_ok hm.lole (hzo.mono (InH.kr hm fun p_ hp_ => List.mem_append_left _ hp_) fun x_ cs_ h_ => RTy.mono (InH.kr hm fun p_ hp_ => List.mem_append_left _ hp_) x_ cs_ h_.1) hwl hn14) (fun x3 hx3 => ?_)
    refine De.p rfl rfl rfl rfl rfl (De.p rfl rfl rfl rfl rfl (De.p rfl rfl rfl rfl rfl (De.p rfl rfl rfl rfl rfl (De.p rfl rfl rfl rfl rfl ?_))))
    refine De.drop (h' := [(b7, .cells [.int .i64 x2.1, .int .i64 x2.2.1, .int .i64 x2.2.2.1] 64 false .plain none), (b3, .cells [.int .i64 t, .string s, .int .i64 k, .string n] 61 false .plain none)]) ((List.sublist_append_right _ _).trans (List.sublist_append_right _ _)) ?_
    refine De.nil (Ne.seq (Ce.seq (Ce.region (Ie.P ?_))))
    refine Ie.F fa61_0 ?_
    refine Ie.L ag3 ?_
    refine Ie.F fa61_1 ?_
    refine Ie.L ag9 ?_
    refine Ie.F fa61_3 ?_
    refine Ie.L ag9 ?_
    refine Ie.calln _ _ _ rfl rfl rfl rfl rfl rfl (fun m hm => rFind_ok hm.lole (hlS0.mono (Mem.kr hm) (RTy.mono (Mem.kr hm))) hwl hn14) (fun x4 hx4 => ?_)
    have hff := hx3.uniq hx4
    subst hff
    iterate 5 refine Ie.P ?_
    refine Ie.drop (h' := [(b7, .cells [.int .i64 x2.1, .int .i64 x2.2.1, .int .i64 x2.2.2.1] 64 false .plain none), (b3, .cells [.int .i64 t, .string s, .int .i64 k, .string n] 61 false .plain none)]) (List.sublist_append_right _ _) ?_
    refine Ie.nil (Ne.seq (Ce.seq (Ce.seq (Ce.region ?_))))
    iterate 3 refine Ie.P ?_
    refine Ie.as 83 (.bool false) rfl (congrArg Value.bool (by simp [eqI_eq])) ?_
    iterate 3 refine Ie.P ?_
    refine Ie.neqBool rfl rfl rfl rfl Tryz.underlying4 rfl rfl ?_
    refine Ie.as 87 (.bool false) rfl (congrArg Value.bool (by simp)) ?_
    refine Ie.P ?_
    refine Ie.nil (Ne.seq (Ce.cond_false rfl (Ce.skip (Ne.seq (Ce.seq (Ce.seq (Ce.region (Ie.P ?_))))))))
    refine Ie.F fa61_0 ?_
    refine Ie.L ag3 ?_
    refine Ie.buildSlice rfl rfl rfl rfl rfl (bs32_1 ..) (fun b92 hb92 => ?_)
    refine Ie.calln _ _ _ rfl rfl rfl rfl rfl rfl (fun m hm => rasked_ok hm.lole (hlS0.mono (Mem.kr hm) (RTy.mono (Mem.kr hm))) hwl hn14 ((Sl.single (R := RInt) (x := t) (b := b92) (c := 1) (el := 3) (g := false) (md := .plain) (mate := none) rfl rfl).mono (InH.kr (l := [(b92, .cells [.int .i64 t] 3 false .plain none)]) hm (fun p_ hp_ => by rw [List.mem_singleton.1 hp_]; exact List.mem_cons_self)) fun _ _ h => h)) (fun e he => ?_)
    refine Ie.P ?_
    refine Ie.nil (Ne.seq (Ce.seq (Ce.region ?_)))
    iterate 2 refine Ie.P ?_
    refine Ie.nil (Ne.seq ?_)
    refine Ce.cond rfl (fun ht95 => ?_) (fun ht95 => ?_)
    ·try simp only [nz] at ht95
     have hne : e ≠ 0 := by omega
     obtain ⟨hs2, hs1⟩ := hx1.bad he hne
     have h2b := hx2.isBad he hne
     subst h2b
     refine Ce.seq (Ce.region ?_)
     iterate 3 refine Ie.P ?_
     refine Ie.as 98 (.bool true) rfl (congrArg Value.bool (by rw [eqI_eq]; exact decide_eq_true hs2)) ?_
     iterate 4 refine Ie.P ?_
     refine Ie.as 102 (.bool true) rfl (congrArg Value.bool (by rw [eqI_eq]; exact decide_eq_true rfl)) ?_
     iterate 4 refine Ie.P ?_
     refine Ie.as 106 (.bool true) rfl (congrArg Value.bool (by rw [eqI_eq]; exact decide_eq_true hs1)) ?_
     iterate 2 refine Ie.P ?_
     refine Ie.loadAgg rfl rfl rfl rfl rfl ag64 sz64 (by repeat first | exact .head | exact .app .head | exact .base ‹_› ‹_› (by simp) | refine .tail ?_ | refine .app ?_) (Nat.le_of_ble_eq_true rfl) rfl ?_
     refine Ie.p (v := .agg ⟨[.int .i64 0, .int .i64 0, .int .i64 0]⟩) rfl rfl rfl (by kernel_rfl) ?_
     refine Ie.p (v := .bool true) rfl rfl rfl (by simp only [opE, evE, look]; exact place_eq _ _ _ _ _) ?_
     iterate 2 refine Ie.P ?_
     refine Ie.nil (Ne.seq (Ce.ret (Re.seq ?_)))
     exact Re.end_ rfl rfl (fun m hm => ⟨rfl, hm.ext⟩)
    ·try simp only [nz] at ht95
     have he0 : e = 0 := by omega
     subst he0
     obtain ⟨q, a, rfl, hq, ha⟩ := he.at1
     obtain ⟨hWl, hFit, r, sz, hr0, hrn, hz⟩ := he.fine
     have hbd : ∀ (i : Nat) (a : Ty), l[i]? = some a → badB l.length a = false := fun i a ha => hWl.sound i a ha
     obtain ⟨hs2, hs1⟩ := hx1.good hWl.sound he hr0 hz
     have hx2e := hx2.isGood hWl.sound he ha hr0 hz
     refine Ce.skip (Ne.seq (Ce.seq (Ce.region (Ie.P ?_))))
     refine Ie.F fa61_0 ?_
     refine Ie.L ag3 ?_
     refine Ie.F fa61_1 ?_
     refine Ie.L ag9 ?_
     refine Ie.F fa61_2 ?_
     refine Ie.L ag3 ?_
     refine Ie.calln _ _ _ rfl rfl rfl rfl rfl rfl (fun m hm => rField_ok hm.lole (hlS0.mono (Mem.kr hm) (RTy.mono (Mem.kr hm))) hwl hbd hn14 hr0 hrn hz hWl ha) (fun x5 hx5 => ?_)
     have h25 : x2 = x5 := hx2e.trans hx5.symm
     subst h25
     iterate 9 refine Ie.P ?_
     refine Ie.nil (Ne.seq (Ce.seq (Ce.region ?_)))
     iterate 2 refine Ie.P ?_
     refine Ie.as 127 (.bool true) rfl (congrArg Value.bool (by rw [eqI_eq]; exact decide_eq_true hs2)) ?_
     iterate 3 refine Ie.P ?_
     refine Ie.F fa61_0 ?_
     refine Ie.L ag3 ?_
     refine Ie.call _ rfl rfl rfl rfl rfl rfl (fun m hm => rSize_ok hm.lole (hlS0.mono (Mem.kr hm) (RTy.mono (Mem.kr hm))) hwl hbd hn14 hr0 hrn hz hq) ?_
     refine Ie.P ?_
     refine Ie.as 134 (.bool true) rfl (congrArg Value.bool (by rw [eqI_eq]; exact decide_eq_true hs1)) ?_
     iterate 5 refine Ie.P ?_
     refine Ie.as 139 (.bool true) rfl (congrArg Value.bool (by rw [eqI_eq]; exact decide_eq_true rfl)) ?_
     iterate 2 refine Ie.P ?_
     refine Ie.loadAgg rfl rfl rfl rfl rfl ag64 sz64 (by repeat first | exact .head | exact .app .head | exact .base ‹_› ‹_› (by simp) | refine .tail ?_ | refine .app ?_) (Nat.le_of_ble_eq_true rfl) rfl ?_
     iterate 3 refine Ie.P ?_
     refine Ie.p (v := .agg ⟨[.int .i64 x2.1, .int .i64 x2.2.1, .int .i64 x2.2.2.1]⟩) rfl rfl rfl (by kernel_rfl) ?_
     refine Ie.p (v := .bool true) rfl rfl rfl (by simp only [opE, evE, look]; exact place_eq _ _ _ _ _) ?_
     iterate 2 refine Ie.P ?_
     refine Ie.nil (Ne.seq (Ce.ret ?_))
     exact Re.end_ rfl rfl (fun m hm => ⟨rfl, hm.ext⟩)

end Go.Proofs.YtmfbljaemhpokaaGreatDoor
