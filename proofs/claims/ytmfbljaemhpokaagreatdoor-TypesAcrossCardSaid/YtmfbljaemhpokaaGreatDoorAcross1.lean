/-
  TypesAcross: the functions that it calls, followed, 1. Conditions: none.
-/
import Derived.Test.YtmfbljaemhpokaaGreatDoorAwk
import Derived.Test.YtmfbljaemhpokaaGreatDoorGra
import Derived.Test.YtmfbljaemhpokaaGreatDoorAcross0
namespace Go.Proofs.YtmfbljaemhpokaaGreatDoor
open Go Go.Ab
set_option linter.unusedVariables false
set_option linter.unusedSimpArgs false
set_option linter.unusedSectionVars false
open Tryz
theorem visit_step {l : List Ty} {al : Option Addr} {cl bs bl bv bb t : Nat} {st : List Int} {m : AW} (hm : m.lo ≤ m.next) (hk : Knows [bb] m m [(bb, .cells (ints st) 3 false .plain none)]) (hp : VisPre l al cl bs bl bv bb m) (hv : VisSt l st t) (hwl : ∀ (i : Nat) (a : Ty), l[i]? = some a → FewT a) (hbd : ∀ (i : Nat) (a : Ty), l[i]? = some a → badB l.length a = false) (ih : ∀ (st2 : List Int) (t2 : Nat) (m2 : AW), white st2 < white st → m2.lo ≤ m2.next → Knows [bb] m2 m2 [(bb, .cells (ints st2) 3 false .plain none)] → VisPre l al cl bs bl bv bb m2 → VisSt l st2 t2 → Fc prog 98 [.int .i64 (Int.ofNat t2), ptr bs, ptr bl, ptr bv] m2 fun v m' => ∃ z : Bool × List Int, VisA l st2 t2 z ∧ v = .bool z.1 ∧ Knows [bb] m2 m' [(bb, .cells (ints z.2) 3 false .plain none)]) : Fc prog 98 [.int .i64 (Int.ofNat t), ptr bs, ptr bl, ptr bv] m fun v m' => ∃ z : Bool × List Int, VisA l st t z ∧ v = .bool z.1 ∧ Knows [bb] m m' [(bb, .cells (ints z.2) 3 false .plain none)] := by
 obtain ⟨hbs, hbl, hbv, hlS⟩ := hp
 have hlS0 := hlS
 obtain ⟨a_, cap_, he_, hnl, hl⟩ := hlS
 cases he_
 have hts : t < st.length := by rw [hv.len]; exact hv.ht
 obtain ⟨s, hs⟩ : ∃ s, st[t]? = some s := ⟨_, List.getElem?_eq_getElem hts⟩
 have hlt := hv.ht
 obtain ⟨a, ha⟩ := gx hlt
 obtain ⟨b, off, cs, el, g, md, mate, rfl, ⟨hb, hh⟩, hle, hc⟩ := so hl hlt
 have hr := hc t a ha
 obtain ⟨ve, vf, va, hr, he, hf, hga⟩ := hr
 have hraS : RTy (Off [bb] m) a [.int .i64 a.kind, ve, .string a.name, vf, va] := ⟨ve, vf, va, rfl, he, hf, hga⟩
 have hw := hwl t a ha
 have hba := hbd t a ha
 refine Fc.bodyS (S := [bb]) (c := _) func98 rfl rfl rfl rfl hk ?_
 refine .seq (.region ?_)
 refine .alloc rfl rfl rfl rfl zr4 (fun b5 hb5 => ?_)
 refine .nil (.seq (.seq (.seq (.region ?_))))
 refine .M ag32 (Off.sees rfl rfl _ _ hbs) rfl ?_
 refine .P ?_
 refine .indexAddr rfl rfl rfl rfl underlying32 sz3 rfl rfl (hv.ht) ?_
 refine .load rfl rfl rfl rfl rfl ag3 (by repeat first | exact .head | exact .app .head | exact .base ‹_› ‹_› (by simp) | refine .tail ?_ | refine .app ?_) (map_cell hs) ?_
 refine .P ?_
 refine .nil (.seq (.cond rfl (fun ht11 => ?_) fun ht11 => ?_))
 ·try simp only [nz] at ht11
  have hne : s ≠ 0 := by omega
  refine .seq (.region ?_)
  refine .M ag32 (Off.sees rfl rfl _ _ hbs) rfl ?_
  refine .P ?_
  refine .indexAddr rfl rfl rfl rfl underlying32 sz3 rfl rfl (hv.ht) ?_
  refine .load rfl rfl rfl rfl rfl ag3 (by repeat first | exact .head | exact .app .head | exact .base ‹_› ‹_› (by simp) | refine .tail ?_ | refine .app ?_) (map_cell hs) ?_
  refine .P ?_
  refine .S sz4 ?_
  refine .nil (.seq (.ret (.seq ?_)))
  refine .endH rfl (.cell rfl ag4 (by repeat first | exact .head | exact .app .head | exact .base ‹_› ‹_› (by simp) | refine .tail ?_ | refine .app ?_) rfl .nil) ?_
  exact fun m hm => ⟨(_, st), VisA.seen hv hs hne, congrArg Value.bool (by rw [eqI_eq]), hm.sub (.cons _ (.refl _))⟩
 try simp only [nz] at ht11
 have hs0 : s = 0 := by omega
 subst hs0
 have hV0 := VIn.zero (a := a) hv hs
 refine .skip (.seq (.seq (.region ?_)))
 refine .M ag32 (Off.sees rfl rfl _ _ hbs) rfl ?_
 refine .P ?_
 refine .indexAddr rfl rfl rfl rfl underlying32 sz3 rfl rfl (hv.ht) ?_
 refine .storeAt int_plain (st := st) (i := t) (x := 1) hts (.tail .one) rfl rfl rfl rfl sz3 rfl rfl ?_
 refine .nil (.seq (.seq (.seq (.region ?_))))
 refine .M ag22 (Off.sees rfl rfl _ _ hbl) rfl ?_
 refine .P ?_
 refine .indexAddr rfl rfl rfl rfl underlying22 sz50 rfl rfl (hv.ht) ?_
 refine .F fa50_0 ?_
 refine .M ag3 (Off.sees rfl rfl _ _ ⟨hb, hh⟩) (cell_of_take hr (k := 0) rfl) ?_
 refine .P ?_
 refine .nil (.seq (.cond rfl (fun ht25 => ?_) fun ht25 => ?_))
 ·try simp only [nz] at ht25
  have h9 : a.kind ≠ 9 := by omega
  refine .seq (.region ?_)
  refine .M ag22 (Off.sees rfl rfl _ _ hbl) rfl ?_
  refine .P ?_
  refine .indexAddr rfl rfl rfl rfl underlying22 sz50 rfl rfl (hv.ht) ?_
  refine .A ag50 sz50 (Off.sees rfl rfl _ _ ⟨hb, hh⟩) hr ?_
  refine .calln _ _ _ rfl rfl rfl rfl rfl rfl (fun m hm => parts_ok hm.lole (RTy.mono (fun b o h => Off.mem b o (Off.kr hm b o h)) _ _ hraS)) (fun bt _ => ?_)
  refine .nil (.seq (.block ?_))
  refine .rangeFunc (α := Bool × List Int) (vs := pvs a) (K := [bb, b5]) (fun i z => z.1 = false ∧ VIn l (st.set t 1) a i z.2) (fun z => z.1 = true ∧ Cyc l) (fun z => [(bb, .cells (ints z.2) 3 false .plain none), (b5, .cells [.bool z.1] 4 false .plain none)]) (false, st.set t 1) rfl rfl (fun _ => rfl) ⟨rfl, hV0⟩ (.cons _ (.refl _)) (fun v hv => by obtain ⟨p, rfl⟩ := pvs_mem hv; exact ⟨rfl, rfl⟩) (fun b => b = bt ∨ b < m.next ∧ b ∉ [bb]) (fun m1 hm1 => ⟨parts_iter (rf_newS hm1) (he.mono (rf_memS hm1) fun _ _ h => h) (hf.mono (rf_memS hm1) fun _ _ h => h) (hga.mono (rf_memS hm1) (RArm.mono (rf_memS hm1))), rf_baseS hm1 (by simp)⟩) (fun i z v hv0 hA ll m1 ready busy hll hm1 => ?_) (fun z hA => ?_) (fun z hR => ?_)
  ·obtain ⟨p, hp, rfl⟩ := pvs_inv hv0
   obtain ⟨zb, st2⟩ := z
   obtain ⟨hz1, hV⟩ := hA
   simp only at hz1 hV
   subst hz1
   obtain ⟨q, rfl, hq⟩ := parts_in hba hp
   refine .region (.P ?_)
   refine .nil (.asg rfl (.block (.seq (.region ?_))))
   refine .M ag96 (Off.sees rfl rfl _ _ (Off.into hm1 (by intro b hb; simpa using hb) _ _ hbv)) rfl ?_
   refine .P ?_
   refine .callc (fun z => VisA l st2 q z) (fun z => .bool z.1) (fun z => [(bb, .cells (ints z.2) 3 false .plain none)]) (.tail .one) rfl rfl rfl rfl rfl rfl (fun m2 g1 g2 => ih st2 q m2 (hV.less hv hs) g1.lole' g2 (VisPre.mono ⟨hbs, hbl, hbv, hlS0⟩ (Off.kr2 hm1 g1.kr (by intro b hb; simpa using hb))) (hV.st hv hs ha h9 hq hp)) (fun z hz => ?_)
   refine .nil (.seq (.cond rfl (fun ht34 => ?_) fun ht34 => ?_))
   ·have hcy := hz.1 ht34
    refine .seq (.region (.S sz4 ?_))
    refine .nil (.seq (.ret (.blk ?_)))
    refine .swap (.swap _ _ _) ?_
    exact .rnd (true, z.2) ⟨rfl, hcy⟩ (.refl _)
   have hV := hV.succ hp hz ht34
   refine .skip (.blk ?_)
   refine .swap (.swap _ _ _) ?_
   exact .rnd (false, z.2) ⟨rfl, hV⟩ (.refl _)
  ·obtain ⟨zb, st2⟩ := z
   obtain ⟨hz1, hV⟩ := hA
   simp only at hz1 hV
   subst hz1
   have hlt2 : t < st2.length := by rw [hV.vis.len, List.length_set]; exact hts
   have hfin := hV.fin hv hs ha (.inr (by rw [pvs_len]; exact Nat.le_refl _)) hba
   refine .blk (.seq (.seq (.region ?_)))
   refine .M ag32 (Off.sees rfl rfl _ _ hbs) rfl ?_
   refine .P ?_
   refine .indexAddr rfl rfl rfl rfl underlying32 sz3 rfl rfl (hv.ht) ?_
   refine .storeAt int_plain (st := _) (i := t) (x := 2) hlt2 .one rfl rfl rfl rfl sz3 rfl rfl ?_
   refine .nil (.seq (.seq (.region (.S sz4 ?_))))
   refine .nil (.seq (.ret ?_))
   refine .endH rfl (.cell rfl ag4 (by repeat first | exact .head | exact .app .head | exact .base ‹_› ‹_› (by simp) | refine .tail ?_ | refine .app ?_) rfl .nil) ?_
   exact fun m hm => ⟨(false, _), hfin, rfl, hm.sub (.cons_cons _ (List.nil_sublist _))⟩
  obtain ⟨zb, st2⟩ := z
  obtain ⟨hz1, hcy⟩ := hR
  simp only at hz1
  subst hz1
  refine .blk (.seq ?_)
  refine .endH rfl (.cell rfl ag4 (by repeat first | exact .head | exact .app .head | exact .base ‹_› ‹_› (by simp) | refine .tail ?_ | refine .app ?_) rfl .nil) ?_
  exact fun m hm => ⟨(true, _), VisA.cyc hcy, rfl, hm.sub (.cons_cons _ (List.nil_sublist _))⟩
 try simp only [nz] at ht25
 have hlt2 : t < (st.set t 1).length := by rw [List.length_set]; exact hts
 have hfin := hV0.fin hv hs ha (.inl (by omega)) hba
 refine .skip (.seq (.seq (.region ?_)))
 refine .M ag32 (Off.sees rfl rfl _ _ hbs) rfl ?_
 refine .P ?_
 refine .indexAddr rfl rfl rfl rfl underlying32 sz3 rfl rfl (hv.ht) ?_
 refine .storeAt int_plain (st := _) (i := t) (x := 2) hlt2 .one rfl rfl rfl rfl sz3 rfl rfl ?_
 refine .nil (.seq (.seq (.region (.S sz4 ?_))))
 refine .nil (.seq (.ret ?_))
 refine .endH rfl (.cell rfl ag4 (by repeat first | exact .head | exact .app .head | exact .base ‹_› ‹_› (by simp) | refine .tail ?_ | refine .app ?_) rfl .nil) ?_
 exact fun m hm => ⟨(false, _), hfin, rfl, hm.sub (.cons_cons _ (List.nil_sublist _))⟩
theorem visit_ok {l : List Ty} {al : Option Addr} {cl bs bl bv bb : Nat} (hwl : ∀ (i : Nat) (a : Ty), l[i]? = some a → FewT a) (hbd : ∀ (i : Nat) (a : Ty), l[i]? = some a → badB l.length a = false) : ∀ (n : Nat) (st : List Int) (t : Nat) (m : AW), white st < n → m.lo ≤ m.next → Knows [bb] m m [(bb, .cells (ints st) 3 false .plain none)] → VisPre l al cl bs bl bv bb m → VisSt l st t → Fc prog 98 [.int .i64 (Int.ofNat t), ptr bs, ptr bl, ptr bv] m fun v m' => ∃ z : Bool × List Int, VisA l st t z ∧ v = .bool z.1 ∧ Knows [bb] m m' [(bb, .cells (ints z.2) 3 false .plain none)]
 | 0, _, _, _, h, _, _, _, _ => absurd h (Nat.not_lt_zero _)
 | n + 1, st, t, m, hw, hm, hk, hp, hv => visit_step hm hk hp hv hwl hbd fun st2 t2 m2 h2 hm2 hk2 hp2 hv2 => visit_ok hwl hbd n st2 t2 m2 (by omega) hm2 hk2 hp2 hv2
theorem mkInts_b : (match prog.info? 3 with | some i => Nat.ble i.bytes 65536 | none => false) = true := by kernel_rfl
theorem mkInts {n : Nat} (hn : n ≤ 14) : makeSliceA prog 32 (some (Int.ofNat n)) (some (Int.ofNat n)) = some (.cells ((List.replicate n (0 : Int)).map (Value.int .i64)) 3 false .plain none, sliceTo n n) := by
 have h := mkInts_b
 cases hi : prog.info? 3 with
 | none => rw [hi] at h; cases h
 | some i =>
  rw [hi] at h
  rw [makeSliceA_n (el := 3) (z := .int .i64 0) (i := i) underlying32 sz3 hi zr3 rfl h (by omega), List.map_replicate]
  rfl
theorem circular_ok {l : List Ty} {vl : Value} {m : AW} (hm : m.lo ≤ m.next) (hlS : Sl (Mem m) 5 (RTy (Mem m)) l vl) (hwl : ∀ (i : Nat) (a : Ty), l[i]? = some a → FewT a) (hbd : ∀ (i : Nat) (a : Ty), l[i]? = some a → badB l.length a = false) (hn14 : l.length ≤ 14) : Fc prog 53 [vl] m fun v m' => ∃ c : Bool, CircA l c ∧ v = .bool c ∧ Ext m m' ∧ News m m' [] := by
 have hlS0 := hlS
 obtain ⟨al, cl, rfl, hnl, hl⟩ := hlS
 refine Fc.body (c := _) func53 rfl rfl rfl rfl hm ?_
 refine .seq (.region ?_)
 refine .box rfl rfl rfl rfl rfl (fun b1 hb1 => ?_)
 refine .P ?_
 refine .nil (.seq (.seq (.region (.L ag22 ?_))))
 refine .G (ln22 ..) ?_
 refine .makeSlice (el := 3) (mkInts hn14) rfl rfl rfl rfl rfl rfl (fun b8 hb8 => ?_)
 refine .alloc rfl rfl rfl rfl zr32 (fun b3 hb3 => ?_)
 refine .S sz32 ?_
 refine .nil (.seq (.seq (.region ?_)))
 refine .alloc rfl rfl rfl rfl zr96 (fun b4 hb4 => ?_)
 refine .nil (.seq (.seq (.region ?_)))
 refine .p (v := .func (.func 98) ⟨[]⟩ ⟨[ptr b3, ptr b1, ptr b4]⟩) rfl rfl rfl rfl ?_
 refine .S sz96 ?_
 refine .nil (.seq (.seq (.seq (.region (.L ag22 ?_)))))
 refine .G (ln22 ..) ?_
 refine .P ?_
 refine .nil (.seq (.block ?_))
 refine .swap (Pick.perm (.tail (.tail .one))) (.loop (α := Nat × List Int) (fun q => [(4, ptr b4), (11, .int .i64 (Int.ofNat (l.length))), (12, .int .i64 (Int.ofNat (q.1)))]) (fun q => [(b8, .cells (ints q.2) 3 false .plain none), (b4, .cells [.func (.func 98) ⟨[]⟩ ⟨[ptr b3, ptr b1, ptr b4]⟩] 96 false .plain none), (b3, .cells [.slice (some ⟨b8, 0, none⟩) l.length l.length] 32 false .plain none), (b1, .cells [.slice al l.length cl] 22 false .plain none)]) (fun q => q.1 ≤ l.length ∧ VAll l q.2 q.1) (fun q => l.length - q.1) (0, List.replicate l.length 0) ⟨Nat.zero_le _, VAll.zero l⟩ ⟨rfl, rfl, rfl, trivial⟩ (.refl _) (fun q hq0 => ?_))
 obtain ⟨i, st⟩ := q
 obtain ⟨hi, hV⟩ := hq0
 simp only at hi hV
 refine .seq (.region (.P ?_))
 refine .nil (.seq (.seq (.cond rfl (fun ht13 => ?_) fun ht13 => ?_)))
 ·try simp only [nz] at ht13
  refine .skip (.seq (.seq (.block (.seq (.region (.P2 ?_))))))
  refine .nil (.seq (.seq (.region (.L ag96 ?_))))
  refine .P ?_
  refine .callc (fun z => VisA l st i z) (fun z => .bool z.1) (fun z => [(b8, .cells (ints z.2) 3 false .plain none)]) .one rfl rfl rfl rfl rfl rfl (fun m2 g1 g2 => visit_ok hwl hbd (white st + 1) st i m2 (Nat.lt_succ_self _) g1.lole' g2 ⟨Off.known g1 (.tail _ (.head _)), Off.known g1 (.tail _ (.tail _ (.head _))), Off.known g1 (.head _), hlS0.mono (Off.old g1) (RTy.mono (Off.old g1))⟩ (hV.st (by omega))) (fun z hz => ?_)
  refine .nil (.seq (.cond rfl (fun ht17 => ?_) fun ht17 => ?_))
  ·refine .seq (.region (.P ?_))
   refine .nil (.seq (.ret (.blk (.seq (.loop (.blk (.seq ?_)))))))
   exact .end_ rfl rfl (fun m hm => ⟨true, ⟨fun _ => hz.1 ht17, fun e => (by cases e)⟩, rfl, hm.ext, News.nil _ _⟩)
  refine .skip (.blk (.seq (.region (.P ?_))))
  refine .W 18 i ?_
  refine .P ?_
  refine .nil ?_
  exact .loop (i + 1, z.2) ⟨by omega, hV.succ hz ht17⟩ (by show l.length - (i + 1) < l.length - i; omega) ⟨rfl, rfl, rfl, trivial⟩ (.refl _)
 try simp only [nz] at ht13
 refine .exit (.seq (.loop (.here (.seq (.seq (.region (.P ?_)))))))
 refine .nil (.seq (.ret ?_))
 exact .end_ rfl rfl (fun m hm => ⟨false, ⟨fun e => (by cases e), fun _ => hV.ranked (by omega)⟩, rfl, hm.ext, News.nil _ _⟩)
theorem mkBools_b : (match prog.info? 4 with | some i => Nat.ble i.bytes 65536 | none => false) = true := by kernel_rfl
theorem mkBools {n : Nat} (hn : n ≤ 14) : makeSliceA prog 99 (some (Int.ofNat n)) (some (Int.ofNat n)) = some (.cells ((List.replicate n false).map Value.bool) 4 false .plain none, sliceTo n n) := by
 have h := mkBools_b
 cases hi : prog.info? 4 with
 | none => rw [hi] at h; cases h
 | some i =>
  rw [hi] at h
  rw [makeSliceA_n (el := 4) (z := .bool false) (i := i) underlying99 sz4 hi zr4 rfl h (by omega), List.map_replicate]
  rfl
theorem rsteps_ok {l : List Ty} {vl : Value} {m : AW} (hm : m.lo ≤ m.next) (hlS : Sl (Mem m) 5 (RTy (Mem m)) l vl) (hwl : ∀ (i : Nat) (a : Ty), l[i]? = some a → FewT a) (hbd : ∀ (i : Nat) (a : Ty), l[i]? = some a → badB l.length a = false) (hn14 : l.length ≤ 14) : Fc prog 58 [vl] m fun v m' => ∃ x : Hp × Value, FarA l x ∧ v = x.2 ∧ Ext m m' ∧ News m m' x.1 := by
 have hlS0 := hlS
 have hb8 : Sound8 l := hbd
 obtain ⟨al, cl, rfl, hnl, hl⟩ := hlS
 refine Fc.body (c := _) func58 rfl rfl rfl rfl hm ?_
 refine .seq (.region (.P ?_))
 refine .nil (.seq (.seq (.region (.P ?_))))
 refine .nil (.seq (.seq (.seq (.region (.P ?_)))))
 refine .nil (.seq (.block ?_))
 refine .loop (α := Nat × Gro × List Value × List Nat × Rows) (fun q => [(0, .slice al l.length cl), (3, q.2.1.V q.2.2.2.1.length), (4, .int .i64 (Int.ofNat (q.1)))]) (fun q => rowsH Value.bool 4 q.2.2.2.2 ++ q.2.1.H 99 q.2.2.1) (fun q => q.1 ≤ l.length ∧ Ent l q.2.2.2.2 q.1 ∧ q.2.2.2.1 = q.2.2.2.2.map Prod.fst ∧ Flat 1 (RBlk l.length) q.2.2.2.1 q.2.2.1 ∧ q.2.1.Ok q.2.2.2.1.length) (fun q => l.length - q.1) (0, .no, [], [], []) ⟨Nat.zero_le _, Ent.zero l, rfl, Flat.nil, rfl⟩ ⟨rfl, rfl, rfl, trivial⟩ (.refl _) (fun q hq0 => ?_)
 obtain ⟨i, g_, cs_, bs, rs⟩ := q
 obtain ⟨hi, hE, hbs, hF, hO⟩ := hq0
 simp only at hi hE hbs hF hO
 have hbl : bs.length = i := by rw [hbs, List.length_map, hE.1.len]
 refine .seq (.seq (.region (.P2 ?_)))
 refine .G (ln22 ..) ?_
 refine .P ?_
 refine .nil (.seq (.cond rfl (fun ht13 => ?_) fun ht13 => ?_))
 ·try simp only [nz] at ht13
  have hlt : i < l.length := by omega
  obtain ⟨a, ha⟩ := gx hlt
  obtain ⟨b, off, cs, el, g, md, mate, rfl, ⟨hb, hh⟩, hle, hc⟩ := so hl hlt
  have hr := hc i a ha
  obtain ⟨ve, vf, va, hr, he, hf, hga⟩ := hr
  have hra : RTy (Mem m) a [.int .i64 a.kind, ve, .string a.name, vf, va] := ⟨ve, vf, va, rfl, he, hf, hga⟩
  refine .skip (.seq (.seq (.block (.seq (.region (.P2 ?_))))))
  refine .G (ln22 ..) ?_
  refine .makeSlice (el := 4) (mkBools hn14) rfl rfl rfl rfl rfl rfl (fun b19 hb19 => ?_)
  refine .buildSlice rfl rfl rfl rfl rfl (bs97_1 ..) (fun b20 hb20 => ?_)
  refine .appendSl (R := RBlk l.length) (l0 := bs) (l := [b19]) (L := (bs ++ [b19])) (g := g_) (cs := cs_) rfl (.tail (.tail (Pick.over .all))) hF hO (Sl.single (R := RBlk l.length) (b := b20) (c := 1) (el := 99) (g := false) (md := .plain) (mate := none) rfl rfl) ((InH.sees (by intro p hp; rw [List.mem_singleton.1 hp]; exact List.mem_cons_self))) RBlk.flats (by simp; omega) rfl rfl rfl rfl underlying97 underlying97 ap99 rfl rfl (fun g1 cs1 hF1 hO1 => ?_)
  refine .P ?_
  refine .swap rowsH_app ?_
  have hSo := Gro.sl (el := 99) hF1 hO1 (by first | omega | (simp; omega))
  obtain ⟨ao, co, heo, hno, hSo⟩ := hSo
  rcases hSo with ⟨e0, -⟩ | ⟨bo, offo, cso, elo, go, mdo, mateo, rfl, hbo, hleo, hco⟩
  ·simp at e0
  refine .nil (.seq (.seq (.region (.P2 ?_))))
  refine .K underlying22 sz50 ?_
  refine .A ag50 sz50 (.base hh hb (by simp)) hr ?_
  refine .calln _ _ _ rfl rfl rfl rfl rfl rfl (fun m hm => rparts_ok hm.lole (RTy.mono (Mem.kr hm) _ _ hra) (hwl i a ha)) (fun z hz => ?_)
  obtain ⟨zh, zv⟩ := z
  simp only at hz
  obtain ⟨ap, cp, rfl, hnp, hpz⟩ := hz
  refine .P ?_
  refine .nil (.seq (.seq (.region (.P ?_))))
  refine .nil (.seq (.block ?_))
  refine .swap rows_perm (.loop (α := Nat × Rows) (fun q => [(0, .slice (some ⟨b, off, none⟩) l.length cl), (3, g1.V (bs ++ [b19]).length), (4, .int .i64 (Int.ofNat (i))), (5, .slice ap (partsL a).length cp), (6, .int .i64 (Int.ofNat (q.1)))]) (fun q => rowsH Value.bool 4 q.2 ++ (g1.H 99 cs1 ++ zh)) (fun q => q.1 ≤ (partsL a).length ∧ EntU l q.2 i q.1 ∧ bs ++ [b19] = q.2.map Prod.fst) (fun q => (partsL a).length - q.1) (0, rs ++ [(b19, List.replicate l.length false)]) ⟨Nat.zero_le _, hE.push, by rw [List.map_append, hbs]; rfl⟩ ⟨rfl, rfl, rfl, rfl, rfl, trivial⟩ (.cons _ (.refl _)) (fun q hq0 => ?_))
  obtain ⟨k, rs2⟩ := q
  obtain ⟨hk, hE2, hbs2⟩ := hq0
  simp only at hk hE2 hbs2
  obtain ⟨bi, row, hrow⟩ : ∃ bi row, rs2[i]? = some (bi, row) := ⟨_, _, List.getElem?_eq_getElem (by rw [hE2.1.len]; omega)⟩
  have hrl := hE2.1.row i _ hrow
  simp only at hrl
  have hbi : (bs ++ [b19])[i]? = some bi := by rw [hbs2, List.getElem?_map, hrow]; rfl
  refine .as 3 (.slice (some ⟨bo, offo, none⟩) (bs ++ [b19]).length co) rfl heo ?_
  refine .seq (.seq (.region (.P2 ?_)))
  refine .G (ln32 ..) ?_
  refine .P2 ?_
  refine .splitB 31 rfl (fun hs_31 => ?_) (fun hs_31 => ?_)
  ·try simp only [nz] at hs_31
   refine .P2 ?_
   refine .K underlying22 sz50 ?_
   refine .F fa50_0 ?_
   refine .M ag3 (.base hh hb (by simp)) (cell_of_take hr (k := 0) rfl) ?_
   refine .P2 ?_
   refine .nil (.seq (.cond rfl (fun ht38 => ?_) fun ht38 => ?_))
   ·try simp only [nz] at ht38
    have hltk : k < (partsL a).length := by omega
    obtain ⟨p, hp⟩ : ∃ w_, (partsL a)[k]? = some w_ := ⟨_, List.getElem?_eq_getElem hltk⟩
    obtain ⟨q, rfl, hq⟩ := parts_in (hbd i a ha) hp
    obtain ⟨bp, offp, csp, elp, gp, mdp, matep, rfl, hbp, hlep, hcp⟩ := so hpz hltk
    have hrp := hcp k _ hp
    refine .skip (.seq (.seq (.block ?_)))
    refine .D [(15, 0), (15, 0), (15, 3), (3, 7), (15, 0), (15, 0), (15, 48), (3, 112), (15, 255), (7, 511)] (by kernel_rfl) (by kernel_rfl) (fun base hbase hB => ?_)
    iterate 2 refine .P ?_
    refine .indexAddr rfl rfl rfl rfl rfl underlying97 sz99 rfl rfl (by simp; omega) ?_
    refine .M ag99 (Sees.mem (List.mem_append_right _ (List.mem_append_left _ hbo))) (cell_of_take (hco i bi hbi) (k := 0) rfl) ?_
    iterate 2 refine .P ?_
    refine .K underlying32 sz3 ?_
    refine .M ag3 (InH.sees (l := zh) (fun p_ hp_ => List.mem_append_right _ (List.mem_append_right _ hp_)) _ _ hbp) (cell_of_take hrp (k := 0) rfl) ?_
    refine .K underlying99 sz4 ?_
    refine .storeRow bool_plain (x := true) (rs := rs2) (j := i) (row := row) (k := q) (r := g1.H 99 cs1 ++ zh) rfl hrow (by omega) rfl rfl rfl rfl rfl rfl rfl sz4 rfl rfl ?_
    refine .nil (.blk (.seq (.region (.P2 ?_))))
    refine .W 40 k ?_
    refine .P ?_
    refine .nil ?_
    exact .loop (k + 1, rs2.set i (bi, row.set q true)) ⟨by omega, hE2.set hrow (by omega) ha ht38 hp, by rw [set_fst hrow]; exact hbs2⟩ (by show (partsL a).length - (k + 1) < (partsL a).length - k; omega) ⟨rfl, congrArg some heo.symm, rfl, rfl, rfl, trivial⟩ (.refl _)
   try simp only [nz] at ht38
   have hE3 := hE2.done fun v => EdgeU.nine ha (by omega)
   refine .exit (.seq (.loop (.here (.blk (.seq (.region (.P2 ?_)))))))
   refine .W 15 i ?_
   refine .P ?_
   refine .nil ?_
   exact .loop (i + 1, g1, cs1, bs ++ [b19], rs2) ⟨by omega, hE3, hbs2, hF1, hO1⟩ (by show l.length - (i + 1) < l.length - i; omega) ⟨rfl, congrArg some heo.symm, rfl, trivial⟩ (List.Sublist.append_left (List.sublist_append_left _ _) _)
  try simp only [nz] at hs_31
  have hE3 := hE2.done fun v => EdgeU.all ha (by omega)
  iterate 6 refine .O ?_
  refine .P ?_
  refine .nil (.seq (.cond_false rfl (.exit (.seq (.loop (.here (.blk (.seq (.region (.P2 ?_))))))))))
  refine .W 15 i ?_
  refine .P ?_
  refine .nil ?_
  exact .loop (i + 1, g1, cs1, bs ++ [b19], rs2) ⟨by omega, hE3, hbs2, hF1, hO1⟩ (by show l.length - (i + 1) < l.length - i; omega) ⟨rfl, congrArg some heo.symm, rfl, trivial⟩ (List.Sublist.append_left (List.sublist_append_left _ _) _)
 try simp only [nz] at ht13
 have hie : i = l.length := by omega
 subst hie
 refine .exit (.seq (.loop (.here (.seq (.seq (.seq (.region (.P ?_))))))))
 refine .nil (.seq (.block ?_))
 refine .loop (α := Nat × Rows) (fun q => [(0, .slice al l.length cl), (3, g_.V bs.length), (7, .int .i64 (Int.ofNat (q.1)))]) (fun q => rowsH Value.bool 4 q.2 ++ g_.H 99 cs_) (fun q => q.1 ≤ l.length ∧ War l q.2 q.1 0 0 ∧ bs = q.2.map Prod.fst) (fun q => l.length - q.1) (0, rs) ⟨Nat.zero_le _, War.zero hE, hbs⟩ ⟨rfl, rfl, rfl, trivial⟩ (.refl _) (fun q hq0 => ?_)
 obtain ⟨mm, rs⟩ := q
 obtain ⟨hmm, hW, hbs⟩ := hq0
 simp only at hmm hW hbs
 refine .seq (.seq (.region (.P2 ?_)))
 refine .G (ln22 ..) ?_
 refine .P ?_
 refine .nil (.seq (.cond rfl (fun ht53 => ?_) fun ht53 => ?_))
 ·try simp only [nz] at ht53
  refine .skip (.seq (.seq (.block (.seq (.region (.P ?_))))))
  refine .nil (.seq (.block ?_))
  refine .loop (α := Nat × Rows) (fun q => [(0, .slice al l.length cl), (3, g_.V bs.length), (7, .int .i64 (Int.ofNat (mm))), (8, .int .i64 (Int.ofNat (q.1)))]) (fun q => rowsH Value.bool 4 q.2 ++ g_.H 99 cs_) (fun q => q.1 ≤ l.length ∧ War l q.2 mm q.1 0 ∧ bs = q.2.map Prod.fst) (fun q => l.length - q.1) (0, rs) ⟨Nat.zero_le _, hW, hbs⟩ ⟨rfl, rfl, rfl, rfl, trivial⟩ (.refl _) (fun q hq0 => ?_)
  obtain ⟨ii, rs⟩ := q
  obtain ⟨hii, hW, hbs⟩ := hq0
  simp only at hii hW hbs
  refine .seq (.seq (.region (.P2 ?_)))
  refine .G (ln22 ..) ?_
  refine .P ?_
  refine .nil (.seq (.cond rfl (fun ht59 => ?_) fun ht59 => ?_))
  ·try simp only [nz] at ht59
   refine .skip (.seq (.seq (.block (.seq (.region (.P ?_))))))
   refine .nil (.seq (.block ?_))
   refine .loop (α := Nat × Rows) (fun q => [(0, .slice al l.length cl), (3, g_.V bs.length), (7, .int .i64 (Int.ofNat (mm))), (8, .int .i64 (Int.ofNat (ii))), (9, .int .i64 (Int.ofNat (q.1)))]) (fun q => rowsH Value.bool 4 q.2 ++ g_.H 99 cs_) (fun q => q.1 ≤ l.length ∧ War l q.2 mm ii q.1 ∧ bs = q.2.map Prod.fst) (fun q => l.length - q.1) (0, rs) ⟨Nat.zero_le _, hW, hbs⟩ ⟨rfl, rfl, rfl, rfl, rfl, trivial⟩ (.refl _) (fun q hq0 => ?_)
   obtain ⟨kk, rs⟩ := q
   obtain ⟨hkk, hW, hbs⟩ := hq0
   simp only at hkk hW hbs
   refine .seq (.seq (.region (.P2 ?_)))
   refine .G (ln22 ..) ?_
   refine .P ?_
   refine .nil (.seq (.cond rfl (fun ht65 => ?_) fun ht65 => ?_))
   ·try simp only [nz] at ht65
    have hklt : kk < l.length := by omega
    obtain ⟨bi, rowi, xi, hri, hli, hxi, hai⟩ := hW.sh.get (i := ii) (k := mm) (by omega) (by omega)
    obtain ⟨bm, rowm, xm, hrm, hlm, hxm, ham⟩ := hW.sh.get (i := mm) (k := kk) (by omega) hklt
    have hbi : bs[ii]? = some bi := by rw [hbs, List.getElem?_map, hri]; rfl
    have hbm : bs[mm]? = some bm := by rw [hbs, List.getElem?_map, hrm]; rfl
    have hSo := Gro.sl (el := 99) hF hO (by first | omega | (simp; omega))
    obtain ⟨ao, co, heo, hno, hSo⟩ := hSo
    rcases hSo with ⟨e0, -⟩ | ⟨bo, offo, cso, elo, go, mdo, mateo, rfl, hbo, hleo, hco⟩
    ·rw [e0] at hbl; simp at hbl; omega
    refine .as 3 (.slice (some ⟨bo, offo, none⟩) bs.length co) rfl heo ?_
    refine .skip (.seq (.seq (.block (.seq (.region (.P2 ?_))))))
    refine .K underlying97 sz99 ?_
    refine .M ag99 (Sees.mem (List.mem_append_right _ hbo)) (cell_of_take (hco ii bi hbi) (k := 0) rfl) ?_
    refine .P ?_
    refine .K underlying99 sz4 ?_
    refine .M ag4 (Sees.mem (rowsH_mem hri)) (map_cell hxi) ?_
    refine .P ?_
    refine .splitB 75 rfl (fun hs_75 => ?_) (fun hs_75 => ?_)
    ·try simp only [nz] at hs_75
     refine .P2 ?_
     refine .K underlying97 sz99 ?_
     refine .M ag99 (Sees.mem (List.mem_append_right _ hbo)) (cell_of_take (hco mm bm hbm) (k := 0) rfl) ?_
     refine .P ?_
     refine .K underlying99 sz4 ?_
     refine .M ag4 (Sees.mem (rowsH_mem hrm)) (map_cell hxm) ?_
     refine .P ?_
     refine .nil (.seq (.cond rfl (fun ht83 => ?_) fun ht83 => ?_))
     ·have hW2 := hW.put (hai.trans hs_75) (ham.trans ht83) hri (by omega)
      refine .region (.P2 ?_)
      refine .K underlying97 sz99 ?_
      refine .M ag99 (Sees.mem (List.mem_append_right _ hbo)) (cell_of_take (hco ii bi hbi) (k := 0) rfl) ?_
      refine .P ?_
      refine .K underlying99 sz4 ?_
      refine .storeRow bool_plain (x := true) (rs := rs) (i := ii) (row := rowi) (k := kk) (r := g_.H 99 cs_) rfl hri (by omega) rfl rfl rfl sz4 rfl rfl ?_
      refine .nil (.blk (.seq (.region (.P2 ?_))))
      refine .W 67 kk ?_
      refine .P ?_
      refine .nil ?_
      exact .loop (kk + 1, _) ⟨by omega, hW2, (by first | exact hbs | (rw [set_fst hri]; exact hbs))⟩ (by show l.length - (kk + 1) < l.length - kk; omega) ⟨rfl, congrArg some heo.symm, rfl, rfl, rfl, trivial⟩ (.refl _)
     have hW2 := hW.skip (.inr (ham.trans ht83))
     refine .skip (.blk (.seq (.region (.P2 ?_))))
     refine .W 67 kk ?_
     refine .P ?_
     refine .nil ?_
     exact .loop (kk + 1, _) ⟨by omega, hW2, (by first | exact hbs | (rw [set_fst hri]; exact hbs))⟩ (by show l.length - (kk + 1) < l.length - kk; omega) ⟨rfl, congrArg some heo.symm, rfl, rfl, rfl, trivial⟩ (.refl _)
    try simp only [nz] at hs_75
    have hW2 := hW.skip (.inl (hai.trans hs_75))
    iterate 7 refine .O ?_
    refine .P ?_
    refine .nil (.seq (.cond_false rfl (.skip (.blk (.seq (.region (.P2 ?_)))))))
    refine .W 67 kk ?_
    refine .P ?_
    refine .nil ?_
    exact .loop (kk + 1, _) ⟨by omega, hW2, (by first | exact hbs | (rw [set_fst hri]; exact hbs))⟩ (by show l.length - (kk + 1) < l.length - kk; omega) ⟨rfl, congrArg some heo.symm, rfl, rfl, rfl, trivial⟩ (.refl _)
   try simp only [nz] at ht65
   refine .exit (.seq (.loop (.here (.blk (.seq (.region (.P2 ?_)))))))
   refine .W 61 ii ?_
   refine .P ?_
   refine .nil ?_
   exact .loop (ii + 1, _) ⟨by omega, hW.nextI hb8 (by omega), hbs⟩ (by show l.length - (ii + 1) < l.length - ii; omega) ⟨rfl, rfl, rfl, rfl, trivial⟩ (.refl _)
  try simp only [nz] at ht59
  refine .exit (.seq (.loop (.here (.blk (.seq (.region (.P2 ?_)))))))
  refine .W 55 mm ?_
  refine .P ?_
  refine .nil ?_
  exact .loop (mm + 1, _) ⟨by omega, hW.nextM (by omega), hbs⟩ (by show l.length - (mm + 1) < l.length - mm; omega) ⟨rfl, rfl, rfl, trivial⟩ (.refl _)
 try simp only [nz] at ht53
 refine .exit (.seq (.loop (.here (.seq (.seq (.region (.P2 ?_)))))))
 refine .nil (.seq (.ret ?_))
 exact .end_ rfl rfl (fun m hm => ⟨(rowsH Value.bool 4 rs ++ g_.H 99 cs_, g_.V bs.length), by rw [hbl]; exact FarA.of (hW.done (by omega)) hW.sh (hbs ▸ hF) (hbl ▸ hO) hnl.1, rfl, hm.ext, hm.news (.refl _)⟩)
theorem rsizes_ok {l : List Ty} {vl : Value} {r : Nat → Nat} {sz : List Int} {m : AW} (hm : m.lo ≤ m.next) (hlS : Sl (Mem m) 5 (RTy (Mem m)) l vl) (hwl : ∀ (i : Nat) (a : Ty), l[i]? = some a → FewT a) (hbd : ∀ (i : Nat) (a : Ty), l[i]? = some a → badB l.length a = false) (hn14 : l.length ≤ 14) (hr0 : Ranked l r) (hrn : ∀ u, r u ≤ l.length) (hz : SzFix l sz) : Fc prog 59 [vl] m fun v m' => ∃ b : Nat, True ∧ v = .slice (some ⟨b, 0, none⟩) l.length l.length ∧ Ext m m' ∧ News m m' [(b, .cells (ints sz) 3 false .plain none)] := by
 have hb8 : Sound8 l := hbd
 obtain ⟨al, cl, rfl, hnl, hl⟩ := hlS
 refine Fc.body (c := _) func59 rfl rfl rfl rfl hm ?_
 refine .seq (.region (.P ?_))
 refine .nil (.seq (.seq (.region (.P ?_))))
 refine .G (ln22 ..) ?_
 refine .makeSlice (el := 3) (mkInts hn14) rfl rfl rfl rfl rfl rfl (fun b10 hb10 => ?_)
 refine .P ?_
 refine .nil (.seq (.seq (.seq (.region (.P ?_)))))
 refine .nil (.seq (.block ?_))
 refine .loop (α := Nat × List Int) (fun q => [(0, .slice al l.length cl), (3, .slice (some ⟨b10, 0, none⟩) l.length l.length), (4, .int .i64 (Int.ofNat (q.1)))]) (fun q => [(b10, .cells (ints q.2) 3 false .plain none)]) (fun q => q.1 ≤ (l.length + 1) ∧ SzUpto l r sz q.2 q.1 0) (fun q => (l.length + 1) - q.1) (0, List.replicate l.length 0) ⟨Nat.zero_le _, SzUpto.zero _ rfl⟩ ⟨rfl, rfl, rfl, trivial⟩ (.refl _) (fun q hq0 => ?_)
 obtain ⟨p_, out⟩ := q
 obtain ⟨hp_, hS⟩ := hq0
 simp only at hp_ hS
 refine .seq (.seq (.region (.P2 ?_)))
 refine .G (ln22 ..) ?_
 refine .P ?_
 refine .nil (.seq (.cond rfl (fun ht14 => ?_) fun ht14 => ?_))
 ·try simp only [nz] at ht14
  refine .skip (.seq (.seq (.block (.seq (.region (.P ?_))))))
  refine .nil (.seq (.block ?_))
  refine .loop (α := Nat × List Int) (fun q => [(0, .slice al l.length cl), (3, .slice (some ⟨b10, 0, none⟩) l.length l.length), (4, .int .i64 (Int.ofNat (p_))), (5, .int .i64 (Int.ofNat (q.1)))]) (fun q => [(b10, .cells (ints q.2) 3 false .plain none)]) (fun q => q.1 ≤ l.length ∧ SzUpto l r sz q.2 p_ q.1) (fun q => l.length - q.1) (0, out) ⟨Nat.zero_le _, hS⟩ ⟨rfl, rfl, rfl, rfl, trivial⟩ (.refl _) (fun q hq0 => ?_)
  obtain ⟨i, out⟩ := q
  obtain ⟨hi, hS⟩ := hq0
  simp only at hi hS
  refine .seq (.seq (.region (.P2 ?_)))
  refine .G (ln22 ..) ?_
  refine .P ?_
  refine .nil (.seq (.cond rfl (fun ht20 => ?_) fun ht20 => ?_))
  ·try simp only [nz] at ht20
   have hlt : i < l.length := by omega
   obtain ⟨a, ha⟩ := gx hlt
   obtain ⟨b, off, cs, el, g, md, mate, rfl, ⟨hb, hh⟩, hle, hc⟩ := so hl hlt
   have hr := hc i a ha
   obtain ⟨ve, vf, va, hr, he, hf, hga⟩ := hr
   have hra : RTy (Mem m) a [.int .i64 a.kind, ve, .string a.name, vf, va] := ⟨ve, vf, va, rfl, he, hf, hga⟩
   have hfS := hf
   obtain ⟨ae, ce, rfl, hne, he⟩ := he
   obtain ⟨af, cf, rfl, hnf, hf⟩ := hf
   refine .skip (.seq (.seq (.block (.seq (.region (.P2 ?_))))))
   refine .K underlying22 sz50 ?_
   refine .F fa50_0 ?_
   refine .M ag3 (.base hh hb (by simp)) (cell_of_take hr (k := 0) rfl) ?_
   refine .nil (.seq (.block ?_))
   refine .joinA (True) [(31, .bool (decide (a.kind = 0 ∨ a.kind = 12 ∨ a.kind = 14)))] ?_ (fun _ => ?_)
   ·refine .seq (.region (.P2 ?_))
    refine .nil (.seq (.cond rfl (fun ht31 => ?_) fun ht31 => ?_))
    ·refine .B 31 ht31 ?_
     try simp only [nz] at ht31
     refine .skip ?_
     refine .as 31 (.bool (decide (a.kind = 0 ∨ a.kind = 12 ∨ a.kind = 14))) rfl (congrArg Value.bool (by apply bbx; simp only [nz, nb, reduceCtorEq]; (try simp only [nq]); omega)) ?_
     exact .J (trivial)
    refine .B 31 ht31 ?_
    try simp only [nz] at ht31
    refine .seq (.region (.P2 ?_))
    refine .nil (.seq (.cond rfl (fun ht31 => ?_) fun ht31 => ?_))
    ·refine .B 31 ht31 ?_
     try simp only [nz] at ht31
     refine .skip ?_
     refine .as 31 (.bool (decide (a.kind = 0 ∨ a.kind = 12 ∨ a.kind = 14))) rfl (congrArg Value.bool (by apply bbx; simp only [nz, nb, reduceCtorEq]; (try simp only [nq]); omega)) ?_
     exact .J (trivial)
    refine .B 31 ht31 ?_
    try simp only [nz] at ht31
    refine .region (.P2 ?_)
    refine .nil ?_
    refine .as 31 (.bool (decide (a.kind = 0 ∨ a.kind = 12 ∨ a.kind = 14))) rfl (congrArg Value.bool (by apply bbx; simp only [nz, nb, reduceCtorEq]; (try simp only [nq]); omega)) ?_
    exact .J (trivial)
   refine .cond rfl (fun ht31 => ?_) (fun ht31 => ?_)
   ·refine .B 31 ht31 ?_
    try simp only [nz] at ht31
    refine .region (.P2 ?_)
    refine .K underlying32 sz3 ?_
    refine .storeRow int_plain (x := 0) (rs := [(b10, out)]) (i := 0) (row := out) (k := i) (r := []) rfl rfl (by rw [hS.1]; omega) rfl rfl rfl sz3 rfl rfl ?_
    have hst := szStep_zero (sz := out) (t := a) (by omega)
    have hS2 := hS.set hb8 hr0 hz ha
    rw [hst] at hS2
    refine .nil (.blk (.blk (.seq (.region (.P2 ?_)))))
    refine .W 22 i ?_
    refine .P ?_
    refine .nil ?_
    exact .loop (i + 1, _) ⟨by omega, hS2⟩ (by show l.length - (i + 1) < l.length - i; omega) ⟨rfl, rfl, rfl, rfl, trivial⟩ (.refl _)
   refine .B 31 ht31 ?_
   try simp only [nz] at ht31
   refine .seq (.region (.P2 ?_))
   refine .nil (.seq (.cond rfl (fun ht38 => ?_) fun ht38 => ?_))
   ·try simp only [nz] at ht38
    refine .seq (.region (.P ?_))
    refine .nil (.seq (.seq (.seq (.region (.P ?_)))))
    refine .nil (.seq (.block ?_))
    refine .loop (α := Nat) (fun k => [(0, .slice (some ⟨b, off, none⟩) l.length cl), (3, .slice (some ⟨b10, 0, none⟩) l.length l.length), (4, .int .i64 (Int.ofNat (p_))), (5, .int .i64 (Int.ofNat (i))), (6, .int .i64 (foldS out (a.elems.take k))), (7, .int .i64 (Int.ofNat (k)))]) (fun k => [(b10, .cells (ints out) 3 false .plain none)]) (fun k => k ≤ a.elems.length) (fun k => a.elems.length - k) 0 (Nat.zero_le _) ⟨rfl, rfl, rfl, rfl, rfl, rfl, trivial⟩ (.refl _) (fun k hk => ?_)
    refine .seq (.seq (.region (.P3 ?_)))
    refine .K underlying22 sz50 ?_
    refine .F fa50_1 ?_
    refine .M ag32 (.base hh hb (by simp)) (cell_of_take hr (k := 1) rfl) ?_
    refine .G (ln32 ..) ?_
    refine .P ?_
    refine .nil (.seq (.cond rfl (fun ht47 => ?_) fun ht47 => ?_))
    ·try simp only [nz] at ht47
     have hltE : k < a.elems.length := by omega
     obtain ⟨p, hp⟩ := gx hltE
     obtain ⟨bE, offE, csE, elE, gE, mdE, mateE, rfl, ⟨hbE, hhE⟩, hleE, hcE⟩ := so he hltE
     have hrp := hcE k p hp
     obtain ⟨q, rfl, hq⟩ := parts_in (hbd i a ha) (parts_elem hp)
     obtain ⟨s, hs⟩ : ∃ s, out[q]? = some s := ⟨_, List.getElem?_eq_getElem (by rw [hS.1]; exact hq)⟩
     have hr1 := foldS_range hS.2.1 (a.elems.take k)
     have hr2 := hS.2.1 q s hs
     refine .skip (.seq (.seq (.block (.region ?_))))
     iterate 4 refine .P ?_
     refine .K underlying22 sz50 ?_
     refine .F fa50_1 ?_
     refine .M ag32 (.base hh hb (by simp)) (cell_of_take hr (k := 1) rfl) ?_
     refine .P ?_
     refine .K underlying32 sz3 ?_
     refine .M ag3 (.base hhE hbE (by simp)) (cell_of_take hrp (k := 0) rfl) ?_
     refine .indexAddr rfl rfl rfl rfl underlying32 sz3 rfl rfl (hq) ?_
     refine .load rfl rfl rfl rfl rfl ag3 (by repeat first | exact .head | exact .app .head | exact .base ‹_› ‹_› (by simp) | refine .tail ?_ | refine .app ?_) (map_cell hs) ?_
     refine .P ?_
     refine .as 62 (.int .i64 (foldS out (a.elems.take k) + s)) rfl (congrArg (Value.int .i64) (wr_small (by omega) (by omega))) ?_
     refine .min rfl rfl rfl rfl rfl rfl ?_
     refine .as 63 (.int .i64 (foldS out (a.elems.take (k + 1)))) rfl (congrArg (Value.int .i64) (by rw [foldS_succ hp, szAt_get hs]; rfl)) ?_
     refine .P ?_
     refine .nil (.blk (.seq (.region (.P2 ?_))))
     refine .W 49 k ?_
     refine .P ?_
     refine .nil ?_
     exact .loop (k + 1) hltE (by omega) ⟨rfl, rfl, rfl, rfl, rfl, rfl, trivial⟩ (.refl _)
    try simp only [nz] at ht47
    refine .exit (.seq (.loop (.here (.seq (.region (.P3 ?_))))))
    refine .as 66 (.int .i64 (foldS out a.elems)) rfl (congrArg (Value.int .i64) (by rw [List.take_of_length_le (by omega)])) ?_
    refine .K underlying32 sz3 ?_
    refine .storeRow int_plain (x := foldS out a.elems) (rs := [(b10, out)]) (i := 0) (row := out) (k := i) (r := []) rfl rfl (by rw [hS.1]; omega) rfl rfl rfl sz3 rfl rfl ?_
    have hst := szStep_tuple (sz := out) (t := a) (by omega)
    have hS2 := hS.set hb8 hr0 hz ha
    rw [hst] at hS2
    refine .nil (.blk (.blk (.seq (.region (.P2 ?_)))))
    refine .W 22 i ?_
    refine .P ?_
    refine .nil ?_
    exact .loop (i + 1, _) ⟨by omega, hS2⟩ (by show l.length - (i + 1) < l.length - i; omega) ⟨rfl, rfl, rfl, rfl, trivial⟩ (.refl _)
   try simp only [nz] at ht38
   refine .seq (.region (.P2 ?_))
   refine .nil (.seq (.cond rfl (fun ht68 => ?_) fun ht68 => ?_))
   ·try simp only [nz] at ht68
    refine .D [(13, 0), (13, 0), (15, 0), (15, 0), (15, 12), (3, 28), (7, 60), (12, 0), (12, 0), (12, 0), (12, 768), (12, 1792), (0, 3840), (7, 8188), (15, 16380), (15, 32764), (15, 65535), (7, 131071)] (by kernel_rfl) (by kernel_rfl) (fun base hbase hB => ?_)
    iterate 4 refine .P ?_
    refine .K underlying22 sz50 ?_
    refine .loadAgg rfl rfl rfl rfl rfl rfl rfl rfl ag50 sz50 (.base hh hb (by simp)) (by omega) hr ?_
    refine .call _ rfl rfl rfl rfl rfl rfl rfl rfl rfl (fun m hm => rtag_ok hm.lole (RTy.mono (Mem.kr hm) _ _ hra)) ?_
    iterate 3 refine .P ?_
    refine .K underlying22 sz50 ?_
    refine .F fa50_3 ?_
    refine .loadOld rfl rfl rfl rfl rfl rfl ag47 (.base hh hb (by simp)) (cell_of_take hr (k := 3) rfl) (by first | exact hB _ _ (.head _) | exact hB _ _ (.tail _ (.head _)) | exact hB _ _ (.tail _ (.tail _ (.head _))) | exact hB _ _ (.tail _ (.tail _ (.tail _ (.head _)))) | exact hB _ _ (List.mem_append_right _ (.head _)) | exact hB _ _ (List.mem_append_right _ (.tail _ (.head _))) | exact Nat.lt_of_lt_of_le ‹_› hbase) ?_
    refine .call _ rfl rfl rfl rfl rfl rfl rfl rfl rfl (fun m hm => rsum_ok hm.lole (ints_sl (l := out) (InH.kr (l := [(b10, .cells (ints out) 3 false .plain none)]) hm (fun p_ hp_ => by simpa using hp_) _ _ (.head _)) hS.1 (by omega)) (hfS.mono (Mem.kr hm) fun _ _ h => h) hS.2.1 (parts_ok_fld (by rw [hS.1]; exact hbd i a ha) fun x hx => parts_fields (List.mem_map.2 ⟨x, hx, rfl⟩))) ?_
    refine .P ?_
    refine .as 84 (.int .i64 ((if 0 < a.arms.length then 1 else 0) + sumF out a.fields)) rfl (congrArg (Value.int .i64) (wr_small (by have := sumF_range hS.2.1 a.fields; split <;> omega) (by have := sumF_range hS.2.1 a.fields; split <;> omega))) ?_
    refine .min rfl rfl rfl rfl rfl rfl rfl (.K underlying32 sz3 ?_)
    refine .storeRow int_plain (x := cap257 ((if 0 < a.arms.length then 1 else 0) + sumF out a.fields)) (rs := [(b10, out)]) (j := 0) (row := out) (k := i) (r := []) rfl rfl (by rw [hS.1]; omega) rfl rfl rfl rfl rfl rfl rfl sz3 rfl rfl ?_
    have hst := szStep_adt (sz := out) (t := a) (by omega)
    have hS2 := hS.set hb8 hr0 hz ha
    rw [hst] at hS2
    refine .nil (.blk (.blk (.seq (.region (.P2 ?_)))))
    refine .W 22 i ?_
    refine .P ?_
    refine .nil ?_
    exact .loop (i + 1, _) ⟨by omega, hS2⟩ (by show l.length - (i + 1) < l.length - i; omega) ⟨rfl, rfl, rfl, rfl, trivial⟩ (.refl _)
   try simp only [nz] at ht68
   refine .region (.P2 ?_)
   refine .K underlying32 sz3 ?_
   refine .storeRow int_plain (x := 1) (rs := [(b10, out)]) (i := 0) (row := out) (k := i) (r := []) rfl rfl (by rw [hS.1]; omega) rfl rfl rfl sz3 rfl rfl ?_
   have hst := szStep_one (sz := out) (t := a) (by omega) (by omega) (by omega)
   have hS2 := hS.set hb8 hr0 hz ha
   rw [hst] at hS2
   refine .nil (.blk (.blk (.seq (.region (.P2 ?_)))))
   refine .W 22 i ?_
   refine .P ?_
   refine .nil ?_
   exact .loop (i + 1, _) ⟨by omega, hS2⟩ (by show l.length - (i + 1) < l.length - i; omega) ⟨rfl, rfl, rfl, rfl, trivial⟩ (.refl _)
  try simp only [nz] at ht20
  refine .exit (.seq (.loop (.here (.blk (.seq (.region (.P2 ?_)))))))
  refine .W 16 p_ ?_
  refine .P ?_
  refine .nil ?_
  exact .loop (p_ + 1, _) ⟨by omega, hS.next (by omega) hz⟩ (by show (l.length + 1) - (p_ + 1) < (l.length + 1) - p_; omega) ⟨rfl, rfl, rfl, trivial⟩ (.refl _)
 try simp only [nz] at ht14
 refine .exit (.seq (.loop (.here (.seq (.seq (.region (.P2 ?_)))))))
 refine .nil (.seq (.ret ?_))
 exact .end_ rfl rfl (fun m hm => by have hfin := hS.done (fun u => by have := hrn u; omega); subst hfin; exact ⟨b10, trivial, rfl, hm.ext, hm.news (.refl _)⟩)
theorem rlarge_ok {sz : List Int} {vs : Value} {s : Int} {t : Ty} {cs : List Value} {m : AW} (hm : m.lo ≤ m.next) (hs : Sl (Mem m) 1 RInt sz vs) (ht : RTy (Mem m) t cs) (hw : FewT t) (hz : SzOk sz) (hba : badB sz.length t = false) : Fc prog 60 [vs, .agg ⟨cs⟩, .int .i64 s] m fun v m' => v = .bool (largeB sz s t) ∧ Ext m m' := by
 have htS := ht
 obtain ⟨ve, vf, va, rfl, he, hf, ha⟩ := ht
 have heS := he
 have hfS := hf
 have haS := ha
 obtain ⟨ae, ce, rfl, hne, he⟩ := he
 obtain ⟨af, cf, rfl, hnf, hf⟩ := hf
 obtain ⟨aa, ca, rfl, hna, ha⟩ := ha
 have k1 := hw.elems
 have k2 := hw.fields
 have k3 := hw.arms
 refine Fc.body (c := _) func60 rfl rfl rfl rfl hm ?_
 refine .seq (.region ?_)
 refine .box rfl rfl rfl rfl rfl (fun b4 hb4 => ?_)
 refine .P ?_
 refine .nil (.seq (.seq (.seq (.region (.P2 ?_)))))
 refine .nil (.seq (.cond rfl (fun ht11 => ?_) fun ht11 => ?_))
 ·try simp only [nz] at ht11
  refine .seq (.region (.P ?_))
  refine .nil (.seq (.ret (.seq ?_)))
  exact .end_ rfl rfl (fun m hm => ⟨congrArg Value.bool ((large_yes (by omega)).symm), hm.ext⟩)
 try simp only [nz] at ht11
 refine .skip (.seq (.seq (.seq (.region (.P ?_)))))
 refine .nil (.seq (.block ?_))
 refine .loop (α := Nat) (fun i => [(0, vs), (4, .pointer (some ⟨b4, 0, none⟩)), (7, .int .i64 (Int.ofNat (i)))]) (fun i => [(b4, .cells (cellsOfV (.agg ⟨[.int .i64 t.kind, .slice ae t.elems.length ce, .string t.name, .slice af t.fields.length cf, .slice aa t.arms.length ca]⟩)) 50 false .plain none)]) (fun i => i ≤ t.arms.length ∧ ∀ (j : Nat) (x : Arm), j < i → t.arms[j]? = some x → armL sz t x = false) (fun i => t.arms.length - i) 0 ⟨Nat.zero_le _, fun _ _ h => (by cases h)⟩ ⟨rfl, rfl, rfl, trivial⟩ (.refl _) (fun i hi => ?_)
 refine .seq (.seq (.region (.P ?_)))
 refine .F fa50_4 ?_
 refine .L ag48 ?_
 refine .G (ln48 ..) ?_
 refine .P ?_
 refine .nil (.seq (.cond rfl (fun ht16 => ?_) fun ht16 => ?_))
 ·try simp only [nz] at ht16
  have hlt : i < t.arms.length := by omega
  obtain ⟨x, hx⟩ := gx hlt
  obtain ⟨b, off, cs, el, g, md, mate, rfl, ⟨hb, hh⟩, hle, hc⟩ := so ha hlt
  have hr := hc i x hx
  obtain ⟨vx, hra, hfa⟩ := hr
  have hxS := hfa
  obtain ⟨ax, cx, rfl, hnx, hfa⟩ := hfa
  have k4 := hw.afields i x hx
  obtain ⟨L, hW⟩ := withL_some (List.mem_of_getElem? hx)
  refine .skip (.seq (.seq (.block (.seq ?_))))
  refine .D [(3, 0), (15, 0), (3, 2), (15, 0), (15, 14), (15, 30), (3, 62), (7, 127), (15, 255), (15, 511), (15, 511), (15, 1023), (15, 4095)] (by kernel_rfl) (by kernel_rfl) (fun base hbase hB => ?_)
  refine .E ag50 sz50 ?_
  refine .F fa50_4 ?_
  refine .J ag48 ?_
  refine .P ?_
  refine .K underlying48 sz55 ?_
  refine .F fa55_0 ?_
  refine .M ag9 (.base hh hb (by simp)) (cell_of_take hra (k := 0) rfl) ?_
  refine .calln _ _ _ rfl rfl rfl rfl rfl rfl rfl rfl rfl (fun m hm => rwith_ok hm.lole (RTy.mono (Mem.kr hm) _ _ htS) hw) (fun z hzw => ?_)
  refine .as 27 (.tuple ⟨[z.2, .bool true]⟩) rfl (WithV.some (x := z) hW).symm ?_
  iterate 5 refine .P ?_
  refine .nil (.seq (.seq (.region (.P2 ?_))))
  refine .call _ rfl rfl rfl rfl rfl rfl (fun m hm => rsum_ok hm.lole (hs.mono (Mem.kr hm) fun _ _ h => h) ((hzw.1 _ hW).1.mono (InH.kr hm fun p hp => List.mem_append_left _ hp) fun _ _ h => h) hz (parts_ok_fld hba fun x hx => withL_parts hW hx)) ?_
  refine .P ?_
  refine .as 33 (.int .i64 (1 + sumF sz L)) rfl (congrArg (Value.int .i64) (wr_small (by have := sumF_range hz L; omega) (by have := sumF_range hz L; omega))) ?_
  refine .P ?_
  refine .nil (.seq (.cond rfl (fun ht34 => ?_) fun ht34 => ?_))
  ·try simp only [nz] at ht34
   refine .seq (.region (.P ?_))
   refine .nil (.seq (.ret (.blk (.seq (.loop (.blk (.seq ?_)))))))
   exact .end_ rfl rfl (fun m hm => ⟨congrArg Value.bool ((large_arm hx hW (by omega)).symm), hm.ext⟩)
  try simp only [nz] at ht34
  refine .skip (.blk (.seq (.region (.P2 ?_))))
  refine .W 18 i ?_
  refine .P ?_
  refine .nil ?_
  exact .loop (i + 1) ⟨hlt, upto_succ hi.2 hx (armL_no hW (by omega))⟩ (by omega) ⟨rfl, rfl, rfl, trivial⟩ (List.sublist_append_right _ _)
 try simp only [nz] at ht16
 refine .exit (.seq (.loop (.here (.seq (.seq (.region (.P ?_)))))))
 refine .nil (.seq (.ret ?_))
 exact .end_ rfl rfl (fun m hm => ⟨congrArg Value.bool ((large_not (by omega) fun j x hj hx => hi.2 j x (by omega) hx).symm), hm.ext⟩)
theorem sfields_ok {l : List Ty} {al : Option Addr} {cl bs bm : Nat} {sz : List Int} {x0 : List MapEntry × Nat} {L : List Fld} {vf : Value} {m : AW} (hm : m.lo ≤ m.next) (hk : Knows [bm] m m (MapC bm x0)) (hM : MapA sz x0) (hp : SzPre l al cl bs bm m) (hwl : ∀ (i : Nat) (a : Ty), l[i]? = some a → FewT a) (hbd : ∀ (i : Nat) (a : Ty), l[i]? = some a → badB l.length a = false) (hz : SzFix l sz) (hf : Sl (Off [bm] m) 2 RFld L vf) (hL : ∀ (j : Nat) (x : Fld), L[j]? = some x → ∃ q : Nat, x.type = Int.ofNat q ∧ q < l.length ∧ SizeC prog l al cl bs bm sz q) : Fc prog 75 [ptr bs, vf] m fun v m' => SzQ sz bm (sumF sz L) m v m' := by
 obtain ⟨af, cf, rfl, hnf, hf⟩ := hf
 refine Fc.bodyS (S := [bm]) (c := _) func75 rfl rfl rfl rfl hk ?_
 refine .seq (.region (.P ?_))
 refine .nil (.seq (.seq (.region (.P ?_))))
 refine .nil (.seq (.seq (.seq (.region (.P ?_)))))
 refine .G (ln47 ..) ?_
 refine .P ?_
 refine .nil (.seq (.block ?_))
 refine .loop (α := Nat × List MapEntry × Nat) (fun q => [(0, ptr bs), (5, .int .i64 (sumF sz (L.take q.1))), (8, .slice af L.length cf), (9, .int .i64 (Int.ofNat (L.length))), (10, .int .i64 (Int.ofNat (q.1)))]) (fun q => [(bm, .map q.2.1 q.2.2)]) (fun q => q.1 ≤ L.length ∧ MapA sz q.2 ∧ True) (fun q => L.length - q.1) (0, x0) ⟨Nat.zero_le _, hM, trivial⟩ ⟨rfl, rfl, rfl, rfl, rfl, trivial⟩ (.refl _) (fun q hq0 => ?_)
 obtain ⟨i, x1⟩ := q
 obtain ⟨hi, hM1, hI⟩ := hq0
 simp only at hi hM1 hI
 refine .seq (.region (.P ?_))
 refine .nil (.seq (.seq (.cond rfl (fun ht11 => ?_) fun ht11 => ?_)))
 ·try simp only [nz] at ht11
  have hlt : i < L.length := by omega
  obtain ⟨x, hx⟩ := gx hlt
  obtain ⟨b, off, cs, el, g, md, mate, rfl, ⟨hb, hh⟩, hle, hc⟩ := so hf hlt
  have hr := hc i x hx
  obtain ⟨q, hq0, hq, hsc⟩ := hL i x hx
  have hr1 := sumF_range hz.ok (L.take i)
  have hr2 := szAt_range hz.ok (Int.ofNat q)
  refine .skip (.seq (.seq (.block (.seq (.region (.K underlying47 sz132 ?_))))))
  refine .A ag132 sz132 (Off.sees rfl rfl _ _ ⟨hb, hh⟩) hr ?_
  refine .alloc rfl rfl rfl rfl zr132 (fun b7 hb7 => ?_)
  refine .S sz132 ?_
  refine .nil (.seq (.region (.P2 ?_)))
  refine .F fa132_1 ?_
  refine .L ag3 ?_
  refine .as 17 (.int .i64 (Int.ofNat q)) rfl (congrArg (Value.int .i64) hq0) ?_
  refine .callc (fun z => MapA sz z) (fun _ => .int .i64 (szAt sz (Int.ofNat q))) (fun z => [(bm, .map z.1 z.2)]) (.tail .one) rfl rfl rfl rfl rfl rfl (fun m2 g1 g2 => hsc m2 _ g1.lole' g2 hM1 (hp.mono (Off.kr g1.kr))) (fun y hy => ?_)
  refine .P ?_
  refine .as 19 (.int .i64 (sumF sz (L.take i) + szAt sz (Int.ofNat q))) rfl (congrArg (Value.int .i64) (wr_small (by show (0 : Int) ≤ sumF sz (L.take i) + szAt sz (Int.ofNat q); omega) (by show sumF sz (L.take i) + szAt sz (Int.ofNat q) ≤ 1000000; omega))) ?_
  refine .min rfl rfl rfl rfl rfl rfl ?_
  refine .as 20 (.int .i64 (sumF sz (L.take (i + 1)))) rfl (congrArg (Value.int .i64) (by rw [sumF_succ hx, hq0]; rfl)) ?_
  refine .P ?_
  refine .nil (.blk (.seq (.region (.P ?_))))
  refine .W 21 i ?_
  refine .P ?_
  refine .nil ?_
  exact .loop (i + 1, _) ⟨by omega, hy, trivial⟩ (by show L.length - (i + 1) < L.length - i; omega) ⟨rfl, rfl, rfl, rfl, rfl, trivial⟩ (.cons_cons _ (List.nil_sublist _))
 try simp only [nz] at ht11
 refine .exit (.seq (.loop (.here (.seq (.seq (.region (.P2 ?_)))))))
 refine .nil (.seq (.ret ?_))
 exact .end_ rfl rfl (fun m hm => ⟨x1, hM1, congrArg (Value.int .i64) (by rw [List.take_of_length_le (by omega)]), hm⟩)
theorem srecord_ok {l : List Ty} {al : Option Addr} {cl bs bm : Nat} {sz : List Int} {x0 : List MapEntry × Nat} {L : List Fld} {vf : Value} {t : Ty} {cs : List Value} {m : AW} (hm : m.lo ≤ m.next) (hk : Knows [bm] m m (MapC bm x0)) (hM : MapA sz x0) (hp : SzPre l al cl bs bm m) (hwl : ∀ (i : Nat) (a : Ty), l[i]? = some a → FewT a) (hbd : ∀ (i : Nat) (a : Ty), l[i]? = some a → badB l.length a = false) (hz : SzFix l sz) (ht : RTy (Off [bm] m) t cs) (hf : Sl (Off [bm] m) 2 RFld L vf) (hL : ∀ (j : Nat) (x : Fld), L[j]? = some x → ∃ q : Nat, x.type = Int.ofNat q ∧ q < l.length ∧ SizeC prog l al cl bs bm sz q) : Fc prog 99 [ptr bs, .agg ⟨cs⟩, vf] m fun v m' => SzQ sz bm (recS sz t L) m v m' := by
 obtain ⟨ve, vg, va, rfl, he, hg, ha⟩ := ht
 obtain ⟨aa, ca, rfl, hna, ha⟩ := ha
 have hr1 := sumF_range hz.ok L
 refine Fc.bodyS (S := [bm]) (c := _) func99 rfl rfl rfl rfl hk ?_
 refine .seq (.region ?_)
 refine .box rfl rfl rfl rfl rfl (fun b4 hb4 => ?_)
 refine .P ?_
 refine .nil (.seq (.seq (.region (.P2 ?_))))
 refine .callc (fun z => MapA sz z) (fun _ => .int .i64 (sumF sz L)) (fun z => [(bm, .map z.1 z.2)]) (.tail .one) rfl rfl rfl rfl rfl rfl (fun m2 g1 g2 => sfields_ok g1.lole' g2 hM (hp.mono (Off.kr g1.kr)) hwl hbd hz (hf.mono (Off.kr g1.kr) fun _ _ h => h) hL) (fun y hy => ?_)
 refine .P ?_
 refine .nil (.seq (.seq (.seq (.region (.F fa50_4 ?_)))))
 refine .L ag48 ?_
 refine .G (ln48 ..) ?_
 refine .P ?_
 refine .nil (.seq (.cond rfl (fun ht14 => ?_) fun ht14 => ?_))
 ·try simp only [nz] at ht14
  have hrec : recS sz t L = cap257 (sumF sz L + 1) := by unfold recS; rw [if_pos (by omega)]
  refine .region (.P2 ?_)
  refine .as 16 (.int .i64 (sumF sz L + 1)) rfl (congrArg (Value.int .i64) (wr_small (by omega) (by omega))) ?_
  refine .min rfl rfl rfl rfl rfl rfl (.P ?_)
  refine .nil (.seq (.seq (.region (.P2 ?_))))
  refine .nil (.seq (.ret ?_))
  exact .end_ rfl rfl (fun m hm => ⟨y, hy, congrArg (Value.int .i64) (by rw [hrec] <;> rfl), hm.sub (.cons_cons _ (List.nil_sublist _))⟩)
 try simp only [nz] at ht14
 have hrec : recS sz t L = sumF sz L := by unfold recS; rw [if_neg (by omega)]
 refine .skip (.seq (.seq (.region (.P2 ?_))))
 refine .nil (.seq (.ret ?_))
 exact .end_ rfl rfl (fun m hm => ⟨y, hy, congrArg (Value.int .i64) (by rw [hrec] <;> rfl), hm.sub (.cons_cons _ (List.nil_sublist _))⟩)
theorem ssize_step {l : List Ty} {al : Option Addr} {cl bs bm : Nat} {sz : List Int} {x0 : List MapEntry × Nat} {t : Nat} {r : Nat → Nat} {m : AW} (hm : m.lo ≤ m.next) (hk : Knows [bm] m m (MapC bm x0)) (hM : MapA sz x0) (hp : SzPre l al cl bs bm m) (hwl : ∀ (i : Nat) (a : Ty), l[i]? = some a → FewT a) (hbd : ∀ (i : Nat) (a : Ty), l[i]? = some a → badB l.length a = false) (hz : SzFix l sz) (hr0 : Ranked l r) (hlt : t < l.length) (ih : ∀ t2, r t2 < r t → t2 < l.length → SizeC prog l al cl bs bm sz t2) : Fc prog 74 [ptr bs, .int .i64 (Int.ofNat (t))] m fun v m' => SzQ sz bm (szAt sz (Int.ofNat t)) m v m' := by
 have hsS := hp.hs
 obtain ⟨a_, cap_, he_, hnl, hl⟩ := hp.hl
 cases he_
 obtain ⟨a, ha⟩ := gx hlt
 obtain ⟨b, off, cs, el, g, md, mate, rfl, ⟨hb, hh⟩, hle, hc⟩ := so hl hlt
 have hr := hc t a ha
 obtain ⟨ve, vf, va, hr, he, hf, hga⟩ := hr
 have hraS : RTy (Off [bm] m) a [.int .i64 a.kind, ve, .string a.name, vf, va] := ⟨ve, vf, va, rfl, he, hf, hga⟩
 have hfS := hf
 obtain ⟨ae, ce, rfl, hne, he⟩ := he
 obtain ⟨af, cf, rfl, hnf, hf⟩ := hf
 obtain ⟨aa, ca, rfl, hna, hga⟩ := hga
 have hw := hwl t a ha
 have hba := hbd t a ha
 have hzt : szAt sz (Int.ofNat t) = szStep sz a := szAt_get (hz.fix_ t a ha)
 have hsc : ∀ (p : Int), a.kind ≠ 9 → p ∈ partsL a → ∃ q : Nat, p = Int.ofNat q ∧ q < l.length ∧ SizeC prog l (some ⟨b, off, none⟩) cl bs bm sz q := fun p h9 hp2 => by obtain ⟨j, hj⟩ := List.getElem?_of_mem hp2; obtain ⟨q, rfl, hq⟩ := parts_in hba hj; exact ⟨q, rfl, hq, ih q (hr0 t q ⟨a, ha, h9, hp2⟩) hq⟩
 have hM0 := hM
 obtain ⟨lM, hP, hD⟩ := hM
 refine Fc.bodyS (S := [bm]) (c := _) func74 rfl rfl rfl rfl hk ?_
 refine .seq (.region (.P ?_))
 refine .nil (.seq (.seq (.seq (.region (.P2 ?_)))))
 refine .F fa157_1 ?_
 refine .M ag155 (Off.sees rfl rfl _ _ hsS) rfl ?_
 refine .P ?_
 rcases hgm : getP (Int.ofNat t) lM with _ | gv
 ·refine .lookupOk (K := Value.int .i64) .one hP (KeyOk.int underlying3) rfl rfl rfl rfl underlying155 zr3 rfl rfl (v := .tuple ⟨[.int .i64 0, .bool false]⟩) (by rw [hgm]) ?_
  iterate 5 refine .P ?_
  refine .nil (.seq (.seq (.region (.P ?_))))
  refine .nil (.seq (.cond_false rfl (.skip (.seq (.seq (.region (.P ?_)))))))
  refine .nil (.seq (.seq (.seq (.region (.P2 ?_)))))
  refine .F fa157_0 ?_
  refine .M ag22 (Off.sees rfl rfl _ _ hsS) rfl ?_
  refine .P ?_
  refine .K underlying22 sz50 ?_
  refine .A ag50 sz50 (Off.sees rfl rfl _ _ ⟨hb, hh⟩) hr ?_
  refine .alloc rfl rfl rfl rfl zr50 (fun b8 hb8 => ?_)
  refine .S sz50 ?_
  refine .nil (.seq (.seq (.region (.F fa50_0 ?_))))
  refine .L ag3 ?_
  refine .nil (.seq (.block ?_))
  refine .joinA (True) [(31, .bool (decide (a.kind = 0 ∨ a.kind = 12 ∨ a.kind = 14)))] ?_ (fun _ => ?_)
  ·refine .seq (.region (.P2 ?_))
   refine .nil (.seq (.cond rfl (fun ht31 => ?_) fun ht31 => ?_))
   ·refine .B 31 ht31 ?_
    try simp only [nz] at ht31
    have hst : (0 : Int) = szAt sz (Int.ofNat t) := by rw [hzt, szStep_zero (by omega)]
    have hMe := hM0
    refine .skip ?_
    refine .as 31 (.bool (decide (a.kind = 0 ∨ a.kind = 12 ∨ a.kind = 14))) rfl (congrArg Value.bool (by apply bbx; simp only [nz, nb, reduceCtorEq]; (try simp only [nq]); omega)) ?_
    exact .J (trivial)
   refine .B 31 ht31 ?_
   try simp only [nz] at ht31
   refine .seq (.region (.P2 ?_))
   refine .nil (.seq (.cond rfl (fun ht31 => ?_) fun ht31 => ?_))
   ·refine .B 31 ht31 ?_
    try simp only [nz] at ht31
    have hst : (0 : Int) = szAt sz (Int.ofNat t) := by rw [hzt, szStep_zero (by omega)]
    have hMe := hM0
    refine .skip ?_
    refine .as 31 (.bool (decide (a.kind = 0 ∨ a.kind = 12 ∨ a.kind = 14))) rfl (congrArg Value.bool (by apply bbx; simp only [nz, nb, reduceCtorEq]; (try simp only [nq]); omega)) ?_
    exact .J (trivial)
   refine .B 31 ht31 ?_
   try simp only [nz] at ht31
   refine .region (.P2 ?_)
   refine .nil ?_
   refine .as 31 (.bool (decide (a.kind = 0 ∨ a.kind = 12 ∨ a.kind = 14))) rfl (congrArg Value.bool (by apply bbx; simp only [nz, nb, reduceCtorEq]; (try simp only [nq]); omega)) ?_
   exact .J (trivial)
  refine .cond rfl (fun ht31 => ?_) (fun ht31 => ?_)
  ·refine .B 31 ht31 ?_
   try simp only [nz] at ht31
   have hst : (0 : Int) = szAt sz (Int.ofNat t) := by rw [hzt, szStep_zero (by omega)]
   have hMe := hM0
   refine .region (.P ?_)
   refine .nil (.blk (.seq (.seq (.region (.P2 ?_)))))
   refine .F fa157_1 ?_
   refine .M ag155 (Off.sees rfl rfl _ _ hsS) rfl ?_
   refine .P2 ?_
   refine .as 63 (.int .i64 (szAt sz (Int.ofNat t))) rfl (congrArg (Value.int .i64) hst) ?_
   obtain ⟨lE, hPq, hDq⟩ := hMe
   first | (refine .mapUpdate (K := Value.int .i64) .one hPq (KeyOk.int underlying3) rfl rfl rfl underlying155 rfl rfl rfl (fun es9 c9 hP9 => ?_)) | (refine .mapUpdate (K := Value.int .i64) (.tail .one) hPq (KeyOk.int underlying3) rfl rfl rfl underlying155 rfl rfl rfl (fun es9 c9 hP9 => ?_))
   refine .nil (.seq (.seq (.region (.P2 ?_))))
   refine .nil (.seq (.ret ?_))
   exact .end_ rfl rfl (fun m hm => ⟨(es9, c9), MapA.put hDq hP9, congrArg (Value.int .i64) hst, hm.sub (.cons_cons _ (List.nil_sublist _))⟩)
  refine .B 31 ht31 ?_
  try simp only [nz] at ht31
  refine .seq (.region (.P2 ?_))
  refine .nil (.seq (.cond rfl (fun ht35 => ?_) fun ht35 => ?_))
  ·try simp only [nz] at ht35
   refine .seq (.region (.P ?_))
   refine .nil (.seq (.seq (.region (.F fa50_1 ?_))))
   refine .L ag32 ?_
   refine .G (ln32 ..) ?_
   refine .P ?_
   refine .nil (.seq (.block ?_))
   refine .loop (α := Nat × List MapEntry × Nat) (fun q => [(0, ptr bs), (1, .int .i64 (Int.ofNat (t))), (7, .int .i64 (foldS sz (a.elems.take q.1))), (38, .slice ae a.elems.length ce), (39, .int .i64 (Int.ofNat (a.elems.length))), (40, .int .i64 (Int.ofNat (q.1)))]) (fun q => [(bm, .map q.2.1 q.2.2)]) (fun q => q.1 ≤ a.elems.length ∧ MapA sz q.2 ∧ True) (fun q => a.elems.length - q.1) (0, x0) ⟨Nat.zero_le _, hM0, trivial⟩ ⟨rfl, rfl, rfl, rfl, rfl, rfl, trivial⟩ (.cons _ (.refl _)) (fun q hq0 => ?_)
   obtain ⟨i, x1⟩ := q
   obtain ⟨hi, hM1, hI⟩ := hq0
   simp only at hi hM1 hI
   refine .seq (.region (.P ?_))
   refine .nil (.seq (.seq (.cond rfl (fun ht41 => ?_) fun ht41 => ?_)))
   ·try simp only [nz] at ht41
    have hltE : i < a.elems.length := by omega
    obtain ⟨p, hp_⟩ := gx hltE
    obtain ⟨bE, offE, csE, elE, gE, mdE, mateE, rfl, ⟨hbE, hhE⟩, hleE, hcE⟩ := so he hltE
    have hrp := hcE i p hp_
    obtain ⟨q, rfl, hq, hsq⟩ := hsc p (by omega) (parts_elems (List.mem_of_getElem? hp_))
    have hr1 := foldS_range hz.ok (a.elems.take i)
    have hr2 := szAt_range hz.ok (Int.ofNat q)
    refine .skip (.seq (.seq (.block (.seq (.region (.K underlying32 sz3 ?_))))))
    refine .M ag3 (Off.sees rfl rfl _ _ ⟨hbE, hhE⟩) (cell_of_take hrp (k := 0) rfl) ?_
    refine .P ?_
    refine .nil (.seq (.region (.P3 ?_)))
    refine .callc (fun z => MapA sz z) (fun _ => .int .i64 (szAt sz (Int.ofNat q))) (fun z => [(bm, .map z.1 z.2)]) .one rfl rfl rfl rfl rfl rfl (fun m2 g1 g2 => hsq m2 _ g1.lole' g2 hM1 (hp.mono (Off.kr g1.kr))) (fun y hy => ?_)
    refine .P ?_
    refine .as 48 (.int .i64 (foldS sz (a.elems.take i) + szAt sz (Int.ofNat q))) rfl (congrArg (Value.int .i64) (wr_small (by show (0 : Int) ≤ foldS sz (a.elems.take i) + szAt sz (Int.ofNat q); omega) (by show foldS sz (a.elems.take i) + szAt sz (Int.ofNat q) ≤ 1000000; omega))) ?_
    refine .min rfl rfl rfl rfl rfl rfl ?_
    refine .as 49 (.int .i64 (foldS sz (a.elems.take (i + 1)))) rfl (congrArg (Value.int .i64) (by rw [foldS_succ hp_]; rfl)) ?_
    refine .P ?_
    refine .nil (.blk (.seq (.region (.P ?_))))
    refine .W 50 i ?_
    refine .P ?_
    refine .nil ?_
    exact .loop (i + 1, _) ⟨by omega, hy, trivial⟩ (by show a.elems.length - (i + 1) < a.elems.length - i; omega) ⟨rfl, rfl, rfl, rfl, rfl, rfl, trivial⟩ (.refl _)
   try simp only [nz] at ht41
   have hst : foldS sz (a.elems.take i) = szAt sz (Int.ofNat t) := by rw [hzt, szStep_tuple (by omega), List.take_of_length_le (by omega)]
   have hMe := hM1
   refine .exit (.seq (.loop (.here (.blk (.seq (.seq (.region (.P2 ?_))))))))
   refine .F fa157_1 ?_
   refine .M ag155 (Off.sees rfl rfl _ _ hsS) rfl ?_
   refine .P2 ?_
   refine .as 63 (.int .i64 (szAt sz (Int.ofNat t))) rfl (congrArg (Value.int .i64) hst) ?_
   obtain ⟨lE, hPq, hDq⟩ := hMe
   first | (refine .mapUpdate (K := Value.int .i64) .one hPq (KeyOk.int underlying3) rfl rfl rfl underlying155 rfl rfl rfl (fun es9 c9 hP9 => ?_)) | (refine .mapUpdate (K := Value.int .i64) (.tail .one) hPq (KeyOk.int underlying3) rfl rfl rfl underlying155 rfl rfl rfl (fun es9 c9 hP9 => ?_))
   refine .nil (.seq (.seq (.region (.P2 ?_))))
   refine .nil (.seq (.ret ?_))
   exact .end_ rfl rfl (fun m hm => ⟨(es9, c9), MapA.put hDq hP9, congrArg (Value.int .i64) hst, hm.sub (.cons_cons _ (List.nil_sublist _))⟩)
  try simp only [nz] at ht35
  refine .seq (.region (.P2 ?_))
  refine .nil (.seq (.cond rfl (fun ht51 => ?_) fun ht51 => ?_))
  ·try simp only [nz] at ht51
   refine .region (.P ?_)
   refine .E ag50 sz50 ?_
   refine .F fa50_3 ?_
   refine .L ag47 ?_
   refine .callc (fun z => MapA sz z) (fun _ => .int .i64 (recS sz a a.fields)) (fun z => [(bm, .map z.1 z.2)]) (.tail .one) rfl rfl rfl rfl rfl rfl (fun m2 g1 g2 => srecord_ok g1.lole' g2 hM0 (hp.mono (Off.kr g1.kr)) hwl hbd hz (RTy.mono (Off.kr g1.kr) _ _ hraS) (hfS.mono (Off.kr g1.kr) fun _ _ h => h) (fun j x hx => hsc x.type (by omega) (parts_fields (List.mem_map.2 ⟨x, List.mem_of_getElem? hx, rfl⟩)))) (fun x1 hMe => ?_)
   have hst : recS sz a a.fields = szAt sz (Int.ofNat t) := by rw [hzt, szStep_adt (by omega), recS_adt hz.ok]
   refine .P ?_
   refine .nil (.blk (.seq (.seq (.region (.P2 ?_)))))
   refine .F fa157_1 ?_
   refine .M ag155 (Off.sees rfl rfl _ _ hsS) rfl ?_
   refine .P2 ?_
   refine .as 63 (.int .i64 (szAt sz (Int.ofNat t))) rfl (congrArg (Value.int .i64) hst) ?_
   obtain ⟨lE, hPq, hDq⟩ := hMe
   first | (refine .mapUpdate (K := Value.int .i64) .one hPq (KeyOk.int underlying3) rfl rfl rfl underlying155 rfl rfl rfl (fun es9 c9 hP9 => ?_)) | (refine .mapUpdate (K := Value.int .i64) (.tail .one) hPq (KeyOk.int underlying3) rfl rfl rfl underlying155 rfl rfl rfl (fun es9 c9 hP9 => ?_))
   refine .nil (.seq (.seq (.region (.P2 ?_))))
   refine .nil (.seq (.ret ?_))
   exact .end_ rfl rfl (fun m hm => ⟨(es9, c9), MapA.put hDq hP9, congrArg (Value.int .i64) hst, hm.sub (.cons_cons _ (List.nil_sublist _))⟩)
  try simp only [nz] at ht51
  have hst : (1 : Int) = szAt sz (Int.ofNat t) := by rw [hzt, szStep_one (by omega) (by omega) (by omega)]
  have hMe := hM0
  refine .skip (.blk (.seq (.seq (.region (.P2 ?_)))))
  refine .F fa157_1 ?_
  refine .M ag155 (Off.sees rfl rfl _ _ hsS) rfl ?_
  refine .P2 ?_
  refine .as 63 (.int .i64 (szAt sz (Int.ofNat t))) rfl (congrArg (Value.int .i64) hst) ?_
  obtain ⟨lE, hPq, hDq⟩ := hMe
  first | (refine .mapUpdate (K := Value.int .i64) .one hPq (KeyOk.int underlying3) rfl rfl rfl underlying155 rfl rfl rfl (fun es9 c9 hP9 => ?_)) | (refine .mapUpdate (K := Value.int .i64) (.tail .one) hPq (KeyOk.int underlying3) rfl rfl rfl underlying155 rfl rfl rfl (fun es9 c9 hP9 => ?_))
  refine .nil (.seq (.seq (.region (.P2 ?_))))
  refine .nil (.seq (.ret ?_))
  exact .end_ rfl rfl (fun m hm => ⟨(es9, c9), MapA.put hDq hP9, congrArg (Value.int .i64) hst, hm.sub (.cons_cons _ (List.nil_sublist _))⟩)
 obtain rfl := hD _ _ hgm
 refine .lookupOk (K := Value.int .i64) .one hP (KeyOk.int underlying3) rfl rfl rfl rfl underlying155 zr3 rfl rfl (v := .tuple ⟨[.int .i64 (szAt sz (Int.ofNat t)), .bool true]⟩) (by rw [hgm]) ?_
 iterate 5 refine .P ?_
 refine .nil (.seq (.seq (.region (.P ?_))))
 refine .nil (.seq (.cond_true rfl (.seq (.region (.P2 ?_)))))
 refine .nil (.seq (.ret (.seq ?_)))
 exact .end_ rfl rfl (fun m hm => ⟨x0, hM0, rfl, hm⟩)
theorem ssize_all {l : List Ty} {al : Option Addr} {cl bs bm : Nat} {sz : List Int} {r : Nat → Nat} (hwl : ∀ (i : Nat) (a : Ty), l[i]? = some a → FewT a) (hbd : ∀ (i : Nat) (a : Ty), l[i]? = some a → badB l.length a = false) (hz : SzFix l sz) (hr0 : Ranked l r) : ∀ (n t : Nat), r t < n → t < l.length → SizeC prog l al cl bs bm sz t
 | 0, _, h, _ => absurd h (Nat.not_lt_zero _)
 | n + 1, t, h, hlt => fun m x hm hk hM hp => ssize_step hm hk hM hp hwl hbd hz hr0 hlt fun t2 h2 hlt2 => ssize_all hwl hbd hz hr0 n t2 (by omega) hlt2
theorem ssize_ok {l : List Ty} {al : Option Addr} {cl bs bm : Nat} {sz : List Int} {r : Nat → Nat} (hwl : ∀ (i : Nat) (a : Ty), l[i]? = some a → FewT a) (hbd : ∀ (i : Nat) (a : Ty), l[i]? = some a → badB l.length a = false) (hz : SzFix l sz) (hr0 : Ranked l r) (t : Nat) (hlt : t < l.length) : SizeC prog l al cl bs bm sz t := ssize_all hwl hbd hz hr0 (r t + 1) t (Nat.lt_succ_self _) hlt
theorem slarge_ok {l : List Ty} {al : Option Addr} {cl bs bm : Nat} {sz : List Int} {x0 : List MapEntry × Nat} {t : Nat} {a : Ty} {r : Nat → Nat} {m : AW} (hm : m.lo ≤ m.next) (hk : Knows [bm] m m (MapC bm x0)) (hM : MapA sz x0) (hp : SzPre l al cl bs bm m) (hwl : ∀ (i : Nat) (a : Ty), l[i]? = some a → FewT a) (hbd : ∀ (i : Nat) (a : Ty), l[i]? = some a → badB l.length a = false) (hz : SzFix l sz) (hr0 : Ranked l r) (ha : l[t]? = some a) : Fc prog 55 [ptr bs, .int .i64 (Int.ofNat (t))] m fun v m' => ∃ x, MapA sz x ∧ v = .bool (largeB sz (szAt sz (Int.ofNat t)) a) ∧ Knows [bm] m m' (MapC bm x) := by
 have hsS := hp.hs
 have hlt : t < l.length := (List.getElem?_eq_some_iff.1 ha).1
 obtain ⟨a_, cap_, he_, hnl, hl⟩ := hp.hl
 cases he_
 obtain ⟨b, off, cs, el, g, md, mate, rfl, ⟨hb, hh⟩, hle, hc⟩ := so hl hlt
 have hr := hc t a ha
 obtain ⟨ve, vf, va, hr, he, hf, hga⟩ := hr
 obtain ⟨aa, ca, rfl, hna, hga⟩ := hga
 have hw := hwl t a ha
 have hba := hbd t a ha
 refine Fc.bodyS (S := [bm]) (c := _) func55 rfl rfl rfl rfl hk ?_
 refine .seq (.region (.P ?_))
 refine .nil (.seq (.seq (.seq (.region (.P2 ?_)))))
 refine .callc (fun z => MapA sz z) (fun _ => .int .i64 (szAt sz (Int.ofNat t))) (fun z => [(bm, .map z.1 z.2)]) .one rfl rfl rfl rfl rfl rfl (fun m2 g1 g2 => ssize_ok hwl hbd hz hr0 t hlt m2 _ g1.lole' g2 hM (hp.mono (Off.kr g1.kr))) (fun y hy => ?_)
 refine .P ?_
 refine .nil (.seq (.cond rfl (fun ht12 => ?_) fun ht12 => ?_))
 ·try simp only [nz] at ht12
  refine .seq (.region (.P ?_))
  refine .nil (.seq (.ret (.seq ?_)))
  exact .end_ rfl rfl (fun m hm => ⟨y, hy, congrArg Value.bool (large_yes (by omega)).symm, hm⟩)
 try simp only [nz] at ht12
 refine .skip (.seq (.seq (.seq (.region (.P2 ?_)))))
 refine .F fa157_0 ?_
 refine .M ag22 (Off.sees rfl rfl _ _ hsS) rfl ?_
 refine .P ?_
 refine .K underlying22 sz50 ?_
 refine .F fa50_4 ?_
 refine .M ag48 (Off.sees rfl rfl _ _ ⟨hb, hh⟩) (cell_of_take hr (k := 4) rfl) ?_
 refine .G (ln48 ..) ?_
 refine .P ?_
 refine .nil (.seq (.block ?_))
 refine .loop (α := Nat × List MapEntry × Nat) (fun q => [(0, ptr bs), (1, .int .i64 (Int.ofNat (t))), (20, .slice aa a.arms.length ca), (21, .int .i64 (Int.ofNat (a.arms.length))), (22, .int .i64 (Int.ofNat (q.1)))]) (fun q => [(bm, .map q.2.1 q.2.2)]) (fun q => q.1 ≤ a.arms.length ∧ MapA sz q.2 ∧ ∀ (j : Nat) (x : Arm), j < q.1 → a.arms[j]? = some x → armL sz a x = false) (fun q => a.arms.length - q.1) (0, y) ⟨Nat.zero_le _, hy, fun _ _ h => (by cases h)⟩ ⟨rfl, rfl, rfl, rfl, rfl, trivial⟩ (.refl _) (fun q hq0 => ?_)
 obtain ⟨i, x1⟩ := q
 obtain ⟨hi, hM1, hI⟩ := hq0
 simp only at hi hM1 hI
 refine .seq (.region (.P ?_))
 refine .nil (.seq (.seq (.cond rfl (fun ht23 => ?_) fun ht23 => ?_)))
 ·try simp only [nz] at ht23
  have hraS : RTy (Off [bm] m) a [.int .i64 a.kind, ve, .string a.name, vf, .slice aa a.arms.length ca] := ⟨ve, vf, _, rfl, he, hf, aa, ca, rfl, hna, hga⟩
  have hltX : i < a.arms.length := by omega
  obtain ⟨x, hx⟩ := gx hltX
  obtain ⟨bX, offX, csX, elX, gX, mdX, mateX, rfl, ⟨hbX, hhX⟩, hleX, hcX⟩ := so hga hltX
  have hrx := hcX i x hx
  obtain ⟨vx, hrx, hfa⟩ := hrx
  obtain ⟨ax, cx, rfl, hnx, hfa⟩ := hfa
  obtain ⟨L, hW⟩ := withL_some (List.mem_of_getElem? hx)
  refine .skip (.seq (.seq (.block (.seq (.region (.K underlying48 sz55 ?_))))))
  refine .A ag55 sz55 (Off.sees rfl rfl _ _ ⟨hbX, hhX⟩) hrx ?_
  refine .alloc rfl rfl rfl rfl zr55 (fun b6 hb6 => ?_)
  refine .S sz55 ?_
  refine .nil (.seq (.seq ?_))
  refine .D [(15, 0), (15, 1), (15, 3), (3, 7), (15, 0), (15, 31), (3, 63), (15, 0), (3, 128), (7, 511), (15, 1023), (15, 2047), (15, 2047), (15, 4095), (15, 16383)] (by kernel_rfl) (by kernel_rfl) (fun base hbase hB => ?_)
  iterate 2 refine .P ?_
  refine .F fa157_0 ?_
  refine .M ag22 (Off.sees rfl rfl _ _ hsS) rfl ?_
  refine .P ?_
  refine .K underlying22 sz50 ?_
  refine .loadAgg rfl rfl rfl rfl rfl rfl rfl rfl ag50 sz50 (Off.sees rfl rfl _ _ ⟨hb, hh⟩) (by omega) hr ?_
  refine .F fa55_0 ?_
  refine .J ag9 ?_
  refine .calln _ _ _ rfl rfl rfl rfl rfl rfl rfl rfl rfl (fun m hm => arm_ok (t := a) hm.lole (fun b o h => Off.mem b o (Off.kr hm b o h)) hraS hw) (fun z hzw => ?_)
  refine .as 36 (.tuple ⟨[z.2, .bool true]⟩) rfl (WithV.some (x := z) hW).symm ?_
  iterate 5 refine .P ?_
  refine .nil (.seq (.seq (.region (.P3 ?_))))
  refine .F fa157_0 ?_
  refine .M ag22 (Off.sees rfl rfl _ _ hsS) rfl ?_
  refine .P ?_
  refine .K underlying22 sz50 ?_
  refine .A ag50 sz50 (Off.sees rfl rfl _ _ ⟨hb, hh⟩) hr ?_
  refine .P ?_
  refine .callc (fun z => MapA sz z) (fun _ => .int .i64 (recS sz a L)) (fun z => [(bm, .map z.1 z.2)]) (.over (.tail .one)) rfl rfl rfl rfl rfl rfl (fun m2 g1 g2 => srecord_ok (t := a) g1.lole' g2 hM1 (hp.mono (Off.kr g1.kr)) hwl hbd hz (RTy.mono (Off.kr g1.kr) _ _ hraS) ((hzw _ hW).1.mono (fun b o h => h.elim (fun h => Off.known g1 (List.mem_append_left _ h)) (Off.kr g1.kr b o)) fun _ _ h => h) (fun j x hx => by obtain ⟨q, e1, e2⟩ := parts_ok_fld hba (fun x hx => withL_parts hW hx) j x hx; exact ⟨q, e1, e2, ssize_ok hwl hbd hz hr0 q e2⟩)) (fun y hy => ?_)
  refine .P ?_
  refine .nil (.seq (.cond rfl (fun ht49 => ?_) fun ht49 => ?_))
  ·try simp only [nz] at ht49
   have hbig := (recS_big (sz := sz) (t := a) (L := L) (by omega)).1 (by omega)
   refine .seq (.region (.P ?_))
   refine .nil (.seq (.ret (.blk (.seq (.loop (.blk (.seq ?_)))))))
   exact .end_ rfl rfl (fun m hm => ⟨y, hy, congrArg Value.bool (large_arm hx hW hbig).symm, hm.sub (.cons_cons _ (List.nil_sublist _))⟩)
  try simp only [nz] at ht49
  have hbig : ¬ 256 < 1 + sumF sz L := fun h => absurd ((recS_big (sz := sz) (t := a) (L := L) (by omega)).2 h) (by omega)
  refine .skip (.blk (.seq (.region (.P ?_))))
  refine .W 50 i ?_
  refine .P ?_
  refine .nil ?_
  exact .loop (i + 1, _) ⟨by omega, hy, upto_succ hI hx (armL_no hW hbig)⟩ (by show a.arms.length - (i + 1) < a.arms.length - i; omega) ⟨rfl, rfl, rfl, rfl, rfl, trivial⟩ (.cons_cons _ (List.nil_sublist _))
 try simp only [nz] at ht23
 refine .exit (.seq (.loop (.here (.seq (.seq (.region (.P ?_)))))))
 refine .nil (.seq (.ret ?_))
 exact .end_ rfl rfl (fun m hm => ⟨x1, hM1, congrArg Value.bool (large_not (Int.not_lt.2 ht12) fun j x hj hx => hI j x (by omega) hx).symm, hm⟩)
theorem newsizer_ok {vl : Value} {m : AW} (hm : m.lo ≤ m.next) {al : Option Addr} {n cl : Nat} (hvl : vl = .slice al n cl) : Fc prog 54 [vl] m fun v m' => ∃ x : Nat × Nat, True ∧ v = ptr x.1 ∧ Ext m m' ∧ News m m' [(x.1, .cells [vl, .map (some x.2)] 157 false .plain none), (x.2, .map [] 0)] := by
 subst hvl
 refine Fc.body (c := _) func54 rfl rfl rfl rfl hm ?_
 refine .seq (.region (.P ?_))
 refine .nil (.seq (.seq (.region (.P ?_))))
 refine .makeMap rfl rfl rfl rfl (fun b4 hb4 => ?_)
 refine .p (v := .agg ⟨[.slice al n cl, .map (some b4)]⟩) rfl rfl rfl (by kernel_rfl) ?_
 refine .box rfl rfl rfl rfl rfl (fun b6 hb6 => ?_)
 refine .P ?_
 refine .nil (.seq (.ret ?_))
 exact .end_ rfl rfl (fun m hm => ⟨(b6, b4), trivial, rfl, hm.ext, hm.news (.refl _)⟩)
theorem check_ok {l : List Ty} {vl : Value} {m : AW} (hm : m.lo ≤ m.next) (hlS : Sl (Mem m) 5 (RTy (Mem m)) l vl) (hwl : ∀ (i : Nat) (a : Ty), l[i]? = some a → FewT a) (hn14 : l.length ≤ 14) : Fc prog 15 [vl] m fun v m' => ∃ e : Int, ChkP l e ∧ v = .int .i64 e ∧ Ext m m' ∧ News m m' [] := by
 have hlS0 := hlS
 obtain ⟨al, cl, rfl, hnl, hl⟩ := hlS
 refine Fc.body (c := _) func15 rfl rfl rfl rfl hm ?_
 refine .seq (.region (.P ?_))
 refine .nil (.seq (.seq (.seq (.region (.P ?_)))))
 refine .G (ln22 ..) ?_
 refine .P ?_
 refine .nil (.seq (.cond rfl (fun ht13 => ?_) fun ht13 => ?_))
 ·try simp only [nz] at ht13
  exfalso; omega
 try simp only [nz] at ht13
 refine .skip (.seq (.seq (.seq (.region (.P ?_)))))
 refine .G (ln22 ..) ?_
 refine .P ?_
 refine .nil (.seq (.block ?_))
 refine .loop (α := Nat) (fun i => [(0, .slice al l.length cl), (14, .slice al l.length cl), (15, .int .i64 (Int.ofNat (l.length))), (16, .int .i64 (Int.ofNat (i)))]) (fun i => []) (fun i => i ≤ l.length ∧ ∀ (j : Nat) (x : Ty), j < i → l[j]? = some x → singleE l.length x = 0) (fun i => l.length - i) 0 ⟨Nat.zero_le _, fun _ _ h => (by cases h)⟩ ⟨rfl, rfl, rfl, rfl, trivial⟩ (List.nil_sublist _) (fun i hi => ?_)
 refine .seq (.region (.P ?_))
 refine .nil (.seq (.seq (.cond rfl (fun ht17 => ?_) fun ht17 => ?_)))
 ·try simp only [nz] at ht17
  have hlt : i < l.length := by omega
  obtain ⟨a, ha⟩ := gx hlt
  obtain ⟨b, off, cs, el, g, md, mate, rfl, ⟨hb, hh⟩, hle, hc⟩ := so hl hlt
  have hr := hc i a ha
  obtain ⟨ve, vf, va, hr, he, hf, hga⟩ := hr
  have hraS : RTy (Mem m) a [.int .i64 a.kind, ve, .string a.name, vf, va] := ⟨ve, vf, va, rfl, he, hf, hga⟩
  obtain ⟨ae, ce, rfl, hne, he⟩ := he
  obtain ⟨af, cf, rfl, hnf, hf⟩ := hf
  obtain ⟨aa, ca, rfl, hna, hga⟩ := hga
  have hw := hwl i a ha
  refine .skip (.seq (.seq (.block (.seq (.region (.K underlying22 sz50 ?_))))))
  refine .A ag50 sz50 (.base hh hb (by simp)) hr ?_
  refine .alloc rfl rfl rfl rfl zr50 (fun b4 hb4 => ?_)
  refine .S sz50 ?_
  refine .nil (.seq (.seq (.region (.P ?_))))
  refine .E ag50 sz50 ?_
  refine .call _ rfl rfl rfl rfl rfl rfl (fun m hm => single_ok hm.lole (RTy.mono (Mem.kr hm) _ _ hraS) hw) ?_
  refine .P ?_
  refine .nil (.seq (.seq (.region (.P2 ?_))))
  refine .nil (.seq (.cond rfl (fun ht24 => ?_) fun ht24 => ?_))
  ·try simp only [nz] at ht24
   refine .seq (.region (.P2 ?_))
   refine .nil (.seq (.ret (.blk (.seq (.loop (.blk (.seq ?_)))))))
   exact .end_ rfl rfl (fun m hm => ⟨_, .inl ⟨by rw [first_at ha hi.2 (by assumption)]; assumption, (first_at ha hi.2 (by assumption)).symm⟩, rfl, hm.ext, News.nil _ _⟩)
  try simp only [nz] at ht24
  refine .skip (.blk (.seq (.region (.P ?_))))
  refine .W 26 i ?_
  refine .P ?_
  refine .nil ?_
  exact .loop (i + 1) ⟨hlt, upto_succ hi.2 ha (by assumption)⟩ (by omega) ⟨rfl, rfl, rfl, rfl, trivial⟩ (List.nil_sublist _)
 try simp only [nz] at ht17
 have hWl : Well l := well_of (by omega) hi.2
 have hbd : ∀ (i : Nat) (a : Ty), l[i]? = some a → badB l.length a = false := fun i a ha => hWl.sound i a ha
 refine .exit (.seq (.loop (.here (.seq (.seq (.seq (.region (.P ?_))))))))
 refine .G (ln22 ..) ?_
 refine .P ?_
 refine .nil (.seq (.block ?_))
 refine .loop (α := Nat) (fun i => [(0, .slice al l.length cl), (27, .slice al l.length cl), (28, .int .i64 (Int.ofNat (l.length))), (29, .int .i64 (Int.ofNat (i)))]) (fun i => []) (fun i => i ≤ l.length ∧ ∀ (j : Nat) (x : Ty), j < i → l[j]? = some x → fitE l x = 0) (fun i => l.length - i) 0 ⟨Nat.zero_le _, fun _ _ h => (by cases h)⟩ ⟨rfl, rfl, rfl, rfl, trivial⟩ (List.nil_sublist _) (fun i hj => ?_)
 refine .seq (.region (.P ?_))
 refine .nil (.seq (.seq (.cond rfl (fun ht30 => ?_) fun ht30 => ?_)))
 ·try simp only [nz] at ht30
  have hlt : i < l.length := by omega
  obtain ⟨a, ha⟩ := gx hlt
  obtain ⟨b, off, cs, el, g, md, mate, rfl, ⟨hb, hh⟩, hle, hc⟩ := so hl hlt
  have hr := hc i a ha
  obtain ⟨ve, vf, va, hr, he, hf, hga⟩ := hr
  have hraS : RTy (Mem m) a [.int .i64 a.kind, ve, .string a.name, vf, va] := ⟨ve, vf, va, rfl, he, hf, hga⟩
  obtain ⟨ae, ce, rfl, hne, he⟩ := he
  obtain ⟨af, cf, rfl, hnf, hf⟩ := hf
  obtain ⟨aa, ca, rfl, hna, hga⟩ := hga
  have hw := hwl i a ha
  refine .skip (.seq (.seq (.block (.seq (.region (.K underlying22 sz50 ?_))))))
  refine .A ag50 sz50 (.base hh hb (by simp)) hr ?_
  refine .alloc rfl rfl rfl rfl zr50 (fun b7 hb7 => ?_)
  refine .S sz50 ?_
  refine .nil (.seq (.seq (.region (.P ?_))))
  refine .E ag50 sz50 ?_
  refine .call _ rfl rfl rfl rfl rfl rfl (fun m hm => fit_ok hm.lole (hlS0.mono (Mem.kr hm) (RTy.mono (Mem.kr hm))) hwl (RTy.mono (Mem.kr hm) _ _ hraS) hw (single_zero (hWl.all i a ha)).1 (hbd i a ha)) ?_
  refine .P ?_
  refine .nil (.seq (.seq (.region (.P2 ?_))))
  refine .nil (.seq (.cond rfl (fun ht37 => ?_) fun ht37 => ?_))
  ·try simp only [nz] at ht37
   refine .seq (.region (.P2 ?_))
   refine .nil (.seq (.ret (.blk (.seq (.loop (.blk (.seq ?_)))))))
   exact .end_ rfl rfl (fun m hm => ⟨_, .inr (.inl ⟨hWl.first, by rw [first_at ha hj.2 (by assumption)]; assumption, (first_at ha hj.2 (by assumption)).symm⟩), rfl, hm.ext, News.nil _ _⟩)
  try simp only [nz] at ht37
  refine .skip (.blk (.seq (.region (.P ?_))))
  refine .W 39 i ?_
  refine .P ?_
  refine .nil ?_
  exact .loop (i + 1) ⟨hlt, upto_succ hj.2 ha (by assumption)⟩ (by omega) ⟨rfl, rfl, rfl, rfl, trivial⟩ (List.nil_sublist _)
 try simp only [nz] at ht30
 have hfit0 : firstE (fitE l) l = 0 := first_none fun j y hj_ hy => hj.2 j y (by omega) hy
 refine .exit (.seq (.loop (.here (.seq (.seq (.seq (.region (.P ?_))))))))
 refine .calln _ _ _ rfl rfl rfl rfl rfl rfl (fun m hm => circular_ok hm.lole (hlS0.mono (Mem.kr hm) (RTy.mono (Mem.kr hm))) hwl hbd hn14) (fun c hcirc => ?_)
 refine .nil (.seq (.cond rfl (fun ht41 => ?_) fun ht41 => ?_))
 ·refine .seq (.region (.P ?_))
  refine .nil (.seq (.ret (.seq ?_)))
  exact .end_ rfl rfl (fun m hm => ⟨10, .inr (.inr ⟨hWl.first, hfit0, hWl.sound, .inl ⟨hcirc.1 ht41, rfl⟩⟩), rfl, hm.ext, News.nil _ _⟩)
 obtain ⟨r, hr0⟩ := hcirc.2 ht41
 obtain ⟨sz, hz⟩ := SzFix.exists_ hWl.sound hr0
 refine .skip (.seq (.seq (.region (.P ?_))))
 refine .calln _ _ _ rfl rfl rfl rfl rfl rfl (fun m hm => newsizer_ok hm.lole rfl) (fun x _ => ?_)
 refine .P ?_
 refine .nil (.seq (.seq (.seq (.region (.P ?_)))))
 refine .G (ln22 ..) ?_
 refine .P ?_
 refine .nil (.seq (.block ?_))
 refine .swap (Pick.perm (.tail .one)) (.loop (α := Nat × List MapEntry × Nat) (fun q => [(9, ptr x.1), (45, .int .i64 (Int.ofNat (l.length))), (46, .int .i64 (Int.ofNat (q.1)))]) (fun q => [(x.2, .map q.2.1 q.2.2), (x.1, .cells [.slice al l.length cl, .map (some x.2)] 157 false .plain none)]) (fun q => q.1 ≤ l.length ∧ MapA sz q.2 ∧ allN (bigAt sz l) q.1 = true) (fun q => l.length - q.1) (0, ([], 0)) ⟨Nat.zero_le _, MapA.nil sz 0, rfl⟩ ⟨rfl, rfl, rfl, trivial⟩ (.refl _) (fun q hq0 => ?_))
 obtain ⟨i, x1⟩ := q
 obtain ⟨hk, hM1, hA⟩ := hq0
 simp only at hk hM1 hA
 refine .seq (.region (.P ?_))
 refine .nil (.seq (.seq (.cond rfl (fun ht47 => ?_) fun ht47 => ?_)))
 ·try simp only [nz] at ht47
  have hlt : i < l.length := by omega
  obtain ⟨a, ha⟩ := gx hlt
  have hat := bigAt_get (sz := sz) ha
  refine .skip (.seq (.seq (.block (.seq (.region (.P2 ?_))))))
  refine .nil (.seq (.seq (.region (.P2 ?_))))
  refine .callc (fun z => MapA sz z) (fun _ => .bool (largeB sz (szAt sz (Int.ofNat i)) a)) (fun z => [(x.2, .map z.1 z.2)]) .one rfl rfl rfl rfl rfl rfl (fun m2 g1 g2 => slarge_ok (r := r) g1.lole' g2 hM1 ⟨Off.known g1 (.head _), hlS0.mono (Off.old g1) (RTy.mono (Off.old g1))⟩ hwl hbd hz hr0 ha) (fun y hy => ?_)
  refine .nil (.seq (.cond rfl (fun ht51 => ?_) fun ht51 => ?_))
  ·refine .seq (.region (.P ?_))
   refine .nil (.seq (.ret (.blk (.seq (.loop (.blk (.seq ?_)))))))
   exact .end_ rfl rfl (fun m hm => ⟨3, .inr (.inr ⟨hWl.first, hfit0, hWl.sound, .inr ⟨r, sz, hr0, hz, by rw [if_neg (by rw [allN_false hlt (by rw [hat, ht51]; rfl)]; decide)]⟩⟩), rfl, hm.ext, News.nil _ _⟩)
  refine .skip (.blk (.seq (.region (.P ?_))))
  refine .W 52 i ?_
  refine .P ?_
  refine .nil ?_
  exact .loop (i + 1, _) ⟨hlt, hy, by rw [allN_succ, hA, hat, ht51]; rfl⟩ (by show l.length - (i + 1) < l.length - i; omega) ⟨rfl, rfl, rfl, trivial⟩ (.refl _)
 try simp only [nz] at ht47
 refine .exit (.seq (.loop (.here (.seq (.seq (.region (.P ?_)))))))
 refine .nil (.seq (.ret ?_))
 exact .end_ rfl rfl (fun m hm => ⟨0, .inr (.inr ⟨hWl.first, hfit0, hWl.sound, .inr ⟨r, sz, hr0, hz, by rw [if_pos (by rw [← show i = l.length by omega]; exact hA)]⟩⟩), rfl, hm.ext, News.nil _ _⟩)
theorem upto_not {P : Nat → Prop} {i : Nat} (h : ∀ u, u < i → ¬ P u) (hi : ¬ P i) : ∀ u, u < i + 1 → ¬ P u := fun u hu p => by
 by_cases e : u = i
 ·rw [e] at p
  exact hi p
 exact h u (by omega) p
/-- What is asked of some types. -/
def AskP (l : List Ty) (ts : List Int) (e : Int) : Prop := ∃ e0, ChkP l e0 ∧ ((e0 ≠ 0 ∧ e = e0) ∨ (e0 = 0 ∧ e = if ts.all (fun t => decide (0 ≤ t ∧ t < l.length)) = true then 0 else 11))
theorem AskP.uniq {l : List Ty} {ts : List Int} {e e' : Int} (h : AskP l ts e) (h' : AskP l ts e') : e = e' := by
 obtain ⟨a, h1, h2⟩ := h
 obtain ⟨b, g1, g2⟩ := h'
 have := h1.uniq g1
 subst this
 rcases h2 with ⟨h3, rfl⟩ | ⟨h3, rfl⟩
 ·rcases g2 with ⟨_, rfl⟩ | ⟨g3, _⟩
  ·rfl
  exact absurd g3 h3
 rcases g2 with ⟨g3, _⟩ | ⟨_, rfl⟩
 ·exact absurd h3 g3
 rfl
theorem AskP.ok {l : List Ty} {ts : List Int} (h : ChkP l 0) (ht : ∀ (j : Nat) (t : Int), j < ts.length → ts[j]? = some t → 0 ≤ t ∧ t < l.length) : AskP l ts 0 := ⟨0, h, .inr ⟨rfl, by rw [if_pos (all_of fun j x hj hx => decide_eq_true (ht j x hj hx))]⟩⟩
theorem AskP.well {l : List Ty} {ts : List Int} (h : AskP l ts 0) : ChkP l 0 ∧ ∀ (j : Nat) (t : Int), ts[j]? = some t → 0 ≤ t ∧ t < l.length := by
 obtain ⟨e, h1, h2⟩ := h
 rcases h2 with ⟨h3, h4⟩ | ⟨rfl, h4⟩
 ·exact absurd h4.symm h3
 refine ⟨h1, fun j t ht => ?_⟩
 split at h4
 ·rename_i h5
  exact of_decide_eq_true (List.all_eq_true.1 h5 t (List.mem_of_getElem? ht))
 cases h4
theorem rcheck_ok {l : List Ty} {vl : Value} {m : AW} (hm : m.lo ≤ m.next) (hlS : Sl (Mem m) 5 (RTy (Mem m)) l vl) (hwl : ∀ (i : Nat) (a : Ty), l[i]? = some a → FewT a) (hn14 : l.length ≤ 14) : Fc prog 17 [vl] m fun v m' => ∃ e : Int, ChkP l e ∧ v = .int .i64 e ∧ Ext m m' ∧ News m m' [] := by
 have hlS0 := hlS
 obtain ⟨al, cl, rfl, hnl, hl⟩ := hlS
 refine Fc.body (c := _) func17 rfl rfl rfl rfl hm ?_
 refine .seq (.region (.P ?_))
 refine .nil (.seq (.seq (.seq (.region (.P ?_)))))
 refine .G (ln22 ..) ?_
 refine .P ?_
 refine .nil (.seq (.cond rfl (fun ht13 => ?_) fun ht13 => ?_))
 ·try simp only [nz] at ht13
  exfalso; omega
 try simp only [nz] at ht13
 refine .skip (.seq (.seq (.seq (.region (.P ?_)))))
 refine .nil (.seq (.block ?_))
 refine .loop (α := Nat) (fun i => [(0, .slice al l.length cl), (3, .int .i64 (Int.ofNat (i)))]) (fun i => []) (fun i => i ≤ l.length ∧ ∀ (j : Nat) (x : Ty), j < i → l[j]? = some x → singleE l.length x = 0) (fun i => l.length - i) 0 ⟨Nat.zero_le _, fun _ _ h => (by cases h)⟩ ⟨rfl, rfl, trivial⟩ (List.nil_sublist _) (fun i hi => ?_)
 refine .seq (.seq (.region (.P2 ?_)))
 refine .G (ln22 ..) ?_
 refine .P ?_
 refine .nil (.seq (.cond rfl (fun ht17 => ?_) fun ht17 => ?_))
 ·try simp only [nz] at ht17
  have hlt : i < l.length := by omega
  obtain ⟨a, ha⟩ := gx hlt
  obtain ⟨b, off, cs, el, g, md, mate, rfl, ⟨hb, hh⟩, hle, hc⟩ := so hl hlt
  have hr := hc i a ha
  obtain ⟨ve, vf, va, hr, he, hf, hga⟩ := hr
  have hraS : RTy (Mem m) a [.int .i64 a.kind, ve, .string a.name, vf, va] := ⟨ve, vf, va, rfl, he, hf, hga⟩
  obtain ⟨ae, ce, rfl, hne, he⟩ := he
  obtain ⟨af, cf, rfl, hnf, hf⟩ := hf
  obtain ⟨aa, ca, rfl, hna, hga⟩ := hga
  have hw := hwl i a ha
  refine .skip (.seq (.seq (.block (.seq (.region (.P3 ?_))))))
  refine .K underlying22 sz50 ?_
  refine .A ag50 sz50 (.base hh hb (by simp)) hr ?_
  refine .call _ rfl rfl rfl rfl rfl rfl (fun m hm => rown_ok hm.lole (RTy.mono (Mem.kr hm) _ _ hraS) hw) ?_
  refine .P ?_
  refine .nil (.seq (.seq (.region (.P2 ?_))))
  refine .nil (.seq (.cond rfl (fun ht27 => ?_) fun ht27 => ?_))
  ·try simp only [nz] at ht27
   refine .seq (.region (.P2 ?_))
   refine .nil (.seq (.ret (.blk (.seq (.loop (.blk (.seq ?_)))))))
   exact .end_ rfl rfl (fun m hm => ⟨_, .inl ⟨by rw [first_at ha hi.2 (by assumption)]; assumption, (first_at ha hi.2 (by assumption)).symm⟩, rfl, hm.ext, News.nil _ _⟩)
  try simp only [nz] at ht27
  refine .skip (.blk (.seq (.region (.P2 ?_))))
  refine .W 19 i ?_
  refine .P ?_
  refine .nil ?_
  exact .loop (i + 1) ⟨hlt, upto_succ hi.2 ha (by assumption)⟩ (by omega) ⟨rfl, rfl, trivial⟩ (List.nil_sublist _)
 try simp only [nz] at ht17
 have hWl : Well l := well_of (by omega) hi.2
 have hbd : ∀ (i : Nat) (a : Ty), l[i]? = some a → badB l.length a = false := fun i a ha => hWl.sound i a ha
 refine .exit (.seq (.loop (.here (.seq (.seq (.seq (.region (.P ?_))))))))
 refine .nil (.seq (.block ?_))
 refine .loop (α := Nat) (fun i => [(0, .slice al l.length cl), (5, .int .i64 (Int.ofNat (i)))]) (fun i => []) (fun i => i ≤ l.length ∧ ∀ (j : Nat) (x : Ty), j < i → l[j]? = some x → fitE l x = 0) (fun i => l.length - i) 0 ⟨Nat.zero_le _, fun _ _ h => (by cases h)⟩ ⟨rfl, rfl, trivial⟩ (List.nil_sublist _) (fun i hj => ?_)
 refine .seq (.seq (.region (.P2 ?_)))
 refine .G (ln22 ..) ?_
 refine .P ?_
 refine .nil (.seq (.cond rfl (fun ht32 => ?_) fun ht32 => ?_))
 ·try simp only [nz] at ht32
  have hlt : i < l.length := by omega
  obtain ⟨a, ha⟩ := gx hlt
  obtain ⟨b, off, cs, el, g, md, mate, rfl, ⟨hb, hh⟩, hle, hc⟩ := so hl hlt
  have hr := hc i a ha
  obtain ⟨ve, vf, va, hr, he, hf, hga⟩ := hr
  have hraS : RTy (Mem m) a [.int .i64 a.kind, ve, .string a.name, vf, va] := ⟨ve, vf, va, rfl, he, hf, hga⟩
  obtain ⟨ae, ce, rfl, hne, he⟩ := he
  obtain ⟨af, cf, rfl, hnf, hf⟩ := hf
  obtain ⟨aa, ca, rfl, hna, hga⟩ := hga
  have hw := hwl i a ha
  refine .skip (.seq (.seq (.block (.seq (.region (.P3 ?_))))))
  refine .K underlying22 sz50 ?_
  refine .A ag50 sz50 (.base hh hb (by simp)) hr ?_
  refine .call _ rfl rfl rfl rfl rfl rfl (fun m hm => rfits_ok hm.lole (hlS0.mono (Mem.kr hm) (RTy.mono (Mem.kr hm))) hwl (RTy.mono (Mem.kr hm) _ _ hraS) hw (single_zero (hWl.all i a ha)).1 (hbd i a ha)) ?_
  refine .P ?_
  refine .nil (.seq (.seq (.region (.P2 ?_))))
  refine .nil (.seq (.cond rfl (fun ht42 => ?_) fun ht42 => ?_))
  ·try simp only [nz] at ht42
   refine .seq (.region (.P2 ?_))
   refine .nil (.seq (.ret (.blk (.seq (.loop (.blk (.seq ?_)))))))
   exact .end_ rfl rfl (fun m hm => ⟨_, .inr (.inl ⟨hWl.first, by rw [first_at ha hj.2 (by assumption)]; assumption, (first_at ha hj.2 (by assumption)).symm⟩), rfl, hm.ext, News.nil _ _⟩)
  try simp only [nz] at ht42
  refine .skip (.blk (.seq (.region (.P2 ?_))))
  refine .W 34 i ?_
  refine .P ?_
  refine .nil ?_
  exact .loop (i + 1) ⟨hlt, upto_succ hj.2 ha (by assumption)⟩ (by omega) ⟨rfl, rfl, trivial⟩ (List.nil_sublist _)
 try simp only [nz] at ht32
 have hfit0 : firstE (fitE l) l = 0 := first_none fun j y hj_ hy => hj.2 j y (by omega) hy
 refine .exit (.seq (.loop (.here (.seq (.seq (.region (.P ?_)))))))
 refine .calln _ _ _ rfl rfl rfl rfl rfl rfl (fun m hm => rsteps_ok hm.lole (hlS0.mono (Mem.kr hm) (RTy.mono (Mem.kr hm))) hwl hbd hn14) (fun x hx => ?_)
 obtain ⟨xh, xv⟩ := x
 obtain ⟨rows, hvS, hrl, hrows⟩ := hx
 simp only at hvS
 refine .P ?_
 refine .nil (.seq (.seq (.seq (.region (.P ?_)))))
 refine .nil (.seq (.block ?_))
 refine .loop (α := Nat) (fun i => [(0, .slice al l.length cl), (7, xv), (8, .int .i64 (Int.ofNat (i)))]) (fun i => xh ++ []) (fun i => i ≤ l.length ∧ ∀ u : Nat, u < i → ¬ Path l u u) (fun i => l.length - i) 0 ⟨Nat.zero_le _, fun _ h => absurd h (Nat.not_lt_zero _)⟩ ⟨rfl, rfl, rfl, trivial⟩ (.refl _) (fun i hk => ?_)
 refine .seq (.seq (.region (.P2 ?_)))
 refine .G (ln22 ..) ?_
 refine .P ?_
 refine .nil (.seq (.cond rfl (fun ht49 => ?_) fun ht49 => ?_))
 ·try simp only [nz] at ht49
  have hlt : i < l.length := by omega
  obtain ⟨row, hrow⟩ : ∃ row, rows[i]? = some row := ⟨_, List.getElem?_eq_getElem (by rw [hrl]; exact hlt)⟩
  obtain ⟨hrw, hcell⟩ := hrows i row hrow
  obtain ⟨b0, hb0⟩ : ∃ b0, row[i]? = some b0 := ⟨_, List.getElem?_eq_getElem (by rw [hrw]; exact hlt)⟩
  have hcyc := hcell i b0 hb0
  obtain ⟨av, capv, rfl, hnv, hvS⟩ := hvS
  have hltV : i < rows.length := by rw [hrl]; exact hlt
  obtain ⟨bV, offV, csV, elV, gV, mdV, mateV, rfl, hbV, hleV, hcV⟩ := so hvS hltV
  obtain ⟨vr, hrV, aR, capR, rfl, hnR, hvR⟩ := hcV i row hrow
  have hltR : i < row.length := by rw [hrw]; exact hlt
  obtain ⟨bR, offR, csR, elR, gR, mdR, mateR, rfl, hbR, hleR, hcR⟩ := so hvR hltR
  have hrR := hcR i b0 hb0
  refine .skip (.seq (.seq (.block (.seq (.region (.P2 ?_))))))
  refine .indexAddr rfl rfl rfl rfl underlying97 sz99 rfl rfl (hltV) ?_
  refine .M ag99 (InH.sees (l := xh) (fun p_ hp_ => List.mem_append_left _ hp_) _ _ hbV) (cell_of_take hrV (k := 0) rfl) ?_
  refine .P ?_
  refine .indexAddr rfl rfl rfl rfl underlying99 sz4 rfl rfl (hltR) ?_
  refine .M ag4 (InH.sees (l := xh) (fun p_ hp_ => List.mem_append_left _ hp_) _ _ hbR) (cell_of_take hrR (k := 0) rfl) ?_
  refine .nil (.seq (.cond rfl (fun ht58 => ?_) fun ht58 => ?_))
  ·refine .seq (.region (.P ?_))
   refine .nil (.seq (.ret (.blk (.seq (.loop (.blk (.seq ?_)))))))
   exact .end_ rfl rfl (fun m hm => ⟨10, .inr (.inr ⟨hWl.first, hfit0, hWl.sound, .inl ⟨⟨i, hcyc.1 ht58⟩, rfl⟩⟩), rfl, hm.ext, News.nil _ _⟩)
  refine .skip (.blk (.seq (.region (.P2 ?_))))
  refine .W 51 i ?_
  refine .P ?_
  refine .nil ?_
  exact .loop (i + 1) ⟨hlt, upto_not (P := fun u => Path l u u) hk.2 fun p => (by have := hcyc.2 p; rw [this] at ht58; cases ht58)⟩ (by omega) ⟨rfl, rfl, rfl, trivial⟩ (.refl _)
 try simp only [nz] at ht49
 obtain ⟨r0, hr00⟩ := ranked_of_far hWl.sound (farF_path hWl.sound hrl hrows) (fun u p => hk.2 u (by have := p.lt; omega) p)
 obtain ⟨r, hr0, hrn⟩ := hr00.small hWl.sound
 obtain ⟨sz, hz⟩ := SzFix.exists_ hWl.sound hr0
 refine .exit (.seq (.loop (.here (.seq (.seq (.region (.P ?_)))))))
 refine .calln _ _ _ rfl rfl rfl rfl rfl rfl (fun m hm => rsizes_ok hm.lole (hlS0.mono (Mem.kr hm) (RTy.mono (Mem.kr hm))) hwl hbd hn14 hr0 hrn hz) (fun bz _ => ?_)
 refine .P ?_
 refine .nil (.seq (.seq (.seq (.region (.P ?_)))))
 refine .nil (.seq (.block ?_))
 refine .loop (α := Nat) (fun i => [(0, .slice al l.length cl), (9, .slice (some ⟨bz, 0, none⟩) l.length l.length), (10, .int .i64 (Int.ofNat (i)))]) (fun i => [(bz, .cells (ints sz) 3 false .plain none)]) (fun i => i ≤ l.length ∧ allN (bigAt sz l) i = true) (fun i => l.length - i) 0 ⟨Nat.zero_le _, rfl⟩ ⟨rfl, rfl, rfl, trivial⟩ (.cons_cons _ (List.nil_sublist _)) (fun i hA => ?_)
 refine .seq (.seq (.region (.P2 ?_)))
 refine .G (ln22 ..) ?_
 refine .P ?_
 refine .nil (.seq (.cond rfl (fun ht64 => ?_) fun ht64 => ?_))
 ·try simp only [nz] at ht64
  have hlt : i < l.length := by omega
  obtain ⟨a, ha⟩ := gx hlt
  obtain ⟨b, off, cs, el, g, md, mate, rfl, ⟨hb, hh⟩, hle, hc⟩ := so hl hlt
  have hr := hc i a ha
  obtain ⟨ve, vf, va, hr, he, hf, hga⟩ := hr
  have hraS : RTy (Mem m) a [.int .i64 a.kind, ve, .string a.name, vf, va] := ⟨ve, vf, va, rfl, he, hf, hga⟩
  obtain ⟨ae, ce, rfl, hne, he⟩ := he
  obtain ⟨af, cf, rfl, hnf, hf⟩ := hf
  obtain ⟨aa, ca, rfl, hna, hga⟩ := hga
  have hw := hwl i a ha
  have hat := bigAt_get (sz := sz) ha
  obtain ⟨s0, hs0⟩ : ∃ s0, sz[i]? = some s0 := ⟨_, List.getElem?_eq_getElem (by rw [hz.len]; exact hlt)⟩
  have hs1 : szAt sz (Int.ofNat i) = s0 := szAt_get hs0
  refine .skip (.seq (.seq (.block (.seq ?_))))
  refine .D [(15, 0), (15, 0), (15, 0), (15, 6), (3, 14), (15, 0), (15, 0), (15, 96), (3, 224), (7, 511)] (by kernel_rfl) (by kernel_rfl) (fun base hbase hB => ?_)
  iterate 3 refine .P ?_
  refine .K underlying22 sz50 ?_
  refine .loadAgg rfl rfl rfl rfl rfl rfl rfl rfl ag50 sz50 (.base hh hb (by simp)) (by omega) hr ?_
  iterate 2 refine .P ?_
  refine .indexAddr rfl rfl rfl rfl rfl underlying32 sz3 rfl rfl (hlt) ?_
  refine .load rfl rfl rfl rfl rfl rfl rfl rfl ag3 (by repeat first | exact .head | exact .app .head | exact .base ‹_› ‹_› (by simp) | refine .tail ?_ | refine .app ?_) (map_cell hs0) ?_
  refine .call _ rfl rfl rfl rfl rfl rfl rfl rfl rfl (fun m hm => rlarge_ok hm.lole (ints_sl (l := sz) (InH.kr (l := [(bz, .cells (ints sz) 3 false .plain none)]) hm (fun p_ hp_ => by simpa using hp_) _ _ (.head _)) hz.len hnl.1) (RTy.mono (Mem.kr hm) _ _ hraS) hw hz.ok (by rw [hz.len]; exact hbd i a ha)) ?_
  refine .nil (.seq (.cond rfl (fun ht76 => ?_) fun ht76 => ?_))
  ·refine .seq (.region (.P ?_))
   refine .nil (.seq (.ret (.blk (.seq (.loop (.blk (.seq ?_)))))))
   exact .end_ rfl rfl (fun m hm => ⟨3, .inr (.inr ⟨hWl.first, hfit0, hWl.sound, .inr ⟨r, sz, hr0, hz, by rw [if_neg (by rw [allN_false hlt (by rw [hat, hs1, ht76]; rfl)]; decide)]⟩⟩), rfl, hm.ext, News.nil _ _⟩)
  refine .skip (.blk (.seq (.region (.P2 ?_))))
  refine .W 66 i ?_
  refine .P ?_
  refine .nil ?_
  exact .loop (i + 1) ⟨hlt, by rw [allN_succ, hA.2, hat, hs1, ht76]; rfl⟩ (by omega) ⟨rfl, rfl, rfl, trivial⟩ (.cons_cons _ (List.nil_sublist _))
 try simp only [nz] at ht64
 refine .exit (.seq (.loop (.here (.seq (.seq (.region (.P ?_)))))))
 refine .nil (.seq (.ret ?_))
 exact .end_ rfl rfl (fun m hm => ⟨0, .inr (.inr ⟨hWl.first, hfit0, hWl.sound, .inr ⟨r, sz, hr0, hz, by rw [if_pos (by rw [← show i = l.length by omega]; exact hA.2)]⟩⟩), rfl, hm.ext, News.nil _ _⟩)
def ValP (l : List Ty) (t : Int) (c : Bool) : Prop := ∃ e, AskP l [t] e ∧ ((e ≠ 0 ∧ c = false) ∨ (e = 0 ∧ c = valAt l t))
theorem ValP.uniq {l : List Ty} {t : Int} {c c' : Bool} (h : ValP l t c) (h' : ValP l t c') : c = c' := by
 obtain ⟨a, h1, h2⟩ := h
 obtain ⟨b, g1, g2⟩ := h'
 have := h1.uniq g1
 subst this
 rcases h2 with ⟨h3, rfl⟩ | ⟨h3, rfl⟩
 ·rcases g2 with ⟨_, rfl⟩ | ⟨g3, _⟩
  ·rfl
  exact absurd g3 h3
 rcases g2 with ⟨g3, _⟩ | ⟨_, rfl⟩
 ·exact absurd h3 g3
 rfl
theorem RTyT.flats {K : Kn} : ∀ x cs, RTyT K x cs → flats cs = true := by
 rintro x cs ⟨⟨ve, vf, va, rfl, ⟨ae, ce, rfl, _⟩, ⟨af, cf, rfl, _⟩, ⟨aa, ca, rfl, _⟩⟩, -⟩
 rfl
theorem RArm.flats {K : Kn} : ∀ x cs, RArm K x cs → flats cs = true := by
 rintro x cs ⟨v, rfl, ⟨ae, ce, rfl, _⟩⟩
 rfl
theorem own_perm1 {A B C D : Hp} {x y : Nat × AObj} : (A ++ (x :: (B ++ (y :: (C ++ D))))).Perm (x :: (y :: (A ++ ((B ++ C) ++ D)))) := by
 refine List.perm_middle.trans (List.Perm.cons _ ?_)
 rw [← List.append_assoc]
 refine List.perm_middle.trans (List.Perm.cons _ ?_)
 exact List.Perm.of_eq (by simp [List.append_assoc])
theorem updo {A B : Hp} {b : Nat} {o o' : AObj} {x : Nat × AObj} {h : Hp} : Upd (A ++ (x :: (B ++ ((b, o) :: h)))) b o o' (A ++ (x :: (B ++ ((b, o') :: h)))) := by
 have key : ∀ (P : Hp) {h h' : Hp}, Upd h b o o' h' → Upd (P ++ h) b o o' (P ++ h') := fun P => by
  induction P with
  | nil => exact fun u => u
  | cons p P ih => exact fun u => .tail (ih u)
 exact key _ (.tail (key _ .head))
theorem own_arms0 {F G : Hp} {l L : List Arm} {g : Gro} {cs : List Value} {w : Value} (hF : Flat 2 (RArm (InH F)) L cs) (hO : g.Ok L.length) (hL : L = l) (hl : l.length ≤ 9223372036854775807) (hw : w = g.V L.length) : Sl (InH (g.H 55 cs ++ (F ++ G))) 2 (RArm (InH (g.H 55 cs ++ (F ++ G)))) l w := by
 subst hL hw
 exact (Gro.sl hF hO hl).mono (fun b o h => List.mem_append_left _ h) (RArm.mono fun b o h => List.mem_append_right _ (List.mem_append_left _ h))
theorem own_arms {F G : Hp} {l L : List Arm} {k : Nat} {g : Gro} {cs : List Value} {w : Value} (hF : Flat 2 (RArm (InH F)) L cs) (hO : g.Ok L.length) (hL : L = l.take k) (hk : l.length ≤ k) (hw : w = g.V L.length) (hl : l.length ≤ 9223372036854775807) : Sl (InH (g.H 55 cs ++ (F ++ G))) 2 (RArm (InH (g.H 55 cs ++ (F ++ G)))) l w := own_arms0 hF hO (hL.trans (List.take_of_length_le hk)) hl hw
theorem own_fin0 {F : Hp} {l L : List Ty} {g : Gro} {cs : List Value} (hF : Flat 5 (RTyT (InH F)) L cs) (hO : g.Ok L.length) (hL : L = l) (hl : l.length ≤ 9223372036854775807) : Sl (InH (g.H 50 cs ++ F)) 5 (RTyT (InH (g.H 50 cs ++ F))) l (g.V L.length) := by
 subst hL
 exact (Gro.sl hF hO hl).mono (fun b o h => List.mem_append_left _ h) (RTyT.mono fun b o h => List.mem_append_right _ h)
theorem own_fin {F : Hp} {l L : List Ty} {i : Nat} {g : Gro} {cs : List Value} (hF : Flat 5 (RTyT (InH F)) L cs) (hO : g.Ok L.length) (hL : L = l.take i) (hi : l.length ≤ i) (hl : l.length ≤ 9223372036854775807) : Sl (InH (g.H 50 cs ++ F)) 5 (RTyT (InH (g.H 50 cs ++ F))) l (g.V L.length) := own_fin0 hF hO (hL.trans (List.take_of_length_le hi)) hl
theorem own_sub {A B C : Hp} {x : Nat × AObj} : (x :: ([] ++ ((A ++ B) ++ C))).Sublist (x :: (A ++ (B ++ C))) := by simp [List.append_assoc]
theorem inA {A B : Hp} : ∀ b o, InH A b o → InH (A ++ B) b o := fun _ _ h => List.mem_append_left _ h
theorem inB {A B : Hp} : ∀ b o, InH B b o → InH (A ++ B) b o := fun _ _ h => List.mem_append_right _ h
theorem flat_mono {α : Type} {sz : Nat} {R R' : α → List Value → Prop} {l : List α} {cs : List Value} (h : Flat sz R l cs) (k : ∀ x cs, R x cs → R' x cs) : Flat sz R' l cs := ⟨h.1, fun i x hx => k _ _ (h.2 i x hx)⟩
theorem own_ok {l : List Ty} {vl : Value} {m : AW} (hm : m.lo ≤ m.next) (hlS : Sl (Mem m) 5 (RTy (Mem m)) l vl) (hwl : ∀ (i : Nat) (a : Ty), l[i]? = some a → FewT a) (hn14 : l.length ≤ 14) : Fc prog 16 [vl] m fun v m' => ∃ x : Hp × Value, Sl (InH x.1) 5 (RTyT (InH x.1)) l x.2 ∧ v = x.2 ∧ Ext m m' ∧ News m m' x.1 := by
 obtain ⟨al, cl, rfl, hnl, hl⟩ := hlS
 refine Fc.body (c := _) func16 rfl rfl rfl rfl hm ?_
 refine .seq (.region (.P ?_))
 refine .nil (.seq (.seq (.region (.P ?_))))
 refine .nil (.seq (.seq (.seq (.region (.P ?_)))))
 refine .nil (.seq (.block ?_))
 refine .loop (α := Nat × Gro × List Value × List Ty × Hp) (fun q => [(0, .slice al l.length cl), (3, q.2.1.V q.2.2.2.1.length), (4, .int .i64 (Int.ofNat (q.1)))]) (fun q => q.2.1.H 50 q.2.2.1 ++ q.2.2.2.2) (fun q => q.1 ≤ l.length ∧ q.2.2.2.1 = l.take q.1 ∧ Flat 5 (RTyT (InH q.2.2.2.2)) q.2.2.2.1 q.2.2.1 ∧ q.2.1.Ok q.2.2.2.1.length) (fun q => l.length - q.1) (0, .no, [], [], []) ⟨Nat.zero_le _, rfl, Flat.nil, rfl⟩ ⟨rfl, rfl, rfl, trivial⟩ (.refl _) (fun q hq0 => ?_)
 obtain ⟨i, g_, cs_, L, F⟩ := q
 obtain ⟨hi, hL, hF, hO⟩ := hq0
 simp only at hi hL hF hO
 have hLl : L.length = i := by rw [hL, List.length_take]; omega
 refine .seq (.seq (.region (.P2 ?_)))
 refine .G (ln22 ..) ?_
 refine .P ?_
 refine .nil (.seq (.cond rfl (fun ht10 => ?_) fun ht10 => ?_))
 ·try simp only [nz] at ht10
  have hlt : i < l.length := by omega
  obtain ⟨a, ha⟩ := gx hlt
  obtain ⟨b, off, cs, el, g, md, mate, rfl, ⟨hb, hh⟩, hle, hc⟩ := so hl hlt
  have hr := hc i a ha
  obtain ⟨ve, vf, va, hr, he, hf, hga⟩ := hr
  have heS := he
  have hfS := hf
  obtain ⟨ae, ce, rfl, hne, he⟩ := he
  obtain ⟨af, cf, rfl, hnf, hf⟩ := hf
  obtain ⟨aa, ca, rfl, hna, hga⟩ := hga
  have hw := hwl i a ha
  have k1 := hw.elems
  have k2 := hw.fields
  have k3 := hw.arms
  refine .skip (.seq (.seq (.block (.seq ?_))))
  refine .D [(13, 0), (13, 0), (13, 3), (13, 7), (1, 15), (13, 0), (13, 0), (13, 96), (13, 224), (1, 480), (11, 0), (15, 0), (15, 0), (15, 6144), (15, 14336), (3, 30720), (7, 64512), (8, 0), (12, 0), (12, 0), (12, 786432), (12, 1835008), (0, 3932160), (7, 8387584), (15, 16777215), (8, 0), (7, 67108863)] (by kernel_rfl) (by kernel_rfl) (fun base hbase hB => ?_)
  iterate 2 refine .P ?_
  refine .K underlying22 sz50 ?_
  refine .F fa50_0 ?_
  refine .loadOld rfl rfl rfl rfl rfl rfl ag3 (.base hh hb (by simp)) (cell_of_take hr (k := 0) rfl) (by first | exact hB _ _ (.head _) | exact hB _ _ (.tail _ (.head _)) | exact hB _ _ (.tail _ (.tail _ (.head _))) | exact hB _ _ (.tail _ (.tail _ (.tail _ (.head _)))) | exact hB _ _ (List.mem_append_right _ (.head _)) | exact hB _ _ (List.mem_append_right _ (.tail _ (.head _))) | exact Nat.lt_of_lt_of_le ‹_› hbase) ?_
  iterate 2 refine .P ?_
  refine .K underlying22 sz50 ?_
  refine .F fa50_2 ?_
  refine .loadOld rfl rfl rfl rfl rfl rfl ag9 (.base hh hb (by simp)) (cell_of_take hr (k := 2) rfl) (by first | exact hB _ _ (.head _) | exact hB _ _ (.tail _ (.head _)) | exact hB _ _ (.tail _ (.tail _ (.head _))) | exact hB _ _ (.tail _ (.tail _ (.tail _ (.head _)))) | exact hB _ _ (List.mem_append_right _ (.head _)) | exact hB _ _ (List.mem_append_right _ (.tail _ (.head _))) | exact Nat.lt_of_lt_of_le ‹_› hbase) ?_
  refine .buildSlice rfl rfl rfl rfl rfl rfl (bs32_0) (fun b23 hn23 hb23 => ?_)
  iterate 2 refine .P ?_
  refine .K underlying22 sz50 ?_
  refine .F fa50_1 ?_
  refine .loadOld rfl rfl rfl rfl rfl rfl ag32 (.base hh hb (by simp)) (cell_of_take hr (k := 1) rfl) (by first | exact hB _ _ (.head _) | exact hB _ _ (.tail _ (.head _)) | exact hB _ _ (.tail _ (.tail _ (.head _))) | exact hB _ _ (.tail _ (.tail _ (.tail _ (.head _)))) | exact hB _ _ (List.mem_append_right _ (.head _)) | exact hB _ _ (List.mem_append_right _ (.tail _ (.head _))) | exact Nat.lt_of_lt_of_le ‹_› hbase) ?_
  refine .appendNewSl (.inr ⟨_, rfl⟩) (R := RInt) (l0 := []) (l := a.elems) (L := a.elems) (g := .emp b23) (cs := []) rfl .one Flat.nil rfl (heS) ((Mem.sees rfl rfl)) RInt.flats (by simp; omega) rfl rfl (by kernel_rfl) rfl rfl rfl rfl underlying32 underlying32 ap3 rfl rfl (fun g1 cs1 hF1 hO1 => ?_)
  have hS1 := Gro.sl (el := 3) hF1 hO1 (by first | omega | (simp; omega))
  obtain ⟨a1, c1, hh29, -, -⟩ := id hS1
  rw [hh29] at hS1
  refine .as 29 (.slice a1 a.elems.length c1) rfl hh29 ?_
  refine .buildSlice rfl rfl rfl rfl rfl rfl (bs47_0) (fun b30 hn30 hb30 => ?_)
  iterate 2 refine .P ?_
  refine .K underlying22 sz50 ?_
  refine .F fa50_3 ?_
  refine .loadOld rfl rfl rfl rfl rfl rfl ag47 (.base hh hb (by simp)) (cell_of_take hr (k := 3) rfl) (by first | exact hB _ _ (.head _) | exact hB _ _ (.tail _ (.head _)) | exact hB _ _ (.tail _ (.tail _ (.head _))) | exact hB _ _ (.tail _ (.tail _ (.tail _ (.head _)))) | exact hB _ _ (List.mem_append_right _ (.head _)) | exact hB _ _ (List.mem_append_right _ (.tail _ (.head _))) | exact Nat.lt_of_lt_of_le ‹_› hbase) ?_
  refine .appendNewSl (.inr ⟨_, rfl⟩) (R := RFld) (l0 := []) (l := a.fields) (L := a.fields) (g := .emp b30) (cs := []) rfl .one Flat.nil rfl (hfS) ((Mem.sees rfl rfl)) RFld.flats (by simp; omega) rfl rfl (by kernel_rfl) rfl rfl rfl rfl underlying47 underlying47 ap132 rfl rfl (fun g2 cs2 hF2 hO2 => ?_)
  have hS2 := Gro.sl (el := 132) hF2 hO2 (by first | omega | (simp; omega))
  obtain ⟨a2, c2, hh36, -, -⟩ := id hS2
  rw [hh36] at hS2
  refine .as 36 (.slice a2 a.fields.length c2) rfl hh36 ?_
  refine .p (v := .agg ⟨[.int .i64 a.kind, .slice a1 a.elems.length c1, .string a.name, .slice a2 a.fields.length c2, .slice none 0 0]⟩) rfl rfl rfl rfl (by kernel_rfl) ?_
  refine .alloc rfl rfl rfl rfl rfl zr50 (fun b5 hn5 hb5 => ?_)
  refine .store rfl rfl (by kernel_rfl) (by kernel_rfl) rfl rfl rfl rfl rfl sz50 rfl (by first | exact .head | exact .tail .head | exact .tail (.tail .head) | exact .tail (.tail (.tail .head)) | exact updo) rfl ?_
  refine .nil (.seq (.seq (.seq (.region (.P ?_)))))
  refine .nil (.seq (.block ?_))
  refine .loop (α := Nat × Gro × List Value × List Arm × Hp × Value) (fun q => [(0, .slice (some ⟨b, off, none⟩) l.length cl), (3, g_.V L.length), (4, .int .i64 (Int.ofNat (i))), (5, ptr b5), (6, .int .i64 (Int.ofNat (q.1)))]) (fun q => (b5, .cells [.int .i64 a.kind, .slice a1 a.elems.length c1, .string a.name, .slice a2 a.fields.length c2, q.2.2.2.2.2] 50 false .plain none) :: (q.2.1.H 55 q.2.2.1 ++ (q.2.2.2.2.1 ++ (g_.H 50 cs_ ++ F)))) (fun q => q.1 ≤ a.arms.length ∧ q.2.2.2.1 = a.arms.take q.1 ∧ Flat 2 (RArm (InH q.2.2.2.2.1)) q.2.2.2.1 q.2.2.1 ∧ q.2.1.Ok q.2.2.2.1.length ∧ q.2.2.2.2.2 = q.2.1.V q.2.2.2.1.length ∧ Sl (InH q.2.2.2.2.1) 1 RInt a.elems (.slice a1 a.elems.length c1) ∧ (Sl (InH q.2.2.2.2.1) 2 RFld a.fields (.slice a2 a.fields.length c2) ∧ Tight (InH q.2.2.2.2.1) a.fields.length (.slice a2 a.fields.length c2))) (fun q => a.arms.length - q.1) (0, .no, [], [], (g2.H 132 cs2 ++ g1.H 3 cs1), .slice none 0 0) ⟨Nat.zero_le _, rfl, Flat.nil, rfl, rfl, hS1.mono inB fun _ _ h => h, hS2.mono inA fun _ _ h => h, (hh36 ▸ Tight.gro hO2 : Tight (InH (g2.H 132 cs2)) a.fields.length (.slice a2 a.fields.length c2)).mono inA⟩ ⟨rfl, rfl, rfl, rfl, rfl, trivial⟩ own_sub (fun q hq0 => ?_)
  obtain ⟨k, g3, cs3, L3, F2, w⟩ := q
  obtain ⟨hk, hL3, hF3, hO3, hw3, hSe, hSf⟩ := hq0
  simp only at hk hL3 hF3 hO3 hw3 hSe hSf
  have hL3l : L3.length = k := by rw [hL3, List.length_take]; omega
  refine .seq (.seq (.region (.P3 ?_)))
  refine .K underlying22 sz50 ?_
  refine .F fa50_4 ?_
  refine .M ag48 (.base hh hb (by simp)) (cell_of_take hr (k := 4) rfl) ?_
  refine .G (ln48 ..) ?_
  refine .P ?_
  refine .nil (.seq (.cond rfl (fun ht45 => ?_) fun ht45 => ?_))
  ·try simp only [nz] at ht45
   have hltX : k < a.arms.length := by omega
   obtain ⟨x, hx⟩ := gx hltX
   obtain ⟨bX, offX, csX, elX, gX, mdX, mateX, rfl, ⟨hbX, hhX⟩, hleX, hcX⟩ := so hga hltX
   have hrx := hcX k x hx
   obtain ⟨vx, hrx, hxS⟩ := hrx
   have k4 := hw.afields k x hx
   refine .skip (.seq (.seq (.block ?_)))
   refine .D [(13, 0), (1, 1), (13, 0), (13, 0), (13, 12), (13, 28), (1, 60), (13, 0), (13, 252), (13, 508), (1, 1020), (11, 0), (15, 0), (15, 0), (15, 12288), (15, 28672), (3, 61440), (15, 0), (15, 258048), (15, 520192), (3, 1044480), (7, 2095104), (15, 4194300), (11, 8388604), (7, 16777215), (15, 33554431), (7, 67108863)] (by kernel_rfl) (by kernel_rfl) (fun base hbase hB => ?_)
   refine .F fa50_4 ?_
   refine .R ag48 hB ?_
   refine .as 49 (g3.V L3.length) rfl hw3 ?_
   iterate 2 refine .P ?_
   refine .K underlying22 sz50 ?_
   refine .F fa50_4 ?_
   refine .loadOld rfl rfl rfl rfl rfl rfl ag48 (.base hh hb (by simp)) (cell_of_take hr (k := 4) rfl) (by first | exact hB _ _ (.head _) | exact hB _ _ (.tail _ (.head _)) | exact hB _ _ (.tail _ (.tail _ (.head _))) | exact hB _ _ (.tail _ (.tail _ (.tail _ (.head _)))) | exact hB _ _ (List.mem_append_right _ (.head _)) | exact hB _ _ (List.mem_append_right _ (.tail _ (.head _))) | exact Nat.lt_of_lt_of_le ‹_› hbase) ?_
   refine .P ?_
   refine .K underlying48 sz55 ?_
   refine .F fa55_0 ?_
   refine .loadOld rfl rfl rfl rfl rfl rfl ag9 (.base hhX hbX (by simp)) (cell_of_take hrx (k := 0) rfl) (by first | exact hB _ _ (.head _) | exact hB _ _ (.tail _ (.head _)) | exact hB _ _ (.tail _ (.tail _ (.head _))) | exact hB _ _ (.tail _ (.tail _ (.tail _ (.head _)))) | exact hB _ _ (List.mem_append_right _ (.head _)) | exact hB _ _ (List.mem_append_right _ (.tail _ (.head _))) | exact Nat.lt_of_lt_of_le ‹_› hbase) ?_
   refine .buildSlice rfl rfl rfl rfl rfl rfl (bs47_0) (fun b59 hn59 hb59 => ?_)
   iterate 2 refine .P ?_
   refine .K underlying22 sz50 ?_
   refine .F fa50_4 ?_
   refine .loadOld rfl rfl rfl rfl rfl rfl ag48 (.base hh hb (by simp)) (cell_of_take hr (k := 4) rfl) (by first | exact hB _ _ (.head _) | exact hB _ _ (.tail _ (.head _)) | exact hB _ _ (.tail _ (.tail _ (.head _))) | exact hB _ _ (.tail _ (.tail _ (.tail _ (.head _)))) | exact hB _ _ (List.mem_append_right _ (.head _)) | exact hB _ _ (List.mem_append_right _ (.tail _ (.head _))) | exact Nat.lt_of_lt_of_le ‹_› hbase) ?_
   refine .P ?_
   refine .K underlying48 sz55 ?_
   refine .F fa55_1 ?_
   refine .loadOld rfl rfl rfl rfl rfl rfl ag47 (.base hhX hbX (by simp)) (cell_of_take hrx (k := 1) rfl) (by first | exact hB _ _ (.head _) | exact hB _ _ (.tail _ (.head _)) | exact hB _ _ (.tail _ (.tail _ (.head _))) | exact hB _ _ (.tail _ (.tail _ (.tail _ (.head _)))) | exact hB _ _ (List.mem_append_right _ (.head _)) | exact hB _ _ (List.mem_append_right _ (.tail _ (.head _))) | exact Nat.lt_of_lt_of_le ‹_› hbase) ?_
   refine .appendNewSl (.inr ⟨_, rfl⟩) (R := RFld) (l0 := []) (l := x.fields) (L := x.fields) (g := .emp b59) (cs := []) rfl .one Flat.nil rfl (hxS) ((Mem.sees rfl rfl)) RFld.flats (by simp; omega) rfl rfl (by kernel_rfl) rfl rfl rfl rfl underlying47 underlying47 ap132 rfl rfl (fun g4 cs4 hF4 hO4 => ?_)
   have hS4 := Gro.sl (el := 132) hF4 hO4 (by first | omega | (simp; omega))
   obtain ⟨a4, c4, hh69, -, -⟩ := id hS4
   rw [hh69] at hS4
   refine .as 69 (.slice a4 x.fields.length c4) rfl hh69 ?_
   refine .p (v := .agg ⟨[.string x.name, .slice a4 x.fields.length c4]⟩) rfl rfl rfl rfl (by kernel_rfl) ?_
   refine .buildSlice rfl rfl rfl rfl rfl rfl (bs48_1 ..) (fun b71 hn71 hb71 => ?_)
   refine .appendSl (R := RArm (InH (g4.H 132 cs4 ++ F2))) (l0 := L3) (l := [x]) (L := (L3 ++ [x])) (g := g3) (cs := cs3) rfl (.tail (.over (.tail .here))) (flat_mono hF3 (RArm.mono inB)) hO3 (Sl.single (R := RArm (InH (g4.H 132 cs4 ++ F2))) (b := b71) (c := 1) (el := 55) (g := false) (md := .plain) (mate := none) ⟨_, rfl, hS4.mono inA fun _ _ h => h⟩ rfl) ((InH.sees (by intro p hp; rw [List.mem_singleton.1 hp]; exact List.mem_cons_self))) RArm.flats (by simp; omega) rfl rfl (by kernel_rfl) (by kernel_rfl) rfl rfl rfl rfl underlying48 underlying48 ap55 rfl rfl (fun g5 cs5 hF5 hO5 => ?_)
   have hS5 := Gro.sl (el := 55) hF5 hO5 (by simp; omega)
   obtain ⟨a5, c5, hw5, -, -⟩ := hS5
   refine .as 72 (.slice a5 (L3 ++ [x]).length c5) rfl hw5 ?_
   refine .F fa50_4 ?_
   refine .store rfl rfl (by kernel_rfl) (by kernel_rfl) rfl rfl rfl rfl rfl sz48 rfl (by first | exact .head | exact .tail .head | exact .tail (.tail .head) | exact .tail (.tail (.tail .head)) | exact updo) rfl ?_
   refine .nil (.blk (.seq (.region (.P2 ?_))))
   refine .W 47 k ?_
   refine .P ?_
   refine .nil (.swap own_perm1 ?_)
   exact .loop (k + 1, g5, cs5, L3 ++ [x], g4.H 132 cs4 ++ F2, _) ⟨hltX, by rw [hL3, take_succ' hx], hF5, hO5, hw5.symm, hSe.mono inB fun _ _ h => h, ⟨hSf.1.mono inB fun _ _ h => h, hSf.2.mono inB⟩⟩ (by show a.arms.length - (k + 1) < a.arms.length - k; omega) ⟨rfl, rfl, rfl, rfl, rfl, trivial⟩ (.cons _ (.refl _))
  try simp only [nz] at ht45
  have hke : k = a.arms.length := by omega
  have hSa : Sl (InH (g3.H 55 cs3 ++ (F2 ++ F))) 2 (RArm (InH (g3.H 55 cs3 ++ (F2 ++ F)))) a.arms w := by exact own_arms hF3 hO3 hL3 (by omega) hw3 (by omega)
  refine .exit (.seq (.loop (.here (.seq (.region (.P ?_))))))
  refine .E ag50 sz50 ?_
  refine .buildSlice rfl rfl rfl rfl rfl (bs22_1 ..) (fun b76 hb76 => ?_)
  refine .appendSl (R := RTyT (InH (g3.H 55 cs3 ++ (F2 ++ F)))) (l0 := L) (l := [a]) (L := (L ++ [a])) (g := g_) (cs := cs_) rfl (.tail (.tail (.over (.over .here)))) (flat_mono hF (RTyT.mono fun b o h => inB b o (inB b o h))) hO (Sl.single (R := RTyT (InH (g3.H 55 cs3 ++ (F2 ++ F)))) (b := b76) (c := 1) (el := 50) (g := false) (md := .plain) (mate := none) ⟨⟨_, _, _, rfl, hSe.mono (fun b o h => inB b o (inA b o h)) fun _ _ h => h, hSf.1.mono (fun b o h => inB b o (inA b o h)) fun _ _ h => h, hSa⟩, fun vf h => by cases h; exact hSf.2.mono fun b o h => inB b o (inA b o h)⟩ rfl) ((InH.sees (by intro p hp; rw [List.mem_singleton.1 hp]; exact List.mem_cons_self))) RTyT.flats (by simp; omega) rfl rfl rfl rfl underlying22 underlying22 ap50 rfl rfl (fun g6 cs6 hF6 hO6 => ?_)
  refine .P ?_
  refine .nil (.blk (.seq (.region (.P2 ?_))))
  refine .W 12 i ?_
  refine .P ?_
  refine .nil ?_
  exact .loop (i + 1, g6, cs6, L ++ [a], g3.H 55 cs3 ++ (F2 ++ F)) ⟨by omega, by rw [hL, take_succ' ha], hF6, hO6⟩ (by show l.length - (i + 1) < l.length - i; omega) ⟨rfl, rfl, rfl, trivial⟩ (List.Sublist.append_left (.cons _ (.cons _ (.refl _))) _)
 try simp only [nz] at ht10
 refine .exit (.seq (.loop (.here (.seq (.seq (.region (.P2 ?_)))))))
 refine .nil (.seq (.ret ?_))
 exact .end_ rfl rfl (fun m hm => ⟨(g_.H 50 cs_ ++ F, g_.V L.length), own_fin hF hO hL (by omega) (by omega), rfl, hm.ext, hm.news (.refl _)⟩)
theorem awake_ok {m : AW} : Fc prog 13 [] m fun v m' => v = .bool true ∧ Ext m m' := Fc.said func13 (by kernel_rfl) rfl rfl fewer ⟨rfl, fun p hp => by cases hp⟩

/-! Right tables, and what is asked of them. -/
theorem first_zero {f : Ty → Int} {l : List Ty} (h : firstE f l = 0) (i : Nat) (x : Ty) (hx : l[i]? = some x) : f x = 0 := by
 unfold firstE at h
 cases hf : l.find? (fun t => decide (f t ≠ 0)) with
 | none =>
  rw [List.find?_eq_none] at hf
  simpa using hf x (List.mem_of_getElem? hx)
 | some y =>
  rw [hf] at h
  have := List.find?_some hf
  simp only [decide_eq_true_eq] at this
  exact absurd h this
structure Fine (l : List Ty) : Prop where
 well : Well l
 fit : ∀ (i : Nat) (a : Ty), l[i]? = some a → fitE l a = 0
 rank : ∃ r sz, Ranked l r ∧ (∀ u, r u ≤ l.length) ∧ SzFix l sz
theorem ChkP.fine {l : List Ty} (h : ChkP l 0) : Fine l := by
 rcases h with ⟨h1, h2⟩ | ⟨_, h1, h2⟩ | ⟨h1, h2, hb, h3⟩
 ·exact absurd h2.symm h1
 ·exact absurd h2.symm h1
 rcases h3 with ⟨_, h3⟩ | ⟨r, sz, hr, hz, _⟩
 ·cases h3
 obtain ⟨r', h4, h5⟩ := hr.small hb
 exact ⟨⟨fun i a ha => first_zero h1 i a ha⟩, fun i a ha => first_zero h2 i a ha, r', sz, h4, h5, hz⟩
theorem AskP.fine {l : List Ty} {ts : List Int} (h : AskP l ts 0) : Fine l := h.well.1.fine
theorem AskP.at1 {l : List Ty} {t : Int} (h : AskP l [t] 0) : ∃ (q : Nat) (a : Ty), t = Int.ofNat q ∧ q < l.length ∧ l[q]? = some a := by
 have hin := h.well.2 0 t rfl
 obtain ⟨q, rfl⟩ := Int.eq_ofNat_of_zero_le hin.1
 have hq : q < l.length := by omega
 exact ⟨q, l[q], rfl, hq, List.getElem?_eq_getElem hq⟩
def findR (a : Ty) (s n : ByteArray) : Int × Bool := if a.kind ≠ 10 ∧ a.kind ≠ 13 then (0, false) else match withL a s with
 | none => (0, false)
 | some L => match L.findIdx? (fun f => decide (f.name = n)) with
  | some i => (Int.ofNat i, true)
  | none => (0, false)
def FindP (l : List Ty) (t : Int) (s n : ByteArray) (x : Int × Bool) : Prop := ∃ e, AskP l [t] e ∧ ((e ≠ 0 ∧ x = (0, false)) ∨ (e = 0 ∧ ∃ (q : Nat) (a : Ty), t = Int.ofNat q ∧ l[q]? = some a ∧ x = findR a s n))
theorem FindP.uniq {l : List Ty} {t : Int} {s n : ByteArray} {x y : Int × Bool} (h : FindP l t s n x) (h' : FindP l t s n y) : x = y := by
 obtain ⟨a, h1, h2⟩ := h
 obtain ⟨b, g1, g2⟩ := h'
 have := h1.uniq g1
 subst this
 rcases h2 with ⟨h3, rfl⟩ | ⟨h3, q, a', hq, ha, rfl⟩
 ·rcases g2 with ⟨_, rfl⟩ | ⟨g3, _⟩
  ·rfl
  exact absurd g3 h3
 rcases g2 with ⟨g3, _⟩ | ⟨_, q', b', hq', hb, rfl⟩
 ·exact absurd h3 g3
 rw [hq] at hq'
 cases hq'
 rw [ha] at hb
 cases hb
 rfl
/-! Where fields lie. -/
/-! Equal types. -/
def RI (R : Nat → Nat → Prop) (p q : Int) : Prop := ∃ a b : Nat, p = Int.ofNat a ∧ q = Int.ofNat b ∧ R a b
theorem RI.mono {R R' : Nat → Nat → Prop} (k : ∀ a b, R a b → R' a b) {p q : Int} (h : RI R p q) : RI R' p q := by
 obtain ⟨a, b, h1, h2, h3⟩ := h
 exact ⟨a, b, h1, h2, k a b h3⟩
theorem RI.nat {R : Nat → Nat → Prop} {a b : Nat} (h : RI R (Int.ofNat a) (Int.ofNat b)) : R a b := by
 obtain ⟨a', b', h1, h2, h3⟩ := h
 cases h1
 cases h2
 exact h3
/-- Fields that agree one by one; members that agree by their names. -/
def FldsR (R : Nat → Nat → Prop) (L L' : List Fld) : Prop := L.length = L'.length ∧ ∀ (i : Nat) (f g : Fld), L[i]? = some f → L'[i]? = some g → f.name = g.name ∧ RI R f.type g.type
def MemR (R : Nat → Nat → Prop) (L L' : List Fld) : Prop := L.length = L'.length ∧ ∀ f, f ∈ L → ∃ g, g ∈ L' ∧ g.name = f.name ∧ RI R f.type g.type
def ElsR (R : Nat → Nat → Prop) (L L' : List Int) : Prop := L.length = L'.length ∧ ∀ (i : Nat) (p q : Int), L[i]? = some p → L'[i]? = some q → RI R p q
def ArmsR (R : Nat → Nat → Prop) (L L' : List Arm) : Prop := L.length = L'.length ∧ ∀ (i : Nat) (f g : Arm), L[i]? = some f → L'[i]? = some g → f.name = g.name ∧ FldsR R f.fields g.fields
def HeadR (x y : Ty) : Prop := x.kind = y.kind ∧ x.elems.length = y.elems.length ∧ x.arms.length = y.arms.length ∧ (x.kind = 9 → x.name = y.name)
structure TyR (R : Nat → Nat → Prop) (x y : Ty) : Prop where
 head : HeadR x y
 els : ElsR R x.elems y.elems
 flds : if x.kind = 13 then MemR R x.fields y.fields else FldsR R x.fields y.fields
 arms : ArmsR R x.arms y.arms
theorem FldsR.mono {R R' : Nat → Nat → Prop} (k : ∀ a b, R a b → R' a b) {L L' : List Fld} (h : FldsR R L L') : FldsR R' L L' := ⟨h.1, fun i f g hf hg => ⟨(h.2 i f g hf hg).1, (h.2 i f g hf hg).2.mono k⟩⟩
theorem MemR.mono {R R' : Nat → Nat → Prop} (k : ∀ a b, R a b → R' a b) {L L' : List Fld} (h : MemR R L L') : MemR R' L L' := ⟨h.1, fun f hf => by
 obtain ⟨g, h1, h2, h3⟩ := h.2 f hf
 exact ⟨g, h1, h2, h3.mono k⟩⟩
theorem ElsR.mono {R R' : Nat → Nat → Prop} (k : ∀ a b, R a b → R' a b) {L L' : List Int} (h : ElsR R L L') : ElsR R' L L' := ⟨h.1, fun i p q hp hq => (h.2 i p q hp hq).mono k⟩
theorem ArmsR.mono {R R' : Nat → Nat → Prop} (k : ∀ a b, R a b → R' a b) {L L' : List Arm} (h : ArmsR R L L') : ArmsR R' L L' := ⟨h.1, fun i f g hf hg => ⟨(h.2 i f g hf hg).1, (h.2 i f g hf hg).2.mono k⟩⟩
theorem TyR.mono {R R' : Nat → Nat → Prop} (k : ∀ a b, R a b → R' a b) {x y : Ty} (h : TyR R x y) : TyR R' x y := ⟨h.head, h.els.mono k, by
 have := h.flds
 split at this
 ·rename_i e
  rw [if_pos e]
  exact this.mono k
 rename_i e
 rw [if_neg e]
 exact this.mono k, h.arms.mono k⟩
theorem RI.refl {R : Nat → Nat → Prop} (hR : ∀ a, R a a) {n : Nat} {t : Ty} (hb : badB n t = false) {p : Int} (hp : p ∈ partsL t) : RI R p p := by
 obtain ⟨j, hj⟩ := List.getElem?_of_mem hp
 obtain ⟨q, rfl, _⟩ := parts_in hb hj
 exact ⟨q, q, rfl, rfl, hR q⟩
theorem parts_armf {t : Ty} {a : Arm} (ha : a ∈ t.arms) {f : Fld} (hf : f ∈ a.fields) : f.type ∈ partsL t := List.mem_append_right _ (List.mem_append_right _ (List.mem_map.2 ⟨f, List.mem_flatMap.2 ⟨a, ha, hf⟩, rfl⟩))
theorem parts_fldm {t : Ty} {f : Fld} (hf : f ∈ t.fields) : f.type ∈ partsL t := parts_fields (List.mem_map.2 ⟨f, hf, rfl⟩)
theorem TyR.refl {R : Nat → Nat → Prop} (hR : ∀ a, R a a) {n : Nat} {t : Ty} (hb : badB n t = false) : TyR R t t where
 head := ⟨rfl, rfl, rfl, fun _ => rfl⟩
 els := ⟨rfl, fun i p q hp hq => by rw [hp] at hq; cases hq; exact RI.refl hR hb (parts_elems (List.mem_of_getElem? hp))⟩
 flds := by
  split
  ·exact ⟨rfl, fun f hf => ⟨f, hf, rfl, RI.refl hR hb (parts_fldm hf)⟩⟩
  exact ⟨rfl, fun i f g hf hg => by rw [hf] at hg; cases hg; exact ⟨rfl, RI.refl hR hb (parts_fldm (List.mem_of_getElem? hf))⟩⟩
 arms := ⟨rfl, fun i f g hf hg => by
  rw [hf] at hg
  cases hg
  exact ⟨rfl, rfl, fun j u w hu hw => by rw [hu] at hw; cases hw; exact ⟨rfl, RI.refl hR hb (parts_armf (List.mem_of_getElem? hf) (List.mem_of_getElem? hu))⟩⟩⟩
/-- What is closed under steps. -/
def EqStep (l : List Ty) (R : Nat → Nat → Prop) (a b : Nat) : Prop := ∃ x y, l[a]? = some x ∧ l[b]? = some y ∧ TyR R x y
theorem EqStep.mono {l : List Ty} {R R' : Nat → Nat → Prop} (k : ∀ a b, R a b → R' a b) {a b : Nat} (h : EqStep l R a b) : EqStep l R' a b := by
 obtain ⟨x, y, h1, h2, h3⟩ := h
 exact ⟨x, y, h1, h2, h3.mono k⟩
def EqT (l : List Ty) (a b : Nat) : Prop := ∃ R : Nat → Nat → Prop, (∀ a b, R a b → a = b ∨ EqStep l R a b) ∧ R a b
theorem EqT.refl (l : List Ty) (a : Nat) : EqT l a a := ⟨fun a b => a = b, fun _ _ h => .inl h, rfl⟩
theorem EqT.step {l : List Ty} (hb : Sound8 l) {a b : Nat} (h : EqT l a b) (ha : a < l.length) : EqStep l (EqT l) a b := by
 obtain ⟨R, hR, h1⟩ := h
 rcases hR a b h1 with rfl | h2
 ·exact ⟨l[a], l[a], List.getElem?_eq_getElem ha, List.getElem?_eq_getElem ha, TyR.refl (EqT.refl l) (hb a _ (List.getElem?_eq_getElem ha))⟩
 exact h2.mono fun a b h => ⟨R, hR, h⟩
/-! What a comparison does: the pairs that were met are taken as equal. -/
abbrev Prs := List (Nat × Nat)
def InM (M : Prs) (a b : Nat) : Prop := a = b ∨ (a, b) ∈ M
def Grown (M M' : Prs) : Prop := ∀ p, p ∈ M → p ∈ M'
theorem Grown.refl (M : Prs) : Grown M M := fun _ h => h
theorem Grown.trans {A B C : Prs} (h : Grown A B) (k : Grown B C) : Grown A C := fun p hp => k p (h p hp)
theorem InM.mono {M M' : Prs} (h : Grown M M') : ∀ a b, InM M a b → InM M' a b := fun _ _ k => k.imp id (h _)
/-- All that is new is closed. -/
def Closed (l : List Ty) (M M' : Prs) : Prop := ∀ p, p ∈ M' → p ∈ M ∨ EqStep l (InM M') p.1 p.2
theorem Closed.refl (l : List Ty) (M : Prs) : Closed l M M := fun _ h => .inl h
theorem Closed.trans {l : List Ty} {A B C : Prs} (h1 : Closed l A B) (h2 : Closed l B C) (g : Grown B C) : Closed l A C := fun p hp => by
 rcases h2 p hp with h | h
 ·rcases h1 p h with h | h
  ·exact .inl h
  exact .inr (h.mono (InM.mono g))
 exact .inr h
def Bnd (l : List Ty) (M : Prs) : Prop := ∀ p, p ∈ M → p.1 < l.length ∧ p.2 < l.length
/-- The answer to whether a and b are equal, and what has been met then. -/
structure EqA (l : List Ty) (M : Prs) (a b : Nat) (z : Bool × Prs) : Prop where
 grown : Grown M z.2
 bnd : Bnd l M → Bnd l z.2
 yes : z.1 = true → InM z.2 a b ∧ Closed l M z.2
 no : z.1 = false → ¬ EqT l a b
theorem EqA.top {l : List Ty} {a b : Nat} {z : Bool × Prs} (h : EqA l [] a b z) : z.1 = true ↔ EqT l a b := by
 constructor
 ·intro e
  obtain ⟨h1, h2⟩ := h.yes e
  refine ⟨InM z.2, fun p q hpq => ?_, h1⟩
  rcases hpq with h3 | h3
  ·exact .inl h3
  rcases h2 (p, q) h3 with h4 | h4
  ·cases h4
  exact .inr h4
 intro e
 cases hz : z.1 with
 | true => rfl
 | false => exact absurd e (h.no hz)
/-- How many pairs are not yet met. -/
def unmet (n : Nat) (M : Prs) : Nat := ((List.range (n * n)).filter fun c => !decide ((c / n, c % n) ∈ M)).length
theorem unmet_le {n : Nat} {M M' : Prs} (h : Grown M M') : unmet n M' ≤ unmet n M := filter_le (fun c hc => by
 simp only [Bool.not_eq_true', decide_eq_false_iff_not] at hc ⊢
 exact fun hm => hc (h _ hm)) _
theorem unmet_lt {n : Nat} {M : Prs} {a b : Nat} (ha : a < n) (hb : b < n) (hn : (a, b) ∉ M) {M' : Prs} (h : Grown M M') (hm : (a, b) ∈ M') : unmet n M' < unmet n M := by
 have hn0 : 0 < n := by omega
 have e1 : (a * n + b) / n = a := by
  rw [Nat.mul_comm, Nat.mul_add_div hn0, Nat.div_eq_of_lt hb, Nat.add_zero]
 have e2 : (a * n + b) % n = b := by
  rw [Nat.mul_comm, Nat.mul_add_mod, Nat.mod_eq_of_lt hb]
 refine filter_lt (fun c hc => ?_) (y := a * n + b) ?_ ?_ _ (List.mem_range.2 ?_)
 ·simp only [Bool.not_eq_true', decide_eq_false_iff_not] at hc ⊢
  exact fun hm => hc (h _ hm)
 ·rw [e1, e2]
  simpa using hm
 ·rw [e1, e2]
  simpa using hn
 have : a * n + n ≤ n * n := by
  have := Nat.mul_le_mul_right n (show a + 1 ≤ n by omega)
  rw [Nat.add_mul, Nat.one_mul] at this
  exact this
 omega
/-- A row of comparisons: so far all were equal. -/
structure RowA (l : List Ty) (M M' : Prs) (P : Prop) : Prop where
 grown : Grown M M'
 bnd : Bnd l M → Bnd l M'
 closed : Closed l M M'
 all : P
theorem RowA.init {l : List Ty} {M : Prs} {P : Prop} (h : P) : RowA l M M P := ⟨Grown.refl _, id, Closed.refl _ _, h⟩
/-- The end of a comparison whose pair was put in first: all its parts are equal. -/
theorem EqA.close {l : List Ty} {M M' : Prs} {a b : Nat} {x y : Ty} {P : Prop} (ha : l[a]? = some x) (hb : l[b]? = some y) (h : RowA l ((a, b) :: M) M' P) (ht : TyR (InM M') x y) : EqA l M a b (true, M') where
 grown := fun p hp => h.grown p (List.mem_cons_of_mem _ hp)
 bnd := fun hM => h.bnd fun p hp => by
  rcases List.mem_cons.1 hp with rfl | hp
  ·exact ⟨(List.getElem?_eq_some_iff.1 ha).1, (List.getElem?_eq_some_iff.1 hb).1⟩
  exact hM p hp
 yes := fun _ => ⟨.inr (h.grown _ List.mem_cons_self), fun p hp => by
  rcases h.closed p hp with h1 | h1
  ·rcases List.mem_cons.1 h1 with rfl | h1
   ·exact .inr ⟨x, y, ha, hb, ht⟩
   exact .inl h1
  exact .inr h1⟩
 no := fun e => by cases e
theorem EqA.fail {l : List Ty} {M M' : Prs} {a b : Nat} (hg : Grown M M') (hb : Bnd l M → Bnd l M') (h : ¬ EqT l a b) : EqA l M a b (false, M') := ⟨hg, hb, fun e => (by cases e), fun _ => h⟩
theorem EqA.here {l : List Ty} {M : Prs} {a b : Nat} (h : InM M a b) : EqA l M a b (true, M) := ⟨Grown.refl _, id, fun _ => ⟨h, Closed.refl _ _⟩, fun e => by cases e⟩
/-! The program's comparer. -/
def MetA (M : Prs) (x : List MapEntry × Nat) : Prop := ∃ lM : List ((Int × Int) × Value), PairsK (pairV .i64) x.1 lM ∧ ∀ a b : Nat, getP (Int.ofNat a, Int.ofNat b) lM = if (a, b) ∈ M then some (.bool true) else none
theorem MetA.nil (c : Nat) : MetA [] ([], c) := ⟨[], trivial, fun a b => by rw [if_neg (by simp)]; rfl⟩
theorem MetA.look {M : Prs} {lM : List ((Int × Int) × Value)} (h : ∀ a b : Nat, getP (Int.ofNat a, Int.ofNat b) lM = if (a, b) ∈ M then some (.bool true) else none) (a b : Nat) : (getP (Int.ofNat a, Int.ofNat b) lM).getD (.bool false) = .bool (decide ((a, b) ∈ M)) := by
 rw [h a b]
 by_cases hm : (a, b) ∈ M
 ·rw [if_pos hm, decide_eq_true hm]
  rfl
 rw [if_neg hm, decide_eq_false hm]
 rfl
theorem MetA.put {M : Prs} {lM : List ((Int × Int) × Value)} (h : ∀ a b : Nat, getP (Int.ofNat a, Int.ofNat b) lM = if (a, b) ∈ M then some (.bool true) else none) {a b : Nat} {es : List MapEntry} {c : Nat} (hP : PairsK (pairV .i64) es (putP (Int.ofNat a, Int.ofNat b) (.bool true) lM)) : MetA ((a, b) :: M) (es, c) := ⟨_, hP, fun a' b' => by
 rw [getP_put, h a' b']
 by_cases e : a' = a ∧ b' = b
 ·obtain ⟨rfl, rfl⟩ := e
  rw [if_pos rfl, if_pos List.mem_cons_self]
 have e1 : ¬ ((Int.ofNat a', Int.ofNat b') = (Int.ofNat a, Int.ofNat b)) := fun h => e ⟨Int.ofNat.inj (Prod.mk.inj h).1, Int.ofNat.inj (Prod.mk.inj h).2⟩
 rw [if_neg e1]
 by_cases hm : (a', b') ∈ M
 ·rw [if_pos hm, if_pos (List.mem_cons_of_mem _ hm)]
 rw [if_neg hm, if_neg fun h => by
  rcases List.mem_cons.1 h with h | h
  ·exact e ⟨(Prod.mk.inj h).1, (Prod.mk.inj h).2⟩
  exact hm h]⟩
structure CmpPre (l : List Ty) (al : Option Addr) (cl bs bm : Nat) (m : AW) : Prop where
 hs : Off [bm] m bs (.cells [.slice al l.length cl, .map (some bm)] 163 false .plain none)
 hl : Sl (Off [bm] m) 5 (RTy (Off [bm] m)) l (.slice al l.length cl)
theorem CmpPre.mono {l : List Ty} {al : Option Addr} {cl bs bm : Nat} {m m' : AW} (h : CmpPre l al cl bs bm m) (k : ∀ b o, Off [bm] m b o → Off [bm] m' b o) : CmpPre l al cl bs bm m' := ⟨k _ _ h.hs, h.hl.mono k (RTy.mono k)⟩
abbrev CmpY := (Bool × Prs) × (List MapEntry × Nat)
def EqQ (l : List Ty) (bm : Nat) (M : Prs) (a b : Nat) (m : AW) (v : Value) (m' : AW) : Prop := ∃ y : CmpY, (EqA l M a b y.1 ∧ MetA y.1.2 y.2) ∧ v = .bool y.1.1 ∧ Knows [bm] m m' (MapC bm y.2)
def EqualC (P : Program) (l : List Ty) (al : Option Addr) (cl bs bm n a b : Nat) : Prop := ∀ (m : AW) (x : List MapEntry × Nat) (M : Prs), m.lo ≤ m.next → Knows [bm] m m (MapC bm x) → MetA M x → Bnd l M → CmpPre l al cl bs bm m → unmet l.length M < n → Fc P 105 [ptr bs, .int .i64 (Int.ofNat a), .int .i64 (Int.ofNat b)] m (EqQ l bm M a b m)
/-- What a comparison of more than two types answers. -/
structure RelA (l : List Ty) (M : Prs) (Py : (Nat → Nat → Prop) → Prop) (z : Bool × Prs) : Prop where
 grown : Grown M z.2
 bnd : Bnd l M → Bnd l z.2
 yes : z.1 = true → Closed l M z.2 ∧ Py (InM z.2)
 no : z.1 = false → ¬ Py (EqT l)
def RelQ (l : List Ty) (bm : Nat) (M : Prs) (Py : (Nat → Nat → Prop) → Prop) (m : AW) (v : Value) (m' : AW) : Prop := ∃ y : CmpY, (RelA l M Py y.1 ∧ MetA y.1.2 y.2) ∧ v = .bool y.1.1 ∧ Knows [bm] m m' (MapC bm y.2)
theorem RelA.fail {l : List Ty} {M M' : Prs} {Py : (Nat → Nat → Prop) → Prop} (hg : Grown M M') (hb : Bnd l M → Bnd l M') (h : ¬ Py (EqT l)) : RelA l M Py (false, M') := ⟨hg, hb, fun e => (by cases e), fun _ => h⟩
theorem RelA.good {l : List Ty} {M M' : Prs} {Py : (Nat → Nat → Prop) → Prop} {P : Prop} (h : RowA l M M' P) (hP : Py (InM M')) : RelA l M Py (true, M') := ⟨h.grown, h.bnd, fun _ => ⟨h.closed, hP⟩, fun e => by cases e⟩
/-- One comparison more, that says yes. -/
theorem RowA.more {l : List Ty} {M M1 : Prs} {P P2 : Prop} {a b : Nat} {z : Bool × Prs} (h : RowA l M M1 P) (hz : EqA l M1 a b z) (ht : z.1 = true) (hP : P2) : RowA l M z.2 P2 := ⟨h.grown.trans hz.grown, fun hb => hz.bnd (h.bnd hb), h.closed.trans (hz.yes ht).2 hz.grown, hP⟩
theorem RowA.moreR {l : List Ty} {M M1 : Prs} {P P2 : Prop} {Py : (Nat → Nat → Prop) → Prop} {z : Bool × Prs} (h : RowA l M M1 P) (hz : RelA l M1 Py z) (ht : z.1 = true) (hP : P2) : RowA l M z.2 P2 := ⟨h.grown.trans hz.grown, fun hb => hz.bnd (h.bnd hb), h.closed.trans (hz.yes ht).1 hz.grown, hP⟩
def FldsU (R : Nat → Nat → Prop) (L L' : List Fld) (i : Nat) : Prop := ∀ (j : Nat) (f g : Fld), j < i → L[j]? = some f → L'[j]? = some g → f.name = g.name ∧ RI R f.type g.type
theorem FldsU.succ {M M' : Prs} {L L' : List Fld} {i : Nat} {f g : Fld} (h : FldsU (InM M) L L' i) (k : Grown M M') (hf : L[i]? = some f) (hg : L'[i]? = some g) (hn : f.name = g.name) (hr : RI (InM M') f.type g.type) : FldsU (InM M') L L' (i + 1) := fun j u w hj hu hw => by
 by_cases e : j = i
 ·subst e
  rw [hf] at hu
  rw [hg] at hw
  cases hu
  cases hw
  exact ⟨hn, hr⟩
 have := h j u w (by omega) hu hw
 exact ⟨this.1, this.2.mono (InM.mono k)⟩
theorem FldsU.all {R : Nat → Nat → Prop} {L L' : List Fld} {i : Nat} (h : FldsU R L L' i) (hl : L.length = L'.length) (hi : L.length ≤ i) : FldsR R L L' := ⟨hl, fun j f g hf hg => h j f g (by have := (List.getElem?_eq_some_iff.1 hf).1; omega) hf hg⟩
/-- Which types the names have. -/
def TypN (L : List Fld) (lN : List (ByteArray × Value)) : Prop := ∀ s, getP s lN = (L.find? fun f => decide (f.name = s)).map fun f => .int .i64 f.type
theorem TypN.nil : TypN [] [] := fun s => rfl
theorem TypN.put {L : List Fld} {lN : List (ByteArray × Value)} {x : Fld} (h : TypN L lN) (hn : x.name ∉ fnames L) : TypN (L ++ [x]) (putP x.name (.int .i64 x.type) lN) := fun s => by
 rw [getP_put, h s, List.find?_append]
 by_cases e : s = x.name
 ·subst e
  have : (L.find? fun f => decide (f.name = x.name)) = none := by
   rw [List.find?_eq_none]
   intro f hf he
   exact hn (List.mem_map.2 ⟨f, hf, by simpa using he⟩)
  rw [if_pos rfl, this]
  simp
 rw [if_neg e]
 have : ([x].find? fun f => decide (f.name = s)) = none := by
  rw [List.find?_eq_none]
  intro f hf he
  rw [List.mem_singleton.1 hf] at he
  exact e (of_decide_eq_true he).symm
 rw [this, Option.or_none]
theorem TypN.take {L : List Fld} {lN : List (ByteArray × Value)} {i : Nat} {x : Fld} (h : TypN (L.take i) lN) (hnd : (fnames L).Nodup) (hx : L[i]? = some x) : TypN (L.take (i + 1)) (putP x.name (.int .i64 x.type) lN) := by
 rw [take_succ' hx]
 refine h.put fun hm => ?_
 have h1 := fnames_get hx
 have h2 : fnames (L.take i) = (fnames L).take i := by
  unfold fnames
  rw [List.map_take]
 rw [h2] at hm
 have h3 := dup_mem h1 hm
 unfold dupB at h3
 rw [decide_eq_true hnd] at h3
 cases h3
def MemU (R : Nat → Nat → Prop) (L L' : List Fld) (i : Nat) : Prop := ∀ (j : Nat) (f : Fld), j < i → L[j]? = some f → ∃ g, g ∈ L' ∧ g.name = f.name ∧ RI R f.type g.type
theorem MemU.succ {M M' : Prs} {L L' : List Fld} {i : Nat} {f g : Fld} (h : MemU (InM M) L L' i) (k : Grown M M') (hf : L[i]? = some f) (hg : g ∈ L') (hn : g.name = f.name) (hr : RI (InM M') f.type g.type) : MemU (InM M') L L' (i + 1) := fun j u hj hu => by
 by_cases e : j = i
 ·subst e
  rw [hf] at hu
  cases hu
  exact ⟨g, hg, hn, hr⟩
 obtain ⟨w, h1, h2, h3⟩ := h j u (by omega) hu
 exact ⟨w, h1, h2, h3.mono (InM.mono k)⟩
theorem MemU.all {R : Nat → Nat → Prop} {L L' : List Fld} {i : Nat} (h : MemU R L L' i) (hl : L.length = L'.length) (hi : L.length ≤ i) : MemR R L L' := ⟨hl, fun f hf => by
 obtain ⟨j, hj⟩ := List.getElem?_of_mem hf
 exact h j f (by have := (List.getElem?_eq_some_iff.1 hj).1; omega) hj⟩
theorem find_mem {L : List Fld} {s : ByteArray} {g : Fld} (h : (L.find? fun f => decide (f.name = s)) = some g) : g ∈ L ∧ g.name = s := ⟨List.mem_of_find?_eq_some h, by simpa using List.find?_some h⟩
theorem mem_one {L : List Fld} (hnd : (fnames L).Nodup) {f g : Fld} (hf : f ∈ L) (hg : g ∈ L) (hn : f.name = g.name) : f = g := by
 obtain ⟨i, hi⟩ := List.getElem?_of_mem hf
 obtain ⟨j, hj⟩ := List.getElem?_of_mem hg
 have h1 := fnames_get hi
 have h2 := fnames_get hj
 have e : i = j := by
  have h3 := (List.getElem?_eq_some_iff.1 h1)
  have h4 := (List.getElem?_eq_some_iff.1 h2)
  obtain ⟨l1, e1⟩ := h3
  obtain ⟨l2, e2⟩ := h4
  rcases Nat.lt_trichotomy i j with hlt | rfl | hlt
  ·have := List.pairwise_iff_getElem.1 hnd i j l1 l2 hlt
   rw [e1, e2] at this
   exact absurd hn this
  ·rfl
  have := List.pairwise_iff_getElem.1 hnd j i l2 l1 hlt
  rw [e1, e2] at this
  exact absurd hn.symm this
 subst e
 rw [hi] at hj
 exact Option.some.inj hj
theorem EqT.ty {l : List Ty} (hb : Sound8 l) {a b : Nat} {x y : Ty} (hx : l[a]? = some x) (hy : l[b]? = some y) (h : EqT l a b) : TyR (EqT l) x y := by
 obtain ⟨x', y', h1, h2, h3⟩ := h.step hb (List.getElem?_eq_some_iff.1 hx).1
 rw [hx] at h1
 rw [hy] at h2
 cases h1
 cases h2
 exact h3
def ElsU (R : Nat → Nat → Prop) (L L' : List Int) (i : Nat) : Prop := ∀ (j : Nat) (p q : Int), j < i → L[j]? = some p → L'[j]? = some q → RI R p q
theorem ElsU.succ {M M' : Prs} {L L' : List Int} {i : Nat} {p q : Int} (h : ElsU (InM M) L L' i) (k : Grown M M') (hf : L[i]? = some p) (hg : L'[i]? = some q) (hr : RI (InM M') p q) : ElsU (InM M') L L' (i + 1) := fun j u w hj hu hw => by
 by_cases e : j = i
 ·subst e
  rw [hf] at hu
  rw [hg] at hw
  cases hu
  cases hw
  exact hr
 exact (h j u w (by omega) hu hw).mono (InM.mono k)
theorem ElsU.all {R : Nat → Nat → Prop} {L L' : List Int} {i : Nat} (h : ElsU R L L' i) (hl : L.length = L'.length) (hi : L.length ≤ i) : ElsR R L L' := ⟨hl, fun j f g hf hg => h j f g (by have := (List.getElem?_eq_some_iff.1 hf).1; omega) hf hg⟩
def ArmsU (R : Nat → Nat → Prop) (L L' : List Arm) (i : Nat) : Prop := ∀ (j : Nat) (f g : Arm), j < i → L[j]? = some f → L'[j]? = some g → f.name = g.name ∧ FldsR R f.fields g.fields
theorem ArmsU.mono {M M' : Prs} {L L' : List Arm} {i : Nat} (h : ArmsU (InM M) L L' i) (k : Grown M M') : ArmsU (InM M') L L' i := fun j f g hj hf hg => ⟨(h j f g hj hf hg).1, (h j f g hj hf hg).2.mono (InM.mono k)⟩
theorem ArmsU.succ {M M' : Prs} {L L' : List Arm} {i : Nat} {f g : Arm} (h : ArmsU (InM M) L L' i) (k : Grown M M') (hf : L[i]? = some f) (hg : L'[i]? = some g) (hn : f.name = g.name) (hr : FldsR (InM M') f.fields g.fields) : ArmsU (InM M') L L' (i + 1) := fun j u w hj hu hw => by
 by_cases e : j = i
 ·subst e
  rw [hf] at hu
  rw [hg] at hw
  cases hu
  cases hw
  exact ⟨hn, hr⟩
 exact h.mono k j u w (by omega) hu hw
theorem ArmsU.all {R : Nat → Nat → Prop} {L L' : List Arm} {i : Nat} (h : ArmsU R L L' i) (hl : L.length = L'.length) (hi : L.length ≤ i) : ArmsR R L L' := ⟨hl, fun j f g hf hg => h j f g (by have := (List.getElem?_eq_some_iff.1 hf).1; omega) hf hg⟩
theorem shape_arms {x : Ty} (h : shapedB x = true) (hk : x.kind ≠ 10) : x.arms = [] := by
 unfold shapedB at h
 have h := of_decide_eq_true h
 simp only [shapeP] at h
 exact List.eq_nil_of_length_eq_zero (by omega)
/-- A module's members are compared last. -/
theorem EqA.mods {l : List Ty} {M M1 : Prs} {a b : Nat} {x y : Ty} {P : Prop} {z : Bool × Prs} (hb8 : Sound8 l) (hx : l[a]? = some x) (hy : l[b]? = some y) (hh : HeadR x y) (hk : x.kind = 13) (hsx : shapedB x = true) (hsy : shapedB y = true) (hR : RowA l ((a, b) :: M) M1 P) (he : ElsR (InM M1) x.elems y.elems) (hz : RelA l M1 (fun R => MemR R x.fields y.fields) z) : EqA l M a b z := by
 obtain ⟨zb, M2⟩ := z
 cases zb with
 | true =>
  obtain ⟨h1, h2⟩ := hz.yes rfl
  have hax := shape_arms hsx (by omega)
  have hay := shape_arms hsy (by rw [← hh.1]; omega)
  refine EqA.close (P := True) hx hy ⟨hR.grown.trans hz.grown, fun h => hz.bnd (hR.bnd h), hR.closed.trans h1 hz.grown, trivial⟩ ⟨hh, he.mono (InM.mono hz.grown), by rw [if_pos hk]; exact h2, ?_⟩
  rw [hax, hay]
  exact ⟨rfl, fun i f g hf => by cases hf⟩
 | false =>
  refine EqA.fail (fun p hp => hz.grown _ (hR.grown _ (List.mem_cons_of_mem _ hp))) (fun hM => hz.bnd (hR.bnd fun p hp => ?_)) fun h => hz.no rfl ?_
  ·rcases List.mem_cons.1 hp with rfl | hp
   ·exact ⟨(List.getElem?_eq_some_iff.1 hx).1, (List.getElem?_eq_some_iff.1 hy).1⟩
   exact hM p hp
  have := (h.ty hb8 hx hy).flds
  rw [if_pos hk] at this
  exact this
theorem Bnd.cons {l : List Ty} {M : Prs} {a b : Nat} (h : Bnd l M) (ha : a < l.length) (hb : b < l.length) : Bnd l ((a, b) :: M) := fun p hp => by
 rcases List.mem_cons.1 hp with rfl | hp
 ·exact ⟨ha, hb⟩
 exact h p hp
/-- One comparison says no. -/
theorem EqA.stop {l : List Ty} {M M1 M2 : Prs} {a b : Nat} {x y : Ty} {P : Prop} (hx : l[a]? = some x) (hy : l[b]? = some y) (hR : RowA l ((a, b) :: M) M1 P) (g : Grown M1 M2) (gb : Bnd l M1 → Bnd l M2) (h : ¬ EqT l a b) : EqA l M a b (false, M2) :=
 EqA.fail (fun p hp => g _ (hR.grown _ (List.mem_cons_of_mem _ hp))) (fun hM => gb (hR.bnd (hM.cons (List.getElem?_eq_some_iff.1 hx).1 (List.getElem?_eq_some_iff.1 hy).1))) h
theorem nodup_fields {n : Nat} {t : Ty} (h : singleE n t = 0) : (fnames t.fields).Nodup := by
 have h1 := (single_zero h).2.2.2.1
 unfold twiceB at h1
 have h2 : dupB (fnames t.fields) = false := by
  cases h3 : dupB (fnames t.fields) with
  | false => rfl
  | true =>
   rw [h3] at h1
   cases h1
 unfold dupB at h2
 simpa using h2
theorem cfields_ok {l : List Ty} {al : Option Addr} {cl bs bm n : Nat} {M : Prs} {x0 : List MapEntry × Nat} {L L2 : List Fld} {va vb : Value} {m : AW} (hm : m.lo ≤ m.next) (hk : Knows [bm] m m (MapC bm x0)) (hM : MetA M x0) (hB : Bnd l M) (hp : CmpPre l al cl bs bm m) (hn : unmet l.length M < n) (heq : ∀ p q : Nat, p < l.length → q < l.length → EqualC prog l al cl bs bm n p q) (hfa : Sl (Off [bm] m) 2 RFld L va) (hfb : Sl (Off [bm] m) 2 RFld L2 vb) (hL : ∀ (j : Nat) (f : Fld), L[j]? = some f → ∃ q : Nat, f.type = Int.ofNat q ∧ q < l.length) (hL2 : ∀ (j : Nat) (f : Fld), L2[j]? = some f → ∃ q : Nat, f.type = Int.ofNat q ∧ q < l.length) : Fc prog 135 [ptr bs, va, vb] m fun v m' => RelQ l bm M (fun R => FldsR R L L2) m v m' := by
 obtain ⟨aa, ca, rfl, hna, hfa⟩ := hfa
 obtain ⟨ab, cb, rfl, hnb, hfb⟩ := hfb
 have hM0 := hM
 have hB0 := hB
 have hn0 := hn
 refine Fc.bodyS (S := [bm]) (c := _) func135 rfl rfl rfl rfl hk ?_
 refine .seq (.region (.P ?_))
 refine .nil (.seq (.seq (.seq (.region (.P ?_)))))
 refine .G (ln47 ..) ?_
 refine .P ?_
 refine .G (ln47 ..) ?_
 refine .P ?_
 refine .nil (.seq (.cond rfl (fun ht12 => ?_) fun ht12 => ?_))
 ·try simp only [nz] at ht12
  refine .seq (.region (.P ?_))
  refine .nil (.seq (.ret (.seq ?_)))
  exact .end_ rfl rfl (fun m hm => ⟨((false, M), x0), ⟨RelA.fail (Grown.refl _) id fun h => absurd h.1 (by omega), hM⟩, rfl, hm⟩)
 try simp only [nz] at ht12
 have hll : L.length = L2.length := by omega
 refine .skip (.seq (.seq (.seq (.region (.P ?_)))))
 refine .G (ln47 ..) ?_
 refine .P ?_
 refine .nil (.seq (.block ?_))
 refine .loop (α := Nat × Prs × (List MapEntry × Nat)) (fun q => [(0, ptr bs), (1, .slice aa L.length ca), (2, .slice ab L2.length cb), (14, .int .i64 (Int.ofNat (L.length))), (15, .int .i64 (Int.ofNat (q.1)))]) (fun q => [(bm, .map q.2.2.1 q.2.2.2)]) (fun q => q.1 ≤ L.length ∧ RowA l M q.2.1 (FldsU (InM q.2.1) L L2 q.1) ∧ MetA q.2.1 q.2.2) (fun q => L.length - q.1) (0, M, x0) ⟨Nat.zero_le _, RowA.init (fun _ _ _ h => absurd h (Nat.not_lt_zero _)), hM0⟩ ⟨rfl, rfl, rfl, rfl, rfl, trivial⟩ (.refl _) (fun q hq0 => ?_)
 obtain ⟨i, M1, x1⟩ := q
 obtain ⟨hi, hR, hM1⟩ := hq0
 simp only at hi hR hM1
 have hB1 := hR.bnd hB0
 have hu1 := Nat.lt_of_le_of_lt (unmet_le (n := l.length) hR.grown) hn0
 refine .seq (.region (.P ?_))
 refine .nil (.seq (.seq (.cond rfl (fun ht16 => ?_) fun ht16 => ?_)))
 ·try simp only [nz] at ht16
  have hltA : i < L.length := by omega
  obtain ⟨f, hf⟩ := gx hltA
  obtain ⟨bA, offA, csA, elA, gA, mdA, mateA, rfl, ⟨hbA, hhA⟩, hleA, hcA⟩ := so hfa hltA
  have hrf := hcA i f hf
  have hltB : i < L2.length := by omega
  obtain ⟨g_, hg⟩ := gx hltB
  obtain ⟨bB, offB, csB, elB, gB, mdB, mateB, rfl, ⟨hbB, hhB⟩, hleB, hcB⟩ := so hfb hltB
  have hrg := hcB i g_ hg
  obtain ⟨p, hp0, hpl⟩ := hL i f hf
  obtain ⟨q, hq0, hql⟩ := hL2 i g_ hg
  refine .skip (.seq (.seq (.block (.seq (.region (.P2 ?_))))))
  refine .nil (.seq (.seq ?_))
  refine .D [(15, 0), (15, 0), (15, 3), (15, 7), (3, 15), (15, 0), (15, 0), (15, 96), (15, 224), (3, 480), (15, 1023), (15, 2047), (15, 4095), (15, 4095), (15, 4095), (15, 28671), (15, 61439), (3, 126975), (15, 4095), (15, 4095), (15, 790527), (15, 1839103), (3, 3936255), (7, 8388607), (15, 16777215), (15, 33554431)] (by kernel_rfl) (by kernel_rfl) (fun base hbase hB => ?_)
  iterate 2 refine .P ?_
  refine .K underlying47 sz132 ?_
  refine .F fa132_0 ?_
  refine .M ag9 (Off.sees rfl rfl _ _ ⟨hbA, hhA⟩) (cell_of_take hrf (k := 0) rfl) ?_
  iterate 2 refine .P ?_
  refine .K underlying47 sz132 ?_
  refine .F fa132_0 ?_
  refine .M ag9 (Off.sees rfl rfl _ _ ⟨hbB, hhB⟩) (cell_of_take hrg (k := 0) rfl) ?_
  iterate 2 refine .P ?_
  refine .splitB 29 rfl (fun hs_29 => ?_) (fun hs_29 => ?_)
  ·try simp only [nz] at hs_29
   have hnn : f.name ≠ g_.name := by assumption
   iterate 13 refine .O ?_
   refine .P ?_
   refine .nil (.seq (.cond_true rfl (.seq (.region (.P ?_)))))
   refine .nil (.seq (.ret (.blk (.seq (.loop (.blk (.seq ?_)))))))
   exact .end_ rfl rfl (fun m hm => ⟨((false, M1), x1), ⟨RelA.fail hR.grown hR.bnd fun h => hnn (h.2 i f g_ hf hg).1, hM1⟩, rfl, hm⟩)
  try simp only [nz] at hs_29
  have hnn : f.name = g_.name := by assumption
  iterate 3 refine .P ?_
  refine .K underlying47 sz132 ?_
  refine .F fa132_1 ?_
  refine .M ag3 (Off.sees rfl rfl _ _ ⟨hbA, hhA⟩) (cell_of_take hrf (k := 1) rfl) ?_
  refine .as 35 (.int .i64 (Int.ofNat p)) rfl (congrArg (Value.int .i64) hp0) ?_
  iterate 2 refine .P ?_
  refine .K underlying47 sz132 ?_
  refine .F fa132_1 ?_
  refine .M ag3 (Off.sees rfl rfl _ _ ⟨hbB, hhB⟩) (cell_of_take hrg (k := 1) rfl) ?_
  refine .as 40 (.int .i64 (Int.ofNat q)) rfl (congrArg (Value.int .i64) hq0) ?_
  refine .callc (fun y : CmpY => EqA l M1 p q y.1 ∧ MetA y.1.2 y.2) (fun y => .bool y.1.1) (fun y => [(bm, .map y.2.1 y.2.2)]) .one rfl rfl (by kernel_rfl) (by kernel_rfl) rfl rfl rfl rfl rfl rfl (fun m2 g0 g2 gb gr => heq p q hpl hql m2 x1 M1 g0 g2 hM1 hB1 (hp.mono gb) hu1) (fun y hy => ?_)
  refine .p rfl rfl rfl rfl rfl (.p rfl rfl rfl rfl rfl (.of (.nil (.seq (.cond rfl (fun ht43 => ?_) fun ht43 => ?_)))))
  ·obtain ⟨hy, hyM⟩ := hy
   have hyf : y.1.1 = false := by cases h_ : y.1.1 with | false => rfl | true => rw [h_] at ht43; cases ht43
   refine .seq (.region (.P ?_))
   refine .nil (.seq (.ret (.blk (.seq (.loop (.blk (.seq ?_)))))))
   exact .end_ rfl rfl (fun m hm => ⟨((false, y.1.2), y.2), ⟨RelA.fail (hR.grown.trans hy.grown) (fun h => hy.bnd (hR.bnd h)) fun h => hy.no hyf (by have := (h.2 i f g_ hf hg).2; rw [hp0, hq0] at this; exact this.nat), hyM⟩, rfl, hm⟩)
  obtain ⟨hy, hyM⟩ := hy
  have hyt : y.1.1 = true := by cases h_ : y.1.1 with | true => rfl | false => rw [h_] at ht43; cases ht43
  refine .skip (.blk (.seq (.region (.P ?_))))
  refine .W 44 i ?_
  refine .P ?_
  refine .nil ?_
  exact .loop (i + 1, y.1.2, y.2) ⟨by omega, hR.more hy hyt (hR.all.succ hy.grown hf hg hnn ⟨p, q, hp0, hq0, (hy.yes hyt).1⟩), hyM⟩ (by show L.length - (i + 1) < L.length - i; omega) ⟨rfl, rfl, rfl, rfl, rfl, trivial⟩ (.refl _)
 try simp only [nz] at ht16
 refine .exit (.seq (.loop (.here (.seq (.seq (.region (.P ?_)))))))
 refine .nil (.seq (.ret ?_))
 exact .end_ rfl rfl (fun m hm => ⟨((true, M1), x1), ⟨RelA.good hR (hR.all.all hll (by omega)), hM1⟩, rfl, hm⟩)
theorem cmembers_ok {l : List Ty} {al : Option Addr} {cl bs bm n : Nat} {M : Prs} {x0 : List MapEntry × Nat} {L L2 : List Fld} {va vb : Value} {m : AW} (hm : m.lo ≤ m.next) (hk : Knows [bm] m m (MapC bm x0)) (hM : MetA M x0) (hB : Bnd l M) (hp : CmpPre l al cl bs bm m) (hn : unmet l.length M < n) (heq : ∀ p q : Nat, p < l.length → q < l.length → EqualC prog l al cl bs bm n p q) (hfa : Sl (Off [bm] m) 2 RFld L va) (hfb : Sl (Off [bm] m) 2 RFld L2 vb) (hL : ∀ (j : Nat) (f : Fld), L[j]? = some f → ∃ q : Nat, f.type = Int.ofNat q ∧ q < l.length) (hL2 : ∀ (j : Nat) (f : Fld), L2[j]? = some f → ∃ q : Nat, f.type = Int.ofNat q ∧ q < l.length) (hnd : (fnames L2).Nodup) : Fc prog 134 [ptr bs, va, vb] m fun v m' => RelQ l bm M (fun R => MemR R L L2) m v m' := by
 obtain ⟨aa, ca, rfl, hna, hfa⟩ := hfa
 obtain ⟨ab, cb, rfl, hnb, hfb⟩ := hfb
 have hM0 := hM
 have hB0 := hB
 have hn0 := hn
 refine Fc.bodyS (S := [bm]) (c := _) func134 rfl rfl rfl rfl hk ?_
 refine .seq (.region (.P ?_))
 refine .nil (.seq (.seq (.seq (.region (.P ?_)))))
 refine .G (ln47 ..) ?_
 refine .P ?_
 refine .G (ln47 ..) ?_
 refine .P ?_
 refine .nil (.seq (.cond rfl (fun ht18 => ?_) fun ht18 => ?_))
 ·try simp only [nz] at ht18
  refine .seq (.region (.P ?_))
  refine .nil (.seq (.ret (.seq ?_)))
  exact .end_ rfl rfl (fun m hm => ⟨((false, M), x0), ⟨RelA.fail (Grown.refl _) id fun h => absurd h.1 (by omega), hM⟩, rfl, hm⟩)
 try simp only [nz] at ht18
 have hll : L.length = L2.length := by omega
 refine .skip (.seq (.seq (.region ?_)))
 refine .makeMap rfl rfl rfl rfl (fun b19 hb19 => ?_)
 refine .P ?_
 refine .nil (.seq (.seq (.seq (.region (.P ?_)))))
 refine .G (ln47 ..) ?_
 refine .P ?_
 refine .nil (.seq (.block ?_))
 refine .loop (α := Nat × List MapEntry × Nat × List (ByteArray × Value)) (fun q => [(0, ptr bs), (1, .slice aa L.length ca), (7, .map (some b19)), (20, .slice ab L2.length cb), (21, .int .i64 (Int.ofNat (L2.length))), (22, .int .i64 (Int.ofNat (q.1)))]) (fun q => [(b19, .map q.2.1 q.2.2.1), (bm, .map x0.1 x0.2)]) (fun q => q.1 ≤ L2.length ∧ PairsK Value.string q.2.1 q.2.2.2 ∧ TypN (L2.take q.1) q.2.2.2) (fun q => L2.length - q.1) (0, [], 0, []) ⟨Nat.zero_le _, trivial, TypN.nil⟩ ⟨rfl, rfl, rfl, rfl, rfl, rfl, trivial⟩ (.refl _) (fun q hq0 => ?_)
 obtain ⟨i, es, c, lN⟩ := q
 obtain ⟨hi, hP, hN⟩ := hq0
 simp only at hi hP hN
 refine .seq (.region (.P ?_))
 refine .nil (.seq (.seq (.cond rfl (fun ht23 => ?_) fun ht23 => ?_)))
 ·try simp only [nz] at ht23
  have hltB : i < L2.length := by omega
  obtain ⟨g_, hg⟩ := gx hltB
  obtain ⟨bB, offB, csB, elB, gB, mdB, mateB, rfl, ⟨hbB, hhB⟩, hleB, hcB⟩ := so hfb hltB
  have hrg := hcB i g_ hg
  refine .skip (.seq (.seq (.block (.seq (.region (.K underlying47 sz132 ?_))))))
  refine .A ag132 sz132 (Off.sees rfl rfl _ _ ⟨hbB, hhB⟩) hrg ?_
  refine .alloc rfl rfl rfl rfl zr132 (fun b9 hb9 => ?_)
  refine .S sz132 ?_
  refine .nil (.seq (.region (.P ?_)))
  refine .F fa132_0 ?_
  refine .L ag9 ?_
  refine .F fa132_1 ?_
  refine .L ag3 ?_
  refine .mapUpdate (K := Value.string) (.tail .one) hP (KeyOk.string underlying9) rfl rfl rfl underlying206 rfl rfl rfl (fun es1 c1 hP1 => ?_)
  refine .nil (.blk (.seq (.region (.P ?_))))
  refine .W 31 i ?_
  refine .P ?_
  refine .nil ?_
  exact .loop (i + 1, es1, c1, _) ⟨hltB, hP1, hN.take hnd hg⟩ (by show L2.length - (i + 1) < L2.length - i; omega) ⟨rfl, rfl, rfl, rfl, rfl, rfl, trivial⟩ (.cons_cons _ (.cons _ (.refl _)))
 try simp only [nz] at ht23
 rw [List.take_of_length_le (show L2.length ≤ i by omega)] at hN
 refine .exit (.seq (.loop (.here (.seq (.seq (.seq (.region (.P ?_))))))))
 refine .G (ln47 ..) ?_
 refine .P ?_
 refine .nil (.seq (.block ?_))
 refine .swap (.swap _ _ _) (.loop (α := Nat × Prs × (List MapEntry × Nat)) (fun q => [(0, ptr bs), (7, .map (some b19)), (32, .slice aa L.length ca), (33, .int .i64 (Int.ofNat (L.length))), (34, .int .i64 (Int.ofNat (q.1)))]) (fun q => [(bm, .map q.2.2.1 q.2.2.2), (b19, .map es c)]) (fun q => q.1 ≤ L.length ∧ RowA l M q.2.1 (MemU (InM q.2.1) L L2 q.1) ∧ MetA q.2.1 q.2.2) (fun q => L.length - q.1) (0, M, x0) ⟨Nat.zero_le _, RowA.init (fun _ _ h => absurd h (Nat.not_lt_zero _)), hM0⟩ ⟨rfl, rfl, rfl, rfl, rfl, trivial⟩ (.refl _) (fun q hq0 => ?_))
 obtain ⟨k, M1, x1⟩ := q
 obtain ⟨hk, hR, hM1⟩ := hq0
 simp only at hk hR hM1
 have hB1 := hR.bnd hB0
 have hu1 := Nat.lt_of_le_of_lt (unmet_le (n := l.length) hR.grown) hn0
 refine .seq (.region (.P ?_))
 refine .nil (.seq (.seq (.cond rfl (fun ht35 => ?_) fun ht35 => ?_)))
 ·try simp only [nz] at ht35
  have hltA : k < L.length := by omega
  obtain ⟨f, hf⟩ := gx hltA
  obtain ⟨bA, offA, csA, elA, gA, mdA, mateA, rfl, ⟨hbA, hhA⟩, hleA, hcA⟩ := so hfa hltA
  have hrf := hcA k f hf
  obtain ⟨p, hp0, hpl⟩ := hL k f hf
  refine .skip (.seq (.seq (.block (.seq (.region (.K underlying47 sz132 ?_))))))
  refine .A ag132 sz132 (Off.sees rfl rfl _ _ ⟨hbA, hhA⟩) hrf ?_
  refine .alloc rfl rfl rfl rfl zr132 (fun b11 hb11 => ?_)
  refine .S sz132 ?_
  refine .nil (.seq (.seq (.region (.P ?_))))
  refine .F fa132_0 ?_
  refine .L ag9 ?_
  rcases hfnd : L2.find? (fun h => decide (h.name = f.name)) with _ | g_
  ·refine .lookupOk (K := Value.string) (.tail (.tail .one)) hP (KeyOk.string underlying9) rfl rfl rfl rfl underlying206 zr3 rfl rfl (v := .tuple ⟨[.int .i64 0, .bool false]⟩) (by rw [hN f.name, hfnd]; rfl) ?_
   iterate 5 refine .P ?_
   refine .nil (.seq (.seq (.region (.P3 ?_))))
   iterate 6 refine .O ?_
   refine .P ?_
   refine .nil (.seq (.cond_true rfl (.seq (.region (.P ?_)))))
   refine .nil (.seq (.ret (.blk (.seq (.loop (.blk (.seq ?_)))))))
   exact .end_ rfl rfl (by first | exact (fun m hm => ⟨((false, M1), x1), ⟨RelA.fail hR.grown hR.bnd fun h => (by obtain ⟨w, h1, h2, _⟩ := h.2 f (List.mem_of_getElem? hf); have := List.find?_eq_none.1 hfnd w h1; simp [h2] at this), hM1⟩, rfl, hm.sub (.cons _ (.cons_cons _ (List.nil_sublist _)))⟩) | exact (fun m hm => ⟨((false, y.1.2), y.2), ⟨RelA.fail (hR.grown.trans hy.grown) (fun h => hy.bnd (hR.bnd h)) fun h => hy.no hyf (by obtain ⟨w, h1, h2, h3⟩ := h.2 f (List.mem_of_getElem? hf); have he := mem_one hnd h1 hgm (h2.trans hgn.symm); subst he; rw [hp0, hq0] at h3; exact h3.nat), hyM⟩, rfl, hm.sub (.cons_cons _ (List.nil_sublist _))⟩) | exact (fun m hm => ⟨((true, M1), x1), ⟨RelA.good hR (hR.all.all hll (by omega)), hM1⟩, rfl, hm.sub (.cons_cons _ (List.nil_sublist _))⟩))
  obtain ⟨hgm, hgn⟩ := find_mem hfnd
  obtain ⟨jg, hjg⟩ := List.getElem?_of_mem hgm
  obtain ⟨q, hq0, hql⟩ := hL2 jg g_ hjg
  refine .lookupOk (K := Value.string) (.tail (.tail .one)) hP (KeyOk.string underlying9) rfl rfl rfl rfl underlying206 zr3 rfl rfl (v := .tuple ⟨[.int .i64 g_.type, .bool true]⟩) (by rw [hN f.name, hfnd]; rfl) ?_
  iterate 5 refine .P ?_
  refine .nil (.seq (.seq (.region ?_)))
  iterate 4 refine .P ?_
  refine .F fa132_1 ?_
  refine .L ag3 ?_
  refine .as 50 (.int .i64 (Int.ofNat p)) rfl (congrArg (Value.int .i64) hp0) ?_
  refine .P ?_
  refine .as 51 (.int .i64 (Int.ofNat q)) rfl (congrArg (Value.int .i64) hq0) ?_
  refine .callc (fun y : CmpY => EqA l M1 p q y.1 ∧ MetA y.1.2 y.2) (fun y => .bool y.1.1) (fun y => [(bm, .map y.2.1 y.2.2)]) (.tail .one) rfl rfl rfl rfl rfl rfl (fun m2 g1 g2 => heq p q hpl hql m2 x1 M1 g1.lole' g2 hM1 hB1 (hp.mono (Off.kr g1.kr)) hu1) (fun y hy => ?_)
  refine .P2 ?_
  refine .nil (.seq (.cond rfl (fun ht54 => ?_) fun ht54 => ?_))
  ·obtain ⟨hy, hyM⟩ := hy
   have hyf : y.1.1 = false := by cases h_ : y.1.1 with | false => rfl | true => rw [h_] at ht54; cases ht54
   refine .seq (.region (.P ?_))
   refine .nil (.seq (.ret (.blk (.seq (.loop (.blk (.seq ?_)))))))
   exact .end_ rfl rfl (by first | exact (fun m hm => ⟨((false, M1), x1), ⟨RelA.fail hR.grown hR.bnd fun h => (by obtain ⟨w, h1, h2, _⟩ := h.2 f (List.mem_of_getElem? hf); have := List.find?_eq_none.1 hfnd w h1; simp [h2] at this), hM1⟩, rfl, hm.sub (.cons _ (.cons_cons _ (List.nil_sublist _)))⟩) | exact (fun m hm => ⟨((false, y.1.2), y.2), ⟨RelA.fail (hR.grown.trans hy.grown) (fun h => hy.bnd (hR.bnd h)) fun h => hy.no hyf (by obtain ⟨w, h1, h2, h3⟩ := h.2 f (List.mem_of_getElem? hf); have he := mem_one hnd h1 hgm (h2.trans hgn.symm); subst he; rw [hp0, hq0] at h3; exact h3.nat), hyM⟩, rfl, hm.sub (.cons_cons _ (List.nil_sublist _))⟩) | exact (fun m hm => ⟨((true, M1), x1), ⟨RelA.good hR (hR.all.all hll (by omega)), hM1⟩, rfl, hm.sub (.cons_cons _ (List.nil_sublist _))⟩))
  obtain ⟨hy, hyM⟩ := hy
  have hyt : y.1.1 = true := by cases h_ : y.1.1 with | true => rfl | false => rw [h_] at ht54; cases ht54
  refine .skip (.blk (.seq (.region (.P ?_))))
  refine .W 55 k ?_
  refine .P ?_
  refine .nil ?_
  exact .loop (k + 1, y.1.2, y.2) ⟨by omega, hR.more hy hyt (hR.all.succ hy.grown hf hgm hgn ⟨p, q, hp0, hq0, (hy.yes hyt).1⟩), hyM⟩ (by show L.length - (k + 1) < L.length - k; omega) ⟨rfl, rfl, rfl, rfl, rfl, trivial⟩ (.cons_cons _ (.cons _ (.refl _)))
 try simp only [nz] at ht35
 refine .exit (.seq (.loop (.here (.seq (.seq (.region (.P ?_)))))))
 refine .nil (.seq (.ret ?_))
 exact .end_ rfl rfl (by first | exact (fun m hm => ⟨((false, M1), x1), ⟨RelA.fail hR.grown hR.bnd fun h => (by obtain ⟨w, h1, h2, _⟩ := h.2 f (List.mem_of_getElem? hf); have := List.find?_eq_none.1 hfnd w h1; simp [h2] at this), hM1⟩, rfl, hm.sub (.cons _ (.cons_cons _ (List.nil_sublist _)))⟩) | exact (fun m hm => ⟨((false, y.1.2), y.2), ⟨RelA.fail (hR.grown.trans hy.grown) (fun h => hy.bnd (hR.bnd h)) fun h => hy.no hyf (by obtain ⟨w, h1, h2, h3⟩ := h.2 f (List.mem_of_getElem? hf); have he := mem_one hnd h1 hgm (h2.trans hgn.symm); subst he; rw [hp0, hq0] at h3; exact h3.nat), hyM⟩, rfl, hm.sub (.cons_cons _ (List.nil_sublist _))⟩) | exact (fun m hm => ⟨((true, M1), x1), ⟨RelA.good hR (hR.all.all hll (by omega)), hM1⟩, rfl, hm.sub (.cons_cons _ (List.nil_sublist _))⟩))
theorem PT165 : PairT prog 165 3 .i64 := ⟨underlying165, underlying3, sz3, fun _ _ => by kernel_rfl, fun _ _ => by kernel_rfl⟩
theorem cequal_step {l : List Ty} {al : Option Addr} {cl bs bm n : Nat} {M : Prs} {x0 : List MapEntry × Nat} {a b_ : Nat} {m : AW} (hm : m.lo ≤ m.next) (hk : Knows [bm] m m (MapC bm x0)) (hM : MetA M x0) (hBd : Bnd l M) (hp : CmpPre l al cl bs bm m) (hn : unmet l.length M < n + 1) (hWl : Well l) (ha : a < l.length) (hb_ : b_ < l.length) (ih : ∀ p q : Nat, p < l.length → q < l.length → EqualC prog l al cl bs bm n p q) : Fc prog 105 [ptr bs, .int .i64 (Int.ofNat (a)), .int .i64 (Int.ofNat (b_))] m fun v m' => EqQ l bm M a b_ m v m' := by
 have hsS := hp.hs
 have hbsl := hsS.1
 have hsnd := hWl.sound
 obtain ⟨a_, cap_, he_, hnl, hl⟩ := hp.hl
 cases he_
 obtain ⟨x_, hx_⟩ := gx ha
 obtain ⟨y_, hy_⟩ := gx hb_
 rcases hl with ⟨e0, -⟩ | ⟨b, off, cs, el, g, md, mate, rfl, ⟨hb, hh⟩, hle, hc⟩
 ·rw [e0] at ha; simp at ha
 have hrX := hc a x_ hx_
 obtain ⟨veX, vfX, vaX, hrX, heX, hfX, hgX⟩ := hrX
 obtain ⟨aeX, ceX, rfl, hneX, heX⟩ := heX
 have hfSX := hfX
 obtain ⟨afX, cfX, rfl, hnfX, hfX⟩ := hfX
 obtain ⟨aaX, caX, rfl, hnaX, hgX⟩ := hgX
 have hrY := hc b_ y_ hy_
 obtain ⟨veY, vfY, vaY, hrY, heY, hfY, hgY⟩ := hrY
 obtain ⟨aeY, ceY, rfl, hneY, heY⟩ := heY
 have hfSY := hfY
 obtain ⟨afY, cfY, rfl, hnfY, hfY⟩ := hfY
 obtain ⟨aaY, caY, rfl, hnaY, hgY⟩ := hgY
 have hM0 := hM
 obtain ⟨lM, hP, hD⟩ := hM
 refine Fc.bodyS (S := [bm]) (c := _) func105 rfl rfl rfl rfl hk ?_
 refine .seq (.region (.P ?_))
 refine .nil (.seq (.seq (.seq (.region ?_))))
 iterate 4 refine .P ?_
 refine .splitB 14 rfl (fun hs_14 => ?_) (fun hs_14 => ?_)
 ·try simp only [nz] at hs_14
  have hab : a = b_ := by omega
  iterate 8 refine .O ?_
  refine .P ?_
  refine .nil (.seq (.cond_true rfl (.seq (.region (.P ?_)))))
  refine .nil (.seq (.ret (.seq ?_)))
  exact .end_ rfl rfl (fun m hm => ⟨((true, M), x0), ⟨EqA.here (.inl hab), hM0⟩, rfl, hm⟩)
 try simp only [nz] at hs_14
 refine .P2 ?_
 refine .F fa163_1 ?_
 refine .M ag161 (Off.sees rfl rfl _ _ hsS) rfl ?_
 refine .P2 ?_
 refine .p (v := pairV .i64 (Int.ofNat a, Int.ofNat b_)) rfl rfl rfl (by kernel_rfl) ?_
 refine .lookup (K := pairV .i64) (kv := (Int.ofNat a, Int.ofNat b_)) .one hP (KeyOk.pair PT165) rfl rfl rfl rfl underlying161 zr4 rfl rfl (MetA.look hD a b_) ?_
 refine .P ?_
 refine .nil (.seq (.cond rfl (fun ht23 => ?_) fun ht23 => ?_))
 ·have hin := of_decide_eq_true ht23
  refine .seq (.region (.P ?_))
  refine .nil (.seq (.ret (.seq ?_)))
  exact .end_ rfl rfl (fun m hm => ⟨((true, M), x0), ⟨EqA.here (.inr hin), hM0⟩, rfl, hm⟩)
 have hnm := of_decide_eq_false ht23
 refine .skip (.seq (.seq (.region (.P2 ?_))))
 refine .F fa163_1 ?_
 refine .M ag161 (Off.sees rfl rfl _ _ hsS) rfl ?_
 refine .P2 ?_
 refine .p (v := pairV .i64 (Int.ofNat a, Int.ofNat b_)) rfl rfl rfl (by kernel_rfl) ?_
 refine .mapUpdate (K := pairV .i64) (kv := (Int.ofNat a, Int.ofNat b_)) .one hP (KeyOk.pair PT165) rfl rfl rfl underlying161 rfl rfl rfl (fun es1 c1 hP1 => ?_)
 have hM0 := MetA.put (c := c1) hD hP1
 have hB0 := hBd.cons ha hb_
 have hn0 : unmet l.length ((a, b_) :: M) < n := by have := unmet_lt ha hb_ hnm (M' := (a, b_) :: M) (fun p hp => List.mem_cons_of_mem _ hp) List.mem_cons_self; omega
 refine .nil (.seq (.seq ?_))
 refine .D [(15, 0), (15, 1), (15, 3), (3, 7), (15, 0), (15, 31), (3, 63), (13, 0), (13, 128), (13, 384), (1, 896), (13, 0), (13, 3968), (1, 8064), (11, 0), (11, 0), (7, 49279), (7, 131071)] (by kernel_rfl) (by kernel_rfl) (fun base hbase hB => ?_)
 iterate 2 refine .P ?_
 refine .F fa163_0 ?_
 refine .M ag22 (Off.sees rfl rfl _ _ hsS) rfl ?_
 refine .P ?_
 refine .K underlying22 sz50 ?_
 refine .loadAgg rfl rfl rfl rfl rfl rfl rfl rfl ag50 sz50 (Off.sees rfl rfl _ _ ⟨hb, hh⟩) (by omega) hrX ?_
 iterate 2 refine .P ?_
 refine .F fa163_0 ?_
 refine .loadOld rfl rfl rfl rfl rfl rfl ag22 (Off.sees rfl rfl _ _ hsS) rfl (by first | exact hB _ _ (.head _) | exact hB _ _ (.tail _ (.head _)) | exact hB _ _ (.tail _ (.tail _ (.head _))) | exact hB _ _ (.tail _ (.tail _ (.tail _ (.head _)))) | exact hB _ _ (List.mem_append_right _ (.head _)) | exact hB _ _ (List.mem_append_right _ (.tail _ (.head _))) | exact Nat.lt_of_lt_of_le ‹_› hbase) ?_
 refine .P ?_
 refine .K underlying22 sz50 ?_
 refine .loadAggOld rfl rfl rfl rfl rfl rfl ag50 sz50 (Off.sees rfl rfl _ _ ⟨hb, hh⟩) (by omega) hrY (by first | exact hB _ _ (.head _) | exact hB _ _ (.tail _ (.head _)) | exact hB _ _ (.tail _ (.tail _ (.head _))) | exact hB _ _ (.tail _ (.tail _ (.tail _ (.head _)))) | exact hB _ _ (List.mem_append_right _ (.head _)) | exact hB _ _ (List.mem_append_right _ (.tail _ (.head _))) | exact Nat.lt_of_lt_of_le ‹_› hbase) ?_
 refine .alloc rfl rfl rfl rfl rfl zr50 (fun b7 hn7 hb7 => ?_)
 refine .alloc rfl rfl rfl rfl rfl zr50 (fun b8 hn8 hb8 => ?_)
 refine .storeNew rfl rfl (by kernel_rfl) hn7 rfl rfl rfl rfl rfl sz50 rfl (by first | exact .head | exact .tail .head | exact .tail (.tail .head) | exact .tail (.tail (.tail .head)) | exact updo) rfl ?_
 refine .storeNew rfl rfl (by kernel_rfl) hn8 rfl rfl rfl rfl rfl sz50 rfl (by first | exact .head | exact .tail .head | exact .tail (.tail .head) | exact .tail (.tail (.tail .head)) | exact updo) rfl ?_
 refine .nil (.seq ?_)
 refine .joinA (HeadR x_ y_) [] ?_ (fun hhd => ?_)
 ·refine .seq (.region (.F fa50_0 ?_))
  refine .L ag3 ?_
  refine .F fa50_0 ?_
  refine .L ag3 ?_
  refine .P2 ?_
  refine .splitB 50 rfl (fun hs_50 => ?_) (fun hs_50 => ?_)
  ·try simp only [nz] at hs_50
   iterate 7 refine .O ?_
   refine .P2 ?_
   iterate 7 refine .O ?_
   refine .P2 ?_
   iterate 10 refine .O ?_
   refine .P ?_
   refine .nil (.seq (.cond_true rfl (.seq (.region (.P ?_)))))
   refine .nil (.seq (.ret (.jn ?_)))
   exact .end_ rfl rfl (fun m hm => ⟨((false, (a, b_) :: M), (es1, c1)), ⟨EqA.fail (fun p hp => List.mem_cons_of_mem _ hp) (fun hM => hM.cons ha hb_) (fun h => (by obtain ⟨h1, h2, h3, h4⟩ := (h.ty hsnd hx_ hy_).head; first | omega | exact absurd (h4 (by omega)) (by assumption))), hM0⟩, rfl, hm.sub (.cons _ (.cons _ (.refl _)))⟩)
  try simp only [nz] at hs_50
  refine .F fa50_1 ?_
  refine .L ag32 ?_
  refine .G (ln32 ..) ?_
  refine .F fa50_1 ?_
  refine .L ag32 ?_
  refine .G (ln32 ..) ?_
  refine .P3 ?_
  refine .splitB 59 rfl (fun hs_59 => ?_) (fun hs_59 => ?_)
  ·try simp only [nz] at hs_59
   iterate 7 refine .O ?_
   refine .P2 ?_
   iterate 10 refine .O ?_
   refine .P ?_
   refine .nil (.seq (.cond_true rfl (.seq (.region (.P ?_)))))
   refine .nil (.seq (.ret (.jn ?_)))
   exact .end_ rfl rfl (fun m hm => ⟨((false, (a, b_) :: M), (es1, c1)), ⟨EqA.fail (fun p hp => List.mem_cons_of_mem _ hp) (fun hM => hM.cons ha hb_) (fun h => (by obtain ⟨h1, h2, h3, h4⟩ := (h.ty hsnd hx_ hy_).head; first | omega | exact absurd (h4 (by omega)) (by assumption))), hM0⟩, rfl, hm.sub (.cons _ (.cons _ (.refl _)))⟩)
  try simp only [nz] at hs_59
  refine .F fa50_4 ?_
  refine .L ag48 ?_
  refine .G (ln48 ..) ?_
  refine .F fa50_4 ?_
  refine .L ag48 ?_
  refine .G (ln48 ..) ?_
  refine .P3 ?_
  refine .splitB 68 rfl (fun hs_68 => ?_) (fun hs_68 => ?_)
  ·try simp only [nz] at hs_68
   iterate 10 refine .O ?_
   refine .P ?_
   refine .nil (.seq (.cond_true rfl (.seq (.region (.P ?_)))))
   refine .nil (.seq (.ret (.jn ?_)))
   exact .end_ rfl rfl (fun m hm => ⟨((false, (a, b_) :: M), (es1, c1)), ⟨EqA.fail (fun p hp => List.mem_cons_of_mem _ hp) (fun hM => hM.cons ha hb_) (fun h => (by obtain ⟨h1, h2, h3, h4⟩ := (h.ty hsnd hx_ hy_).head; first | omega | exact absurd (h4 (by omega)) (by assumption))), hM0⟩, rfl, hm.sub (.cons _ (.cons _ (.refl _)))⟩)
  try simp only [nz] at hs_68
  refine .F fa50_0 ?_
  refine .L ag3 ?_
  refine .P2 ?_
  refine .splitB 72 rfl (fun hs_72 => ?_) (fun hs_72 => ?_)
  ·try simp only [nz] at hs_72
   refine .F fa50_2 ?_
   refine .L ag9 ?_
   refine .F fa50_2 ?_
   refine .L ag9 ?_
   refine .P3 ?_
   refine .nil (.seq (.cond rfl (fun ht79 => ?_) fun ht79 => ?_))
   ·try simp only [nz] at ht79
    refine .seq (.region (.P ?_))
    refine .nil (.seq (.ret (.jn ?_)))
    exact .end_ rfl rfl (fun m hm => ⟨((false, (a, b_) :: M), (es1, c1)), ⟨EqA.fail (fun p hp => List.mem_cons_of_mem _ hp) (fun hM => hM.cons ha hb_) (fun h => (by obtain ⟨h1, h2, h3, h4⟩ := (h.ty hsnd hx_ hy_).head; first | omega | exact absurd (h4 (by omega)) (by assumption))), hM0⟩, rfl, hm.sub (.cons _ (.cons _ (.refl _)))⟩)
   try simp only [nz] at ht79
   refine .skip ?_
   exact .J (⟨by omega, by omega, by omega, fun h9 => (by first | assumption | omega)⟩)
  try simp only [nz] at hs_72
  iterate 5 refine .O ?_
  refine .P2 ?_
  refine .nil (.seq (.cond_false rfl (.skip ?_)))
  exact .J (⟨by omega, by omega, by omega, fun h9 => (by first | assumption | omega)⟩)
 refine .seq (.seq (.region (.F fa50_1 ?_)))
 refine .L ag32 ?_
 refine .G (ln32 ..) ?_
 refine .P ?_
 refine .nil (.seq (.block ?_))
 refine .swap (Pick.perm (.tail (.tail .one))) (.loop (α := Nat × Prs × (List MapEntry × Nat)) (fun q => [(0, ptr bs), (7, ptr b7), (8, ptr b8), (81, .slice aeX x_.elems.length ceX), (82, .int .i64 (Int.ofNat (x_.elems.length))), (83, .int .i64 (Int.ofNat (q.1)))]) (fun q => [(bm, .map q.2.2.1 q.2.2.2), (b8, .cells [.int .i64 y_.kind, .slice aeY y_.elems.length ceY, .string y_.name, .slice afY y_.fields.length cfY, .slice aaY y_.arms.length caY] 50 false .plain none), (b7, .cells [.int .i64 x_.kind, .slice aeX x_.elems.length ceX, .string x_.name, .slice afX x_.fields.length cfX, .slice aaX x_.arms.length caX] 50 false .plain none)]) (fun q => q.1 ≤ x_.elems.length ∧ RowA l ((a, b_) :: M) q.2.1 (ElsU (InM q.2.1) x_.elems y_.elems q.1) ∧ MetA q.2.1 q.2.2) (fun q => x_.elems.length - q.1) (0, ((a, b_) :: M), (es1, c1)) ⟨Nat.zero_le _, RowA.init (fun _ _ _ h => absurd h (Nat.not_lt_zero _)), hM0⟩ ⟨rfl, rfl, rfl, rfl, rfl, rfl, trivial⟩ (.refl _) (fun q hq0 => ?_))
 obtain ⟨i, M1, x1⟩ := q
 obtain ⟨hi, hR, hM1⟩ := hq0
 simp only at hi hR hM1
 have hB1 := hR.bnd hB0
 have hu1 := Nat.lt_of_le_of_lt (unmet_le (n := l.length) hR.grown) hn0
 refine .seq (.region (.P ?_))
 refine .nil (.seq (.seq (.cond rfl (fun ht84 => ?_) fun ht84 => ?_)))
 ·try simp only [nz] at ht84
  have hltE : i < x_.elems.length := by omega
  obtain ⟨p0, hp0⟩ := gx hltE
  obtain ⟨bE, offE, csE, elE, gE, mdE, mateE, rfl, ⟨hbE, hhE⟩, hleE, hcE⟩ := so heX hltE
  have hrp := hcE i p0 hp0
  have hltG : i < y_.elems.length := by have := hhd.2.1; omega
  obtain ⟨q0, hq0_⟩ := gx hltG
  obtain ⟨bG, offG, csG, elG, gG, mdG, mateG, rfl, ⟨hbG, hhG⟩, hleG, hcG⟩ := so heY hltG
  have hrq := hcG i q0 hq0_
  obtain ⟨p, rfl, hpl⟩ := parts_in (hsnd a x_ hx_) (parts_elem hp0)
  obtain ⟨q, rfl, hql⟩ := parts_in (hsnd b_ y_ hy_) (parts_elem hq0_)
  refine .skip (.seq (.seq (.block (.seq (.region (.P2 ?_))))))
  refine .nil (.seq (.seq ?_))
  refine .D [(15, 0), (15, 0), (3, 2), (15, 0), (15, 14), (3, 30), (15, 0), (3, 64), (15, 0), (15, 448), (3, 960), (7, 2047), (15, 4095)] (by kernel_rfl) (by kernel_rfl) (fun base hbase hB => ?_)
  refine .P ?_
  refine .F fa50_1 ?_
  refine .J ag32 ?_
  refine .P ?_
  refine .K underlying32 sz3 ?_
  refine .M ag3 (Off.sees rfl rfl _ _ ⟨hbE, hhE⟩) (cell_of_take hrp (k := 0) rfl) ?_
  refine .F fa50_1 ?_
  refine .J ag32 ?_
  refine .P ?_
  refine .K underlying32 sz3 ?_
  refine .M ag3 (Off.sees rfl rfl _ _ ⟨hbG, hhG⟩) (cell_of_take hrq (k := 0) rfl) ?_
  refine .callc (fun y : CmpY => EqA l M1 p q y.1 ∧ MetA y.1.2 y.2) (fun y => .bool y.1.1) (fun y => [(bm, .map y.2.1 y.2.2)]) .one rfl rfl (by kernel_rfl) (by kernel_rfl) rfl rfl rfl rfl rfl rfl (fun m2 g0 g2 gb gr => ih p q hpl hql m2 x1 M1 g0 g2 hM1 hB1 (hp.mono gb) hu1) (fun y hy => ?_)
  refine .p rfl rfl rfl rfl rfl (.of (.nil (.seq (.cond rfl (fun ht98 => ?_) fun ht98 => ?_))))
  ·obtain ⟨hy, hyM⟩ := hy
   have hyf : y.1.1 = false := by cases h_ : y.1.1 with | false => rfl | true => rw [h_] at ht98; cases ht98
   refine .seq (.region (.P ?_))
   refine .nil (.seq (.ret (.blk (.seq (.loop (.blk (.seq ?_)))))))
   exact .end_ rfl rfl (fun m hm => ⟨((false, y.1.2), y.2), ⟨EqA.stop hx_ hy_ hR hy.grown hy.bnd fun h => hy.no hyf (((h.ty hsnd hx_ hy_).els.2 i _ _ hp0 hq0_).nat), hyM⟩, rfl, hm.sub (.cons_cons _ (List.nil_sublist _))⟩)
  obtain ⟨hy, hyM⟩ := hy
  have hyt : y.1.1 = true := by cases h_ : y.1.1 with | true => rfl | false => rw [h_] at ht98; cases ht98
  refine .skip (.blk (.seq (.region (.P ?_))))
  refine .W 99 i ?_
  refine .P ?_
  refine .nil ?_
  exact .loop (i + 1, y.1.2, y.2) ⟨by omega, hR.more hy hyt (hR.all.succ hy.grown hp0 hq0_ ⟨p, q, rfl, rfl, (hy.yes hyt).1⟩), hyM⟩ (by show x_.elems.length - (i + 1) < x_.elems.length - i; omega) ⟨rfl, rfl, rfl, rfl, rfl, rfl, trivial⟩ (.refl _)
 try simp only [nz] at ht84
 have hels : ElsR (InM M1) x_.elems y_.elems := hR.all.all hhd.2.1 (by omega)
 refine .exit (.seq (.loop (.here (.seq (.seq (.seq (.region (.F fa50_0 ?_))))))))
 refine .L ag3 ?_
 refine .P ?_
 refine .nil (.seq (.cond rfl (fun ht102 => ?_) fun ht102 => ?_))
 ·try simp only [nz] at ht102
  have hk13 : x_.kind = 13 := by omega
  refine .seq (.region (.P ?_))
  refine .F fa50_3 ?_
  refine .L ag47 ?_
  refine .F fa50_3 ?_
  refine .L ag47 ?_
  refine .callc (fun y : CmpY => RelA l M1 (fun R => MemR R x_.fields y_.fields) y.1 ∧ MetA y.1.2 y.2) (fun y => .bool y.1.1) (fun y => [(bm, .map y.2.1 y.2.2)]) .one rfl rfl rfl rfl rfl rfl (fun m2 g1 g2 => cmembers_ok (x0 := x1) g1.lole' g2 hM1 hB1 (hp.mono (Off.kr g1.kr)) hu1 ih (hfSX.mono (Off.kr g1.kr) fun _ _ h => h) (hfSY.mono (Off.kr g1.kr) fun _ _ h => h) (parts_ok_fld (hsnd a x_ hx_) fun f_ hf_ => parts_fldm hf_) (parts_ok_fld (hsnd b_ y_ hy_) fun f_ hf_ => parts_fldm hf_) (nodup_fields (hWl.all b_ y_ hy_))) (fun y hy => ?_)
  refine .P ?_
  refine .nil (.seq (.ret (.seq ?_)))
  exact .end_ rfl rfl (fun m hm => ⟨y, ⟨EqA.mods hsnd hx_ hy_ hhd hk13 (single_zero (hWl.all a x_ hx_)).1 (single_zero (hWl.all b_ y_ hy_)).1 hR hels hy.1, hy.2⟩, rfl, hm.sub (.cons_cons _ (List.nil_sublist _))⟩)
 try simp only [nz] at ht102
 have hk13 : x_.kind ≠ 13 := by omega
 refine .skip (.seq (.seq (.seq (.region (.P ?_)))))
 refine .F fa50_3 ?_
 refine .L ag47 ?_
 refine .F fa50_3 ?_
 refine .L ag47 ?_
 refine .callc (fun y : CmpY => RelA l M1 (fun R => FldsR R x_.fields y_.fields) y.1 ∧ MetA y.1.2 y.2) (fun y => .bool y.1.1) (fun y => [(bm, .map y.2.1 y.2.2)]) .one rfl rfl rfl rfl rfl rfl (fun m2 g1 g2 => cfields_ok (x0 := x1) g1.lole' g2 hM1 hB1 (hp.mono (Off.kr g1.kr)) hu1 ih (hfSX.mono (Off.kr g1.kr) fun _ _ h => h) (hfSY.mono (Off.kr g1.kr) fun _ _ h => h) (parts_ok_fld (hsnd a x_ hx_) fun f_ hf_ => parts_fldm hf_) (parts_ok_fld (hsnd b_ y_ hy_) fun f_ hf_ => parts_fldm hf_)) (fun y hy => ?_)
 refine .P ?_
 refine .nil (.seq (.cond rfl (fun ht115 => ?_) fun ht115 => ?_))
 ·obtain ⟨hy, hyM⟩ := hy
  have hyf : y.1.1 = false := by cases h_ : y.1.1 with | false => rfl | true => rw [h_] at ht115; cases ht115
  refine .seq (.region (.P ?_))
  refine .nil (.seq (.ret (.seq ?_)))
  exact .end_ rfl rfl (fun m hm => ⟨((false, y.1.2), y.2), ⟨EqA.stop hx_ hy_ hR hy.grown hy.bnd fun h => hy.no hyf (by have := (h.ty hsnd hx_ hy_).flds; rw [if_neg hk13] at this; exact this), hyM⟩, rfl, hm.sub (.cons_cons _ (List.nil_sublist _))⟩)
 obtain ⟨hy, hyM⟩ := hy
 have hyt : y.1.1 = true := by cases h_ : y.1.1 with | true => rfl | false => rw [h_] at ht115; cases ht115
 refine .skip (.seq (.seq (.seq (.region (.F fa50_4 ?_)))))
 refine .L ag48 ?_
 refine .G (ln48 ..) ?_
 refine .P ?_
 refine .nil (.seq (.block ?_))
 have hR0 := hR.moreR hy hyt (P2 := ElsR (InM y.1.2) x_.elems y_.elems ∧ FldsR (InM y.1.2) x_.fields y_.fields) ⟨hels.mono (InM.mono hy.grown), (hy.yes hyt).2⟩
 have hM0 := hyM
 have hB0 := hR0.bnd (hBd.cons ha hb_)
 have hn0 := Nat.lt_of_le_of_lt (unmet_le (n := l.length) hR0.grown) hn0
 refine .loop (α := Nat × Prs × (List MapEntry × Nat)) (fun q => [(0, ptr bs), (7, ptr b7), (8, ptr b8), (117, .slice aaX x_.arms.length caX), (118, .int .i64 (Int.ofNat (x_.arms.length))), (119, .int .i64 (Int.ofNat (q.1)))]) (fun q => [(bm, .map q.2.2.1 q.2.2.2), (b8, .cells [.int .i64 y_.kind, .slice aeY y_.elems.length ceY, .string y_.name, .slice afY y_.fields.length cfY, .slice aaY y_.arms.length caY] 50 false .plain none), (b7, .cells [.int .i64 x_.kind, .slice aeX x_.elems.length ceX, .string x_.name, .slice afX x_.fields.length cfX, .slice aaX x_.arms.length caX] 50 false .plain none)]) (fun q => q.1 ≤ x_.arms.length ∧ RowA l y.1.2 q.2.1 (ArmsU (InM q.2.1) x_.arms y_.arms q.1) ∧ MetA q.2.1 q.2.2) (fun q => x_.arms.length - q.1) (0, y.1.2, y.2) ⟨Nat.zero_le _, RowA.init (fun _ _ _ h => absurd h (Nat.not_lt_zero _)), hM0⟩ ⟨rfl, rfl, rfl, rfl, rfl, rfl, trivial⟩ (.refl _) (fun q hq0 => ?_)
 obtain ⟨k, M1, x1⟩ := q
 obtain ⟨hk, hR, hM1⟩ := hq0
 simp only at hk hR hM1
 have hB1 := hR.bnd hB0
 have hu1 := Nat.lt_of_le_of_lt (unmet_le (n := l.length) hR.grown) hn0
 refine .seq (.region (.P ?_))
 refine .nil (.seq (.seq (.cond rfl (fun ht120 => ?_) fun ht120 => ?_)))
 ·try simp only [nz] at ht120
  have hltU : k < x_.arms.length := by omega
  obtain ⟨u, hu_⟩ := gx hltU
  obtain ⟨bU, offU, csU, elU, gU, mdU, mateU, rfl, ⟨hbU, hhU⟩, hleU, hcU⟩ := so hgX hltU
  have hru := hcU k u hu_
  have hltW : k < y_.arms.length := by have := hhd.2.2.1; omega
  obtain ⟨w, hw_⟩ := gx hltW
  obtain ⟨bW, offW, csW, elW, gW, mdW, mateW, rfl, ⟨hbW, hhW⟩, hleW, hcW⟩ := so hgY hltW
  have hrw := hcW k w hw_
  obtain ⟨vu, hru, hfu⟩ := hru
  obtain ⟨vw, hrw, hfw⟩ := hrw
  have hfuS := hfu
  have hfwS := hfw
  obtain ⟨au, cu, rfl, hnu, hfu⟩ := hfu
  obtain ⟨aw, cw, rfl, hnw, hfw⟩ := hfw
  refine .skip (.seq (.seq (.block (.seq (.region (.P2 ?_))))))
  refine .nil (.seq (.seq ?_))
  refine .D [(15, 0), (3, 1), (15, 0), (15, 7), (15, 15), (3, 31), (15, 0), (3, 64), (15, 0), (15, 448), (15, 960), (3, 1984), (15, 4095), (15, 8191), (15, 16383), (15, 16383), (3, 49151), (15, 16383), (15, 245759), (15, 507903), (3, 1032191), (15, 16383), (3, 2113535), (15, 16383), (15, 14696447), (15, 31473663), (3, 65028095), (7, 134217727), (15, 268435455), (15, 536870911)] (by kernel_rfl) (by kernel_rfl) (fun base hbase hB => ?_)
  refine .F fa50_4 ?_
  refine .J ag48 ?_
  refine .P ?_
  refine .K underlying48 sz55 ?_
  refine .F fa55_0 ?_
  refine .M ag9 (Off.sees rfl rfl _ _ ⟨hbU, hhU⟩) (cell_of_take hru (k := 0) rfl) ?_
  refine .F fa50_4 ?_
  refine .J ag48 ?_
  refine .P ?_
  refine .K underlying48 sz55 ?_
  refine .F fa55_0 ?_
  refine .M ag9 (Off.sees rfl rfl _ _ ⟨hbW, hhW⟩) (cell_of_take hrw (k := 0) rfl) ?_
  iterate 2 refine .P ?_
  refine .splitB 135 rfl (fun hs_135 => ?_) (fun hs_135 => ?_)
  ·try simp only [nz] at hs_135
   have hnn : u.name ≠ w.name := by assumption
   iterate 15 refine .O ?_
   refine .P ?_
   refine .nil (.seq (.cond_true rfl (.seq (.region (.P ?_)))))
   refine .nil (.seq (.ret (.blk (.seq (.loop (.blk (.seq ?_)))))))
   exact .end_ rfl rfl (fun m hm => ⟨((false, M1), x1), ⟨EqA.stop hx_ hy_ hR0 hR.grown hR.bnd fun h => hnn ((h.ty hsnd hx_ hy_).arms.2 k u w hu_ hw_).1, hM1⟩, rfl, hm.sub (.cons_cons _ (List.nil_sublist _))⟩)
  try simp only [nz] at hs_135
  have hnn : u.name = w.name := by assumption
  refine .P ?_
  refine .F fa50_4 ?_
  refine .J ag48 ?_
  refine .P ?_
  refine .K underlying48 sz55 ?_
  refine .F fa55_1 ?_
  refine .M ag47 (Off.sees rfl rfl _ _ ⟨hbU, hhU⟩) (cell_of_take hru (k := 1) rfl) ?_
  refine .F fa50_4 ?_
  refine .J ag48 ?_
  refine .P ?_
  refine .K underlying48 sz55 ?_
  refine .F fa55_1 ?_
  refine .M ag47 (Off.sees rfl rfl _ _ ⟨hbW, hhW⟩) (cell_of_take hrw (k := 1) rfl) ?_
  refine .callc (fun y : CmpY => RelA l M1 (fun R => FldsR R u.fields w.fields) y.1 ∧ MetA y.1.2 y.2) (fun y => .bool y.1.1) (fun y => [(bm, .map y.2.1 y.2.2)]) .one rfl rfl (by kernel_rfl) (by kernel_rfl) rfl rfl rfl rfl rfl rfl (fun m2 g0 g2 gb gr => cfields_ok (x0 := x1) g0 g2 hM1 hB1 (hp.mono gb) hu1 ih (hfuS.mono gb fun _ _ h => h) (hfwS.mono gb fun _ _ h => h) (parts_ok_fld (hsnd a x_ hx_) fun f_ hf_ => parts_armf (List.mem_of_getElem? hu_) hf_) (parts_ok_fld (hsnd b_ y_ hy_) fun f_ hf_ => parts_armf (List.mem_of_getElem? hw_) hf_)) (fun y hy => ?_)
  refine .p rfl rfl rfl rfl rfl (.p rfl rfl rfl rfl rfl (.of (.nil (.seq (.cond rfl (fun ht151 => ?_) fun ht151 => ?_)))))
  ·obtain ⟨hy, hyM⟩ := hy
   have hyf : y.1.1 = false := by cases h_ : y.1.1 with | false => rfl | true => rw [h_] at ht151; cases ht151
   refine .seq (.region (.P ?_))
   refine .nil (.seq (.ret (.blk (.seq (.loop (.blk (.seq ?_)))))))
   exact .end_ rfl rfl (fun m hm => ⟨((false, y.1.2), y.2), ⟨EqA.stop hx_ hy_ hR0 (hR.grown.trans hy.grown) (fun h => hy.bnd (hR.bnd h)) fun h => hy.no hyf ((h.ty hsnd hx_ hy_).arms.2 k u w hu_ hw_).2, hyM⟩, rfl, hm.sub (.cons_cons _ (List.nil_sublist _))⟩)
  obtain ⟨hy, hyM⟩ := hy
  have hyt : y.1.1 = true := by cases h_ : y.1.1 with | true => rfl | false => rw [h_] at ht151; cases ht151
  refine .skip (.blk (.seq (.region (.P ?_))))
  refine .W 152 k ?_
  refine .P ?_
  refine .nil ?_
  exact .loop (k + 1, y.1.2, y.2) ⟨by omega, hR.moreR hy hyt (hR.all.succ hy.grown hu_ hw_ hnn (hy.yes hyt).2), hyM⟩ (by show x_.arms.length - (k + 1) < x_.arms.length - k; omega) ⟨rfl, rfl, rfl, rfl, rfl, rfl, trivial⟩ (.refl _)
 try simp only [nz] at ht120
 refine .exit (.seq (.loop (.here (.seq (.seq (.region (.P ?_)))))))
 refine .nil (.seq (.ret ?_))
 exact .end_ rfl rfl (fun m hm => ⟨((true, M1), x1), ⟨EqA.close (P := True) hx_ hy_ ⟨hR0.grown.trans hR.grown, fun h => hR.bnd (hR0.bnd h), hR0.closed.trans hR.closed hR.grown, trivial⟩ ⟨hhd, hR0.all.1.mono (InM.mono hR.grown), by rw [if_neg hk13]; exact hR0.all.2.mono (InM.mono hR.grown), hR.all.all hhd.2.2.1 (by omega)⟩, hM1⟩, rfl, hm.sub (.cons_cons _ (List.nil_sublist _))⟩)

/-! What is asked about two types. -/
theorem equal_all {l : List Ty} {al : Option Addr} {cl bs bm : Nat} (hW : Well l) : ∀ (n a b : Nat), a < l.length → b < l.length → EqualC prog l al cl bs bm n a b
 | 0, _, _, _, _ => fun _ _ _ _ _ _ _ _ hlt => absurd hlt (Nat.not_lt_zero _)
 | n + 1, _, _, ha, hb => fun _ _ _ hm hk hM hB hp hn => cequal_step (n := n) hm hk hM hB hp hn hW ha hb (equal_all hW n)
theorem Bnd.nil (l : List Ty) : Bnd l [] := fun p hp => by cases hp
theorem Sl.two {b c : Nat} {t u : Int} {el : TypeId} {g : Bool} {md : CMode} {mate : Option Nat} (hc : 2 ≤ c := by decide) : Sl (InH [(b, .cells [.int .i64 t, .int .i64 u] el g md mate)]) 1 RInt [t, u] (.slice (some ⟨b, 0, none⟩) 2 c) :=
 ⟨some ⟨b, 0, none⟩, c, rfl, ⟨by simp, hc⟩, .inr ⟨b, 0, _, el, g, md, mate, rfl, List.mem_cons_self, by simp, fun i x hx => by
  match i with
  | 0 => cases hx; rfl
  | 1 => cases hx; rfl
  | i + 2 => cases hx⟩⟩
theorem AskP.at2 {l : List Ty} {t u : Int} (h : AskP l [t, u] 0) : ∃ p q : Nat, t = Int.ofNat p ∧ u = Int.ofNat q ∧ p < l.length ∧ q < l.length := by
 have h1 := h.well.2 0 t rfl
 have h2 := h.well.2 1 u rfl
 obtain ⟨p, rfl⟩ := Int.eq_ofNat_of_zero_le h1.1
 obtain ⟨q, rfl⟩ := Int.eq_ofNat_of_zero_le h2.1
 exact ⟨p, q, rfl, rfl, by omega, by omega⟩
/-- An error, or a fact on two types. -/
def TwoP (F : Nat → Nat → Prop) (l : List Ty) (t u : Int) (x : Bool × Int) : Prop := AskP l [t, u] x.2 ∧ (x.2 ≠ 0 → x.1 = false) ∧ (x.2 = 0 → ∃ p q : Nat, t = Int.ofNat p ∧ u = Int.ofNat q ∧ (x.1 = true ↔ F p q))
theorem TwoP.err {F : Nat → Nat → Prop} {l : List Ty} {t u e : Int} {x : Bool × Int} (h : TwoP F l t u x) (he : AskP l [t, u] e) : x.2 = e := h.1.uniq he
theorem TwoP.no {F : Nat → Nat → Prop} {l : List Ty} {t u e : Int} {x : Bool × Int} (h : TwoP F l t u x) (he : AskP l [t, u] e) (hne : e ≠ 0) : x.1 = false := h.2.1 (by rw [h.err he]; exact hne)
def AsgX (l : List Ty) (p q : Nat) (x y : Ty) : Prop := (valueB x = true ∧ valueB y = true ∧ EqT l p q) ∨ (y.kind = 14 ∧ (x.kind = 6 ∨ x.kind = 7 ∨ x.kind = 8 ∨ x.kind = 9 ∨ x.kind = 13)) ∨ (y.kind ≠ 14 ∧ (x.kind = 9 ∧ y.kind = 9 ∧ x.name.size = 0 ∧ y.name.size ≠ 0) ∧ ∃ p' q' : Nat, x.elems[0]? = some (Int.ofNat p') ∧ y.elems[0]? = some (Int.ofNat q') ∧ EqT l p' q')
def AsgT (l : List Ty) (p q : Nat) : Prop := ∃ x y, l[p]? = some x ∧ l[q]? = some y ∧ AsgX l p q x y
theorem AsgT.of {l : List Ty} {p q : Nat} {x y : Ty} {z : Bool} (hx : l[p]? = some x) (hy : l[q]? = some y) (h : z = true ↔ AsgX l p q x y) : z = true ↔ AsgT l p q := by
 rw [h]
 constructor
 ·exact fun h => ⟨x, y, hx, hy, h⟩
 rintro ⟨x', y', h1, h2, h3⟩
 rw [hx] at h1
 rw [hy] at h2
 cases h1
 cases h2
 exact h3
theorem AsgX.any {l : List Ty} {p q : Nat} {x y : Ty} (h : y.kind = 14) : AsgX l p q x y ↔ (x.kind = 6 ∨ x.kind = 7 ∨ x.kind = 8 ∨ x.kind = 9 ∨ x.kind = 13) := by
 have hv : valueB y = false := by
  unfold valueB
  rw [decide_eq_false]
  omega
 unfold AsgX
 rw [hv]
 constructor
 ·rintro (h1 | h1 | h1)
  ·cases h1.2.1
  ·exact h1.2
  exact absurd h h1.1
 exact fun h1 => .inr (.inl ⟨h, h1⟩)
theorem AsgX.vals {l : List Ty} {p q : Nat} {x y : Ty} (h : valueB x = true ∧ valueB y = true ∧ EqT l p q) : AsgX l p q x y := .inl h
theorem equal_ok {l : List Ty} {vl : Value} {a b_ : Nat} {m : AW} (hm : m.lo ≤ m.next) (hlS : Sl (Mem m) 5 (RTy (Mem m)) l vl) (hWl : Well l) (ha : a < l.length) (hb_ : b_ < l.length) : Fc prog 64 [vl, .int .i64 (Int.ofNat (a)), .int .i64 (Int.ofNat (b_))] m fun v m' => ∃ z : Bool, (z = true ↔ EqT l a b_) ∧ v = .bool z ∧ Ext m m' ∧ News m m' [] := by
 have hlS0 := hlS
 obtain ⟨al, cl, rfl, hnl, hl⟩ := hlS
 refine Fc.body (c := _) func64 rfl rfl rfl rfl hm ?_
 refine .seq (.region (.P ?_))
 refine .nil (.seq (.seq (.region (.P ?_))))
 refine .makeMap rfl rfl rfl rfl (fun b9 hb9 => ?_)
 refine .p (v := .agg ⟨[.slice al l.length cl, .map (some b9)]⟩) rfl rfl rfl (by kernel_rfl) ?_
 refine .box rfl rfl rfl rfl rfl (fun b11 hb11 => ?_)
 refine .P ?_
 refine .nil (.seq (.seq (.region (.P3 ?_))))
 refine .callc (fun y : CmpY => EqA l [] a b_ y.1 ∧ MetA y.1.2 y.2) (fun y => .bool y.1.1) (fun y => [(b9, .map y.2.1 y.2.2)]) (.tail .one) rfl rfl rfl rfl rfl rfl (fun m2 g1 g2 => equal_all hWl _ a b_ ha hb_ m2 ([], 0) [] g1.lole' g2 (MetA.nil 0) (Bnd.nil l) ⟨Off.known g1 (.head _), hlS0.mono (Off.old g1) (RTy.mono (Off.old g1))⟩ (Nat.lt_succ_self _)) (fun y hy => ?_)
 refine .P ?_
 refine .nil (.seq (.ret ?_))
 exact .end_ rfl rfl (fun m hm => ⟨y.1.1, hy.1.top, rfl, hm.ext, News.nil _ _⟩)
end Go.Proofs.YtmfbljaemhpokaaGreatDoor
