/-
  TypesEqual: the functions that it calls, followed, 2. Conditions: none.
-/
import Derived.Test.YtmfbljaemhpokaaGreatDoorAwk
import Derived.Test.YtmfbljaemhpokaaGreatDoorGra
import Derived.Test.YtmfbljaemhpokaaGreatDoorTeq1
namespace Go.Proofs.YtmfbljaemhpokaaGreatDoor
open Go Go.Ab
set_option linter.unusedVariables false
set_option linter.unusedSimpArgs false
set_option linter.unusedSectionVars false
theorem cequal_step {l : List Ty} {al : Option Addr} {cl bs bm n : Nat} {M : Prs} {x0 : List MapEntry × Nat} {a b_ : Nat} {m : AW} (hm : m.lo ≤ m.next) (hk : Knows [bm] m m (MapC bm x0)) (hM : MetA M x0) (hBd : Bnd l M) (hp : CmpPre l al cl bs bm m) (hn : unmet l.length M < n + 1) (hWl : Well l) (ha : a < l.length) (hb_ : b_ < l.length) (ih : ∀ p q : Nat, p < l.length → q < l.length → EqualC Tryz.prog l al cl bs bm n p q) : Fc Tryz.prog 105 [ptr bs, .int .i64 (Int.ofNat (a)), .int .i64 (Int.ofNat (b_))] m fun v m' => EqQ l bm M a b_ m v m' := by
 have hsS := hp.hs
 have hbsl := hsS.1
 have hsnd := hWl.sound
 obtain ⟨a_, cap_, he_, hnl, hl⟩ := hp.hl
 cases he_
 obtain ⟨x_, hx_⟩ : ∃ w_, l[a]? = some w_ := ⟨_, List.getElem?_eq_getElem ha⟩
 obtain ⟨y_, hy_⟩ : ∃ w_, l[b_]? = some w_ := ⟨_, List.getElem?_eq_getElem hb_⟩
 rcases hl with ⟨e0, -⟩ | ⟨b, off, cs, el, g, md, mate, rfl, ⟨hb, hh⟩, hle, hc⟩
 ·rw [e0] at ha; simp at ha
 have hrX := hc a x_ hx_
 obtain ⟨veX, vfX, vaX, hrX, heX, hfX, hgX⟩ := hrX
 obtain ⟨aeX, ceX, rfl, hneX, heX⟩ := heX
 have hfSX := hfX
 obtain ⟨afX, cfX, rfl, hnfX, hfX⟩ := hfX
 obtain ⟨aaX, caX, rfl, hnaX, hgX⟩ := hgX
 have hrY := hc b_ y_ hy_
 obtain ⟨veY, vfY, vaY, hrY, heY, hfY, hgY⟩ := hrY
 obtain ⟨aeY, ceY, rfl, hneY, heY⟩ := heY
 have hfSY := hfY
 obtain ⟨afY, cfY, rfl, hnfY, hfY⟩ := hfY
 obtain ⟨aaY, caY, rfl, hnaY, hgY⟩ := hgY
 have hM0 := hM
 obtain ⟨lM, hP, hD⟩ := hM
 refine Fc.bodyS (S := [bm]) (c := _) Tryz.func105 rfl rfl rfl rfl hk ?_
 refine .seq (.region (.P ?_))
 refine .nil (.seq (.seq (.seq (.region ?_))))
 iterate 4 refine .P ?_
 refine .splitB 14 rfl (fun hs_14 => ?_) (fun hs_14 => ?_)
 ·try simp only [nz] at hs_14
  have hab : a = b_ := by omega
  iterate 8 refine .O ?_
  refine .P ?_
  refine .nil (.seq (.cond_true rfl (.seq (.region (.P ?_)))))
  refine .nil (.seq (.ret (.seq ?_)))
  exact .end_ rfl rfl (fun m hm => ⟨((true, M), x0), ⟨EqA.here (.inl hab), hM0⟩, rfl, hm⟩)
 try simp only [nz] at hs_14
 iterate 2 refine .P ?_
 refine .F fa163_1 ?_
 refine .M ag161 (Off.sees rfl rfl _ _ hsS) rfl ?_
 iterate 2 refine .P ?_
 refine .p (v := pairV .i64 (Int.ofNat a, Int.ofNat b_)) rfl rfl rfl (by kernel_rfl) ?_
 refine .lookup (K := pairV .i64) (kv := (Int.ofNat a, Int.ofNat b_)) .one hP (KeyOk.pair PT165) rfl rfl rfl rfl Tryz.underlying161 zr4 rfl rfl (MetA.look hD a b_) ?_
 refine .P ?_
 refine .nil (.seq ?_)
 refine .cond rfl (fun ht23 => ?_) (fun ht23 => ?_)
 ·have hin := of_decide_eq_true ht23
  refine .seq (.region (.P ?_))
  refine .nil (.seq (.ret (.seq ?_)))
  exact .end_ rfl rfl (fun m hm => ⟨((true, M), x0), ⟨EqA.here (.inr hin), hM0⟩, rfl, hm⟩)
 have hnm := of_decide_eq_false ht23
 refine .skip (.seq (.seq (.region ?_)))
 iterate 2 refine .P ?_
 refine .F fa163_1 ?_
 refine .M ag161 (Off.sees rfl rfl _ _ hsS) rfl ?_
 iterate 2 refine .P ?_
 refine .p (v := pairV .i64 (Int.ofNat a, Int.ofNat b_)) rfl rfl rfl (by kernel_rfl) ?_
 refine .mapUpdate (K := pairV .i64) (kv := (Int.ofNat a, Int.ofNat b_)) .one hP (KeyOk.pair PT165) rfl rfl rfl Tryz.underlying161 rfl rfl rfl (fun es1 c1 hP1 => ?_)
 have hM0 := MetA.put (c := c1) hD hP1
 have hB0 := hBd.cons ha hb_
 have hn0 : unmet l.length ((a, b_) :: M) < n := by have := unmet_lt ha hb_ hnm (M' := (a, b_) :: M) (fun p hp => List.mem_cons_of_mem _ hp) List.mem_cons_self; omega
 refine .nil (.seq (.seq ?_))
 refine .D [(15, 0), (15, 1), (15, 3), (3, 7), (15, 0), (15, 31), (3, 63), (13, 0), (13, 128), (13, 384), (1, 896), (13, 0), (13, 3968), (1, 8064), (11, 0), (11, 0), (7, 49279), (7, 131071)] (by kernel_rfl) (by kernel_rfl) (fun base hbase hB => ?_)
 iterate 2 refine .P ?_
 refine .F fa163_0 ?_
 refine .M ag22 (Off.sees rfl rfl _ _ hsS) rfl ?_
 refine .P ?_
 refine .K Tryz.underlying22 sz50 ?_
 refine .loadAgg rfl rfl rfl rfl rfl rfl rfl rfl ag50 sz50 (Off.sees rfl rfl _ _ ⟨hb, hh⟩) (by omega) hrX ?_
 iterate 2 refine .P ?_
 refine .F fa163_0 ?_
 refine .loadOld rfl rfl rfl rfl rfl rfl ag22 (Off.sees rfl rfl _ _ hsS) rfl (by first | exact hB _ _ (.head _) | exact hB _ _ (.tail _ (.head _)) | exact hB _ _ (.tail _ (.tail _ (.head _))) | exact hB _ _ (.tail _ (.tail _ (.tail _ (.head _)))) | exact hB _ _ (List.mem_append_right _ (.head _)) | exact hB _ _ (List.mem_append_right _ (.tail _ (.head _))) | exact Nat.lt_of_lt_of_le ‹_› hbase) ?_
 refine .P ?_
 refine .K Tryz.underlying22 sz50 ?_
 refine .loadAggOld rfl rfl rfl rfl rfl rfl ag50 sz50 (Off.sees rfl rfl _ _ ⟨hb, hh⟩) (by omega) hrY (by first | exact hB _ _ (.head _) | exact hB _ _ (.tail _ (.head _)) | exact hB _ _ (.tail _ (.tail _ (.head _))) | exact hB _ _ (.tail _ (.tail _ (.tail _ (.head _)))) | exact hB _ _ (List.mem_append_right _ (.head _)) | exact hB _ _ (List.mem_append_right _ (.tail _ (.head _))) | exact Nat.lt_of_lt_of_le ‹_› hbase) ?_
 refine .alloc rfl rfl rfl rfl rfl zr50 (fun b7 hn7 hb7 => ?_)
 refine .alloc rfl rfl rfl rfl rfl zr50 (fun b8 hn8 hb8 => ?_)
 refine .storeNew rfl rfl (by kernel_rfl) hn7 rfl rfl rfl rfl rfl sz50 rfl (by first | exact .head | exact .tail .head | exact .tail (.tail .head) | exact .tail (.tail (.tail .head)) | exact updo) rfl ?_
 refine .storeNew rfl rfl (by kernel_rfl) hn8 rfl rfl rfl rfl rfl sz50 rfl (by first | exact .head | exact .tail .head | exact .tail (.tail .head) | exact .tail (.tail (.tail .head)) | exact updo) rfl ?_
 refine .nil (.seq ?_)
 refine .joinA (HeadR x_ y_) [] ?_ (fun hhd => ?_)
 ·refine .seq (.region (.F fa50_0 ?_))
  refine .L ag3 ?_
  refine .F fa50_0 ?_
  refine .L ag3 ?_
  iterate 2 refine .P ?_
  refine .splitB 50 rfl (fun hs_50 => ?_) (fun hs_50 => ?_)
  ·try simp only [nz] at hs_50
   iterate 7 refine .O ?_
   iterate 2 refine .P ?_
   iterate 7 refine .O ?_
   iterate 2 refine .P ?_
   iterate 10 refine .O ?_
   refine .P ?_
   refine .nil (.seq (.cond_true rfl (.seq (.region (.P ?_)))))
   refine .nil (.seq (.ret (.jn ?_)))
   exact .end_ rfl rfl (fun m hm => ⟨((false, (a, b_) :: M), (es1, c1)), ⟨EqA.fail (fun p hp => List.mem_cons_of_mem _ hp) (fun hM => hM.cons ha hb_) (fun h => (by obtain ⟨h1, h2, h3, h4⟩ := (h.ty hsnd hx_ hy_).head; first | omega | exact absurd (h4 (by omega)) (by assumption))), hM0⟩, rfl, hm.sub (.cons _ (.cons _ (.refl _)))⟩)
  try simp only [nz] at hs_50
  refine .F fa50_1 ?_
  refine .L ag32 ?_
  refine .G (ln32 ..) ?_
  refine .F fa50_1 ?_
  refine .L ag32 ?_
  refine .G (ln32 ..) ?_
  iterate 3 refine .P ?_
  refine .splitB 59 rfl (fun hs_59 => ?_) (fun hs_59 => ?_)
  ·try simp only [nz] at hs_59
   iterate 7 refine .O ?_
   iterate 2 refine .P ?_
   iterate 10 refine .O ?_
   refine .P ?_
   refine .nil (.seq (.cond_true rfl (.seq (.region (.P ?_)))))
   refine .nil (.seq (.ret (.jn ?_)))
   exact .end_ rfl rfl (fun m hm => ⟨((false, (a, b_) :: M), (es1, c1)), ⟨EqA.fail (fun p hp => List.mem_cons_of_mem _ hp) (fun hM => hM.cons ha hb_) (fun h => (by obtain ⟨h1, h2, h3, h4⟩ := (h.ty hsnd hx_ hy_).head; first | omega | exact absurd (h4 (by omega)) (by assumption))), hM0⟩, rfl, hm.sub (.cons _ (.cons _ (.refl _)))⟩)
  try simp only [nz] at hs_59
  refine .F fa50_4 ?_
  refine .L ag48 ?_
  refine .G (ln48 ..) ?_
  refine .F fa50_4 ?_
  refine .L ag48 ?_
  refine .G (ln48 ..) ?_
  iterate 3 refine .P ?_
  refine .splitB 68 rfl (fun hs_68 => ?_) (fun hs_68 => ?_)
  ·try simp only [nz] at hs_68
   iterate 10 refine .O ?_
   refine .P ?_
   refine .nil (.seq (.cond_true rfl (.seq (.region (.P ?_)))))
   refine .nil (.seq (.ret (.jn ?_)))
   exact .end_ rfl rfl (fun m hm => ⟨((false, (a, b_) :: M), (es1, c1)), ⟨EqA.fail (fun p hp => List.mem_cons_of_mem _ hp) (fun hM => hM.cons ha hb_) (fun h => (by obtain ⟨h1, h2, h3, h4⟩ := (h.ty hsnd hx_ hy_).head; first | omega | exact absurd (h4 (by omega)) (by assumption))), hM0⟩, rfl, hm.sub (.cons _ (.cons _ (.refl _)))⟩)
  try simp only [nz] at hs_68
  refine .F fa50_0 ?_
  refine .L ag3 ?_
  iterate 2 refine .P ?_
  refine .splitB 72 rfl (fun hs_72 => ?_) (fun hs_72 => ?_)
  ·try simp only [nz] at hs_72
   refine .F fa50_2 ?_
   refine .L ag9 ?_
   refine .F fa50_2 ?_
   refine .L ag9 ?_
   iterate 3 refine .P ?_
   refine .nil (.seq ?_)
   refine .cond rfl (fun ht79 => ?_) (fun ht79 => ?_)
   ·try simp only [nz] at ht79
    refine .seq (.region (.P ?_))
    refine .nil (.seq (.ret (.jn ?_)))
    exact .end_ rfl rfl (fun m hm => ⟨((false, (a, b_) :: M), (es1, c1)), ⟨EqA.fail (fun p hp => List.mem_cons_of_mem _ hp) (fun hM => hM.cons ha hb_) (fun h => (by obtain ⟨h1, h2, h3, h4⟩ := (h.ty hsnd hx_ hy_).head; first | omega | exact absurd (h4 (by omega)) (by assumption))), hM0⟩, rfl, hm.sub (.cons _ (.cons _ (.refl _)))⟩)
   try simp only [nz] at ht79
   refine .skip ?_
   exact .J (⟨by omega, by omega, by omega, fun h9 => (by first | assumption | omega)⟩)
  try simp only [nz] at hs_72
  iterate 5 refine .O ?_
  iterate 2 refine .P ?_
  refine .nil (.seq (.cond_false rfl (.skip ?_)))
  exact .J (⟨by omega, by omega, by omega, fun h9 => (by first | assumption | omega)⟩)
 refine .seq (.seq (.region (.F fa50_1 ?_)))
 refine .L ag32 ?_
 refine .G (ln32 ..) ?_
 refine .P ?_
 refine .nil (.seq (.block ?_))
 refine .swap (Pick.perm (.tail (.tail .one))) (.loop (α := Nat × Prs × (List MapEntry × Nat)) (fun q => [(0, ptr bs), (7, ptr b7), (8, ptr b8), (81, .slice aeX x_.elems.length ceX), (82, .int .i64 (Int.ofNat (x_.elems.length))), (83, .int .i64 (Int.ofNat (q.1)))]) (fun q => [(bm, .map q.2.2.1 q.2.2.2), (b8, .cells [.int .i64 y_.kind, .slice aeY y_.elems.length ceY, .string y_.name, .slice afY y_.fields.length cfY, .slice aaY y_.arms.length caY] 50 false .plain none), (b7, .cells [.int .i64 x_.kind, .slice aeX x_.elems.length ceX, .string x_.name, .slice afX x_.fields.length cfX, .slice aaX x_.arms.length caX] 50 false .plain none)]) (fun q => q.1 ≤ x_.elems.length ∧ RowA l ((a, b_) :: M) q.2.1 (ElsU (InM q.2.1) x_.elems y_.elems q.1) ∧ MetA q.2.1 q.2.2) (fun q => x_.elems.length - q.1) (0, ((a, b_) :: M), (es1, c1)) ⟨Nat.zero_le _, RowA.init (fun _ _ _ h => absurd h (Nat.not_lt_zero _)), hM0⟩ ⟨rfl, rfl, rfl, rfl, rfl, rfl, trivial⟩ (.refl _) (fun q hq0 => ?_))
 obtain ⟨i, M1, x1⟩ := q
 obtain ⟨hi, hR, hM1⟩ := hq0
 simp only at hi hR hM1
 have hB1 := hR.bnd hB0
 have hu1 := Nat.lt_of_le_of_lt (unmet_le (n := l.length) hR.grown) hn0
 refine .seq (.region (.P ?_))
 refine .nil (.seq (.seq ?_))
 refine .cond rfl (fun ht84 => ?_) (fun ht84 => ?_)
 ·try simp only [nz] at ht84
  have hltE : i < x_.elems.length := by omega
  obtain ⟨p0, hp0⟩ : ∃ w_, x_.elems[i]? = some w_ := ⟨_, List.getElem?_eq_getElem hltE⟩
  rcases heX with ⟨e0, -⟩ | ⟨bE, offE, csE, elE, gE, mdE, mateE, rfl, ⟨hbE, hhE⟩, hleE, hcE⟩
  ·rw [e0] at hltE; simp at hltE
  have hrp := hcE i p0 hp0
  have hltG : i < y_.elems.length := by have := hhd.2.1; omega
  obtain ⟨q0, hq0_⟩ : ∃ w_, y_.elems[i]? = some w_ := ⟨_, List.getElem?_eq_getElem hltG⟩
  rcases heY with ⟨e0, -⟩ | ⟨bG, offG, csG, elG, gG, mdG, mateG, rfl, ⟨hbG, hhG⟩, hleG, hcG⟩
  ·rw [e0] at hltG; simp at hltG
  have hrq := hcG i q0 hq0_
  obtain ⟨p, rfl, hpl⟩ := parts_in (hsnd a x_ hx_) (parts_elem hp0)
  obtain ⟨q, rfl, hql⟩ := parts_in (hsnd b_ y_ hy_) (parts_elem hq0_)
  refine .skip (.seq (.seq (.block (.seq (.region ?_)))))
  iterate 2 refine .P ?_
  refine .nil (.seq (.seq ?_))
  refine .D [(15, 0), (15, 0), (3, 2), (15, 0), (15, 14), (3, 30), (15, 0), (3, 64), (15, 0), (15, 448), (3, 960), (7, 2047), (15, 4095)] (by kernel_rfl) (by kernel_rfl) (fun base hbase hB => ?_)
  refine .P ?_
  refine .F fa50_1 ?_
  refine .load rfl rfl rfl rfl rfl rfl rfl rfl ag32 (by repeat first | exact .head | exact .app .head | exact .base ‹_› ‹_› (by simp) | refine .tail ?_ | refine .app ?_) rfl ?_
  refine .P ?_
  refine .K Tryz.underlying32 sz3 ?_
  refine .M ag3 (Off.sees rfl rfl _ _ ⟨hbE, hhE⟩) (cell_of_take hrp (k := 0) rfl) ?_
  refine .F fa50_1 ?_
  refine .load rfl rfl rfl rfl rfl rfl rfl rfl ag32 (by repeat first | exact .head | exact .app .head | exact .base ‹_› ‹_› (by simp) | refine .tail ?_ | refine .app ?_) rfl ?_
  refine .P ?_
  refine .K Tryz.underlying32 sz3 ?_
  refine .M ag3 (Off.sees rfl rfl _ _ ⟨hbG, hhG⟩) (cell_of_take hrq (k := 0) rfl) ?_
  refine .callc (fun y : CmpY => EqA l M1 p q y.1 ∧ MetA y.1.2 y.2) (fun y => .bool y.1.1) (fun y => [(bm, .map y.2.1 y.2.2)]) .one rfl rfl (by kernel_rfl) (by kernel_rfl) rfl rfl rfl rfl rfl rfl (fun m2 g0 g2 gb gr => ih p q hpl hql m2 x1 M1 g0 g2 hM1 hB1 (hp.mono gb) hu1) (fun y hy => ?_)
  refine .p rfl rfl rfl rfl rfl (.of (.nil (.seq ?_)))
  refine .cond rfl (fun ht98 => ?_) (fun ht98 => ?_)
  ·obtain ⟨hy, hyM⟩ := hy
   have hyf : y.1.1 = false := by cases h_ : y.1.1 with | false => rfl | true => rw [h_] at ht98; cases ht98
   refine .seq (.region (.P ?_))
   refine .nil (.seq (.ret (.blk (.seq (.loop (.blk (.seq ?_)))))))
   exact .end_ rfl rfl (fun m hm => ⟨((false, y.1.2), y.2), ⟨EqA.stop hx_ hy_ hR hy.grown hy.bnd fun h => hy.no hyf (((h.ty hsnd hx_ hy_).els.2 i _ _ hp0 hq0_).nat), hyM⟩, rfl, hm.sub (.cons_cons _ (List.nil_sublist _))⟩)
  obtain ⟨hy, hyM⟩ := hy
  have hyt : y.1.1 = true := by cases h_ : y.1.1 with | true => rfl | false => rw [h_] at ht98; cases ht98
  refine .skip (.blk (.seq (.region (.P ?_))))
  refine .W 99 i ?_
  refine .P ?_
  refine .nil ?_
  exact .loop (i + 1, y.1.2, y.2) ⟨by omega, hR.more hy hyt (hR.all.succ hy.grown hp0 hq0_ ⟨p, q, rfl, rfl, (hy.yes hyt).1⟩), hyM⟩ (by show x_.elems.length - (i + 1) < x_.elems.length - i; omega) ⟨rfl, rfl, rfl, rfl, rfl, rfl, trivial⟩ (.refl _)
 try simp only [nz] at ht84
 have hels : ElsR (InM M1) x_.elems y_.elems := hR.all.all hhd.2.1 (by omega)
 refine .exit (.seq (.loop (.here (.seq (.seq (.seq (.region (.F fa50_0 ?_))))))))
 refine .L ag3 ?_
 refine .P ?_
 refine .nil (.seq ?_)
 refine .cond rfl (fun ht102 => ?_) (fun ht102 => ?_)
 ·try simp only [nz] at ht102
  have hk13 : x_.kind = 13 := by omega
  refine .seq (.region (.P ?_))
  refine .F fa50_3 ?_
  refine .L ag47 ?_
  refine .F fa50_3 ?_
  refine .L ag47 ?_
  refine .callc (fun y : CmpY => RelA l M1 (fun R => MemR R x_.fields y_.fields) y.1 ∧ MetA y.1.2 y.2) (fun y => .bool y.1.1) (fun y => [(bm, .map y.2.1 y.2.2)]) .one rfl rfl rfl rfl rfl rfl (fun m2 g1 g2 => cmembers_ok (x0 := x1) g1.lole' g2 hM1 hB1 (hp.mono (Off.kr g1.kr)) hu1 ih (hfSX.mono (Off.kr g1.kr) fun _ _ h => h) (hfSY.mono (Off.kr g1.kr) fun _ _ h => h) (parts_ok_fld (hsnd a x_ hx_) fun f_ hf_ => parts_fldm hf_) (parts_ok_fld (hsnd b_ y_ hy_) fun f_ hf_ => parts_fldm hf_) (nodup_fields (hWl.all b_ y_ hy_))) (fun y hy => ?_)
  refine .P ?_
  refine .nil (.seq (.ret (.seq ?_)))
  exact .end_ rfl rfl (fun m hm => ⟨y, ⟨EqA.mods hsnd hx_ hy_ hhd hk13 (single_zero (hWl.all a x_ hx_)).1 (single_zero (hWl.all b_ y_ hy_)).1 hR hels hy.1, hy.2⟩, rfl, hm.sub (.cons_cons _ (List.nil_sublist _))⟩)
 try simp only [nz] at ht102
 have hk13 : x_.kind ≠ 13 := by omega
 refine .skip (.seq (.seq (.seq (.region (.P ?_)))))
 refine .F fa50_3 ?_
 refine .L ag47 ?_
 refine .F fa50_3 ?_
 refine .L ag47 ?_
 refine .callc (fun y : CmpY => RelA l M1 (fun R => FldsR R x_.fields y_.fields) y.1 ∧ MetA y.1.2 y.2) (fun y => .bool y.1.1) (fun y => [(bm, .map y.2.1 y.2.2)]) .one rfl rfl rfl rfl rfl rfl (fun m2 g1 g2 => cfields_ok (x0 := x1) g1.lole' g2 hM1 hB1 (hp.mono (Off.kr g1.kr)) hu1 ih (hfSX.mono (Off.kr g1.kr) fun _ _ h => h) (hfSY.mono (Off.kr g1.kr) fun _ _ h => h) (parts_ok_fld (hsnd a x_ hx_) fun f_ hf_ => parts_fldm hf_) (parts_ok_fld (hsnd b_ y_ hy_) fun f_ hf_ => parts_fldm hf_)) (fun y hy => ?_)
 refine .P ?_
 refine .nil (.seq ?_)
 refine .cond rfl (fun ht115 => ?_) (fun ht115 => ?_)
 ·obtain ⟨hy, hyM⟩ := hy
  have hyf : y.1.1 = false := by cases h_ : y.1.1 with | false => rfl | true => rw [h_] at ht115; cases ht115
  refine .seq (.region (.P ?_))
  refine .nil (.seq (.ret (.seq ?_)))
  exact .end_ rfl rfl (fun m hm => ⟨((false, y.1.2), y.2), ⟨EqA.stop hx_ hy_ hR hy.grown hy.bnd fun h => hy.no hyf (by have := (h.ty hsnd hx_ hy_).flds; rw [if_neg hk13] at this; exact this), hyM⟩, rfl, hm.sub (.cons_cons _ (List.nil_sublist _))⟩)
 obtain ⟨hy, hyM⟩ := hy
 have hyt : y.1.1 = true := by cases h_ : y.1.1 with | true => rfl | false => rw [h_] at ht115; cases ht115
 refine .skip (.seq (.seq (.seq (.region (.F fa50_4 ?_)))))
 refine .L ag48 ?_
 refine .G (ln48 ..) ?_
 refine .P ?_
 refine .nil (.seq (.block ?_))
 have hR0 := hR.moreR hy hyt (P2 := ElsR (InM y.1.2) x_.elems y_.elems ∧ FldsR (InM y.1.2) x_.fields y_.fields) ⟨hels.mono (InM.mono hy.grown), (hy.yes hyt).2⟩
 have hM0 := hyM
 have hB0 := hR0.bnd (hBd.cons ha hb_)
 have hn0 := Nat.lt_of_le_of_lt (unmet_le (n := l.length) hR0.grown) hn0
 refine .loop (α := Nat × Prs × (List MapEntry × Nat)) (fun q => [(0, ptr bs), (7, ptr b7), (8, ptr b8), (117, .slice aaX x_.arms.length caX), (118, .int .i64 (Int.ofNat (x_.arms.length))), (119, .int .i64 (Int.ofNat (q.1)))]) (fun q => [(bm, .map q.2.2.1 q.2.2.2), (b8, .cells [.int .i64 y_.kind, .slice aeY y_.elems.length ceY, .string y_.name, .slice afY y_.fields.length cfY, .slice aaY y_.arms.length caY] 50 false .plain none), (b7, .cells [.int .i64 x_.kind, .slice aeX x_.elems.length ceX, .string x_.name, .slice afX x_.fields.length cfX, .slice aaX x_.arms.length caX] 50 false .plain none)]) (fun q => q.1 ≤ x_.arms.length ∧ RowA l y.1.2 q.2.1 (ArmsU (InM q.2.1) x_.arms y_.arms q.1) ∧ MetA q.2.1 q.2.2) (fun q => x_.arms.length - q.1) (0, y.1.2, y.2) ⟨Nat.zero_le _, RowA.init (fun _ _ _ h => absurd h (Nat.not_lt_zero _)), hM0⟩ ⟨rfl, rfl, rfl, rfl, rfl, rfl, trivial⟩ (.refl _) (fun q hq0 => ?_)
 obtain ⟨k, M1, x1⟩ := q
 obtain ⟨hk, hR, hM1⟩ := hq0
 simp only at hk hR hM1
 have hB1 := hR.bnd hB0
 have hu1 := Nat.lt_of_le_of_lt (unmet_le (n := l.length) hR.grown) hn0
 refine .seq (.region (.P ?_))
 refine .nil (.seq (.seq ?_))
 refine .cond rfl (fun ht120 => ?_) (fun ht120 => ?_)
 ·try simp only [nz] at ht120
  have hltU : k < x_.arms.length := by omega
  obtain ⟨u, hu_⟩ : ∃ w_, x_.arms[k]? = some w_ := ⟨_, List.getElem?_eq_getElem hltU⟩
  rcases hgX with ⟨e0, -⟩ | ⟨bU, offU, csU, elU, gU, mdU, mateU, rfl, ⟨hbU, hhU⟩, hleU, hcU⟩
  ·rw [e0] at hltU; simp at hltU
  have hru := hcU k u hu_
  have hltW : k < y_.arms.length := by have := hhd.2.2.1; omega
  obtain ⟨w, hw_⟩ : ∃ w_, y_.arms[k]? = some w_ := ⟨_, List.getElem?_eq_getElem hltW⟩
  rcases hgY with ⟨e0, -⟩ | ⟨bW, offW, csW, elW, gW, mdW, mateW, rfl, ⟨hbW, hhW⟩, hleW, hcW⟩
  ·rw [e0] at hltW; simp at hltW
  have hrw := hcW k w hw_
  obtain ⟨vu, hru, hfu⟩ := hru
  obtain ⟨vw, hrw, hfw⟩ := hrw
  have hfuS := hfu
  have hfwS := hfw
  obtain ⟨au, cu, rfl, hnu, hfu⟩ := hfu
  obtain ⟨aw, cw, rfl, hnw, hfw⟩ := hfw
  refine .skip (.seq (.seq (.block (.seq (.region ?_)))))
  iterate 2 refine .P ?_
  refine .nil (.seq (.seq ?_))
  refine .D [(15, 0), (3, 1), (15, 0), (15, 7), (15, 15), (3, 31), (15, 0), (3, 64), (15, 0), (15, 448), (15, 960), (3, 1984), (15, 4095), (15, 8191), (15, 16383), (15, 16383), (3, 49151), (15, 16383), (15, 245759), (15, 507903), (3, 1032191), (15, 16383), (3, 2113535), (15, 16383), (15, 14696447), (15, 31473663), (3, 65028095), (7, 134217727), (15, 268435455), (15, 536870911)] (by kernel_rfl) (by kernel_rfl) (fun base hbase hB => ?_)
  refine .F fa50_4 ?_
  refine .load rfl rfl rfl rfl rfl rfl rfl rfl ag48 (by repeat first | exact .head | exact .app .head | exact .base ‹_› ‹_› (by simp) | refine .tail ?_ | refine .app ?_) rfl ?_
  refine .P ?_
  refine .K Tryz.underlying48 sz55 ?_
  refine .F fa55_0 ?_
  refine .M ag9 (Off.sees rfl rfl _ _ ⟨hbU, hhU⟩) (cell_of_take hru (k := 0) rfl) ?_
  refine .F fa50_4 ?_
  refine .load rfl rfl rfl rfl rfl rfl rfl rfl ag48 (by repeat first | exact .head | exact .app .head | exact .base ‹_› ‹_› (by simp) | refine .tail ?_ | refine .app ?_) rfl ?_
  refine .P ?_
  refine .K Tryz.underlying48 sz55 ?_
  refine .F fa55_0 ?_
  refine .M ag9 (Off.sees rfl rfl _ _ ⟨hbW, hhW⟩) (cell_of_take hrw (k := 0) rfl) ?_
  iterate 2 refine .P ?_
  refine .splitB 135 rfl (fun hs_135 => ?_) (fun hs_135 => ?_)
  ·try simp only [nz] at hs_135
   have hnn : u.name ≠ w.name := by assumption
   iterate 15 refine .O ?_
   refine .P ?_
   refine .nil (.seq (.cond_true rfl (.seq (.region (.P ?_)))))
   refine .nil (.seq (.ret (.blk (.seq (.loop (.blk (.seq ?_)))))))
   exact .end_ rfl rfl (fun m hm => ⟨((false, M1), x1), ⟨EqA.stop hx_ hy_ hR0 hR.grown hR.bnd fun h => hnn ((h.ty hsnd hx_ hy_).arms.2 k u w hu_ hw_).1, hM1⟩, rfl, hm.sub (.cons_cons _ (List.nil_sublist _))⟩)
  try simp only [nz] at hs_135
  have hnn : u.name = w.name := by assumption
  refine .P ?_
  refine .F fa50_4 ?_
  refine .load rfl rfl rfl rfl rfl rfl rfl rfl ag48 (by repeat first | exact .head | exact .app .head | exact .base ‹_› ‹_› (by simp) | refine .tail ?_ | refine .app ?_) rfl ?_
  refine .P ?_
  refine .K Tryz.underlying48 sz55 ?_
  refine .F fa55_1 ?_
  refine .M ag47 (Off.sees rfl rfl _ _ ⟨hbU, hhU⟩) (cell_of_take hru (k := 1) rfl) ?_
  refine .F fa50_4 ?_
  refine .load rfl rfl rfl rfl rfl rfl rfl rfl ag48 (by repeat first | exact .head | exact .app .head | exact .base ‹_› ‹_› (by simp) | refine .tail ?_ | refine .app ?_) rfl ?_
  refine .P ?_
  refine .K Tryz.underlying48 sz55 ?_
  refine .F fa55_1 ?_
  refine .M ag47 (Off.sees rfl rfl _ _ ⟨hbW, hhW⟩) (cell_of_take hrw (k := 1) rfl) ?_
  refine .callc (fun y : CmpY => RelA l M1 (fun R => FldsR R u.fields w.fields) y.1 ∧ MetA y.1.2 y.2) (fun y => .bool y.1.1) (fun y => [(bm, .map y.2.1 y.2.2)]) .one rfl rfl (by kernel_rfl) (by kernel_rfl) rfl rfl rfl rfl rfl rfl (fun m2 g0 g2 gb gr => cfields_ok (x0 := x1) g0 g2 hM1 hB1 (hp.mono gb) hu1 ih (hfuS.mono gb fun _ _ h => h) (hfwS.mono gb fun _ _ h => h) (parts_ok_fld (hsnd a x_ hx_) fun f_ hf_ => parts_armf (List.mem_of_getElem? hu_) hf_) (parts_ok_fld (hsnd b_ y_ hy_) fun f_ hf_ => parts_armf (List.mem_of_getElem? hw_) hf_)) (fun y hy => ?_)
  refine .p rfl rfl rfl rfl rfl (.p rfl rfl rfl rfl rfl (.of (.nil (.seq ?_))))
  refine .cond rfl (fun ht151 => ?_) (fun ht151 => ?_)
  ·obtain ⟨hy, hyM⟩ := hy
   have hyf : y.1.1 = false := by cases h_ : y.1.1 with | false => rfl | true => rw [h_] at ht151; cases ht151
   refine .seq (.region (.P ?_))
   refine .nil (.seq (.ret (.blk (.seq (.loop (.blk (.seq ?_)))))))
   exact .end_ rfl rfl (fun m hm => ⟨((false, y.1.2), y.2), ⟨EqA.stop hx_ hy_ hR0 (hR.grown.trans hy.grown) (fun h => hy.bnd (hR.bnd h)) fun h => hy.no hyf ((h.ty hsnd hx_ hy_).arms.2 k u w hu_ hw_).2, hyM⟩, rfl, hm.sub (.cons_cons _ (List.nil_sublist _))⟩)
  obtain ⟨hy, hyM⟩ := hy
  have hyt : y.1.1 = true := by cases h_ : y.1.1 with | true => rfl | false => rw [h_] at ht151; cases ht151
  refine .skip (.blk (.seq (.region (.P ?_))))
  refine .W 152 k ?_
  refine .P ?_
  refine .nil ?_
  exact .loop (k + 1, y.1.2, y.2) ⟨by omega, hR.moreR hy hyt (hR.all.succ hy.grown hu_ hw_ hnn (hy.yes hyt).2), hyM⟩ (by show x_.arms.length - (k + 1) < x_.arms.length - k; omega) ⟨rfl, rfl, rfl, rfl, rfl, rfl, trivial⟩ (.refl _)
 try simp only [nz] at ht120
 refine .exit (.seq (.loop (.here (.seq (.seq (.region (.P ?_)))))))
 refine .nil (.seq (.ret ?_))
 exact .end_ rfl rfl (fun m hm => ⟨((true, M1), x1), ⟨EqA.close (P := True) hx_ hy_ ⟨hR0.grown.trans hR.grown, fun h => hR.bnd (hR0.bnd h), hR0.closed.trans hR.closed hR.grown, trivial⟩ ⟨hhd, hR0.all.1.mono (InM.mono hR.grown), by rw [if_neg hk13]; exact hR0.all.2.mono (InM.mono hR.grown), hR.all.all hhd.2.2.1 (by omega)⟩, hM1⟩, rfl, hm.sub (.cons_cons _ (List.nil_sublist _))⟩)

/-! What is asked about two types. -/

theorem equal_all {l : List Ty} {al : Option Addr} {cl bs bm : Nat} (hW : Well l) : ∀ (n a b : Nat), a < l.length → b < l.length → EqualC Tryz.prog l al cl bs bm n a b
 | 0, _, _, _, _ => fun _ _ _ _ _ _ _ _ hlt => absurd hlt (Nat.not_lt_zero _)
 | n + 1, _, _, ha, hb => fun _ _ _ hm hk hM hB hp hn => cequal_step (n := n) hm hk hM hB hp hn hW ha hb (equal_all hW n)
theorem Bnd.nil (l : List Ty) : Bnd l [] := fun p hp => by cases hp
theorem Sl.two {b c : Nat} {t u : Int} {el : TypeId} {g : Bool} {md : CMode} {mate : Option Nat} (hc : 2 ≤ c := by decide) : Sl (InH [(b, .cells [.int .i64 t, .int .i64 u] el g md mate)]) 1 RInt [t, u] (.slice (some ⟨b, 0, none⟩) 2 c) :=
 ⟨some ⟨b, 0, none⟩, c, rfl, ⟨by simp, hc⟩, .inr ⟨b, 0, _, el, g, md, mate, rfl, List.mem_cons_self, by simp, fun i x hx => by
  match i with
  | 0 => cases hx; rfl
  | 1 => cases hx; rfl
  | i + 2 => cases hx⟩⟩
theorem AskP.at2 {l : List Ty} {t u : Int} (h : AskP l [t, u] 0) : ∃ p q : Nat, t = Int.ofNat p ∧ u = Int.ofNat q ∧ p < l.length ∧ q < l.length := by
 have h1 := h.well.2 0 t rfl
 have h2 := h.well.2 1 u rfl
 obtain ⟨p, rfl⟩ := Int.eq_ofNat_of_zero_le h1.1
 obtain ⟨q, rfl⟩ := Int.eq_ofNat_of_zero_le h2.1
 exact ⟨p, q, rfl, rfl, by omega, by omega⟩
/-- An error, or a fact on two types. -/
def TwoP (F : Nat → Nat → Prop) (l : List Ty) (t u : Int) (x : Bool × Int) : Prop := AskP l [t, u] x.2 ∧ (x.2 ≠ 0 → x.1 = false) ∧ (x.2 = 0 → ∃ p q : Nat, t = Int.ofNat p ∧ u = Int.ofNat q ∧ (x.1 = true ↔ F p q))
theorem TwoP.bad {F : Nat → Nat → Prop} {l : List Ty} {t u e : Int} (h : AskP l [t, u] e) (he : e ≠ 0) : TwoP F l t u (false, e) := ⟨h, fun _ => rfl, fun h0 => absurd h0 he⟩
theorem TwoP.good {F : Nat → Nat → Prop} {l : List Ty} {p q : Nat} {z : Bool} (h : AskP l [Int.ofNat p, Int.ofNat q] 0) (hz : z = true ↔ F p q) : TwoP F l (Int.ofNat p) (Int.ofNat q) (z, 0) := ⟨h, fun h0 => absurd rfl h0, fun _ => ⟨p, q, rfl, rfl, hz⟩⟩
theorem TwoP.err {F : Nat → Nat → Prop} {l : List Ty} {t u e : Int} {x : Bool × Int} (h : TwoP F l t u x) (he : AskP l [t, u] e) : x.2 = e := h.1.uniq he
theorem TwoP.no {F : Nat → Nat → Prop} {l : List Ty} {t u e : Int} {x : Bool × Int} (h : TwoP F l t u x) (he : AskP l [t, u] e) (hne : e ≠ 0) : x.1 = false := h.2.1 (by rw [h.err he]; exact hne)
theorem TwoP.is {F : Nat → Nat → Prop} {l : List Ty} {p q : Nat} {x : Bool × Int} {z : Bool} (h : TwoP F l (Int.ofNat p) (Int.ofNat q) x) (he : AskP l [Int.ofNat p, Int.ofNat q] 0) (hz : z = true ↔ F p q) : x.1 = z := by
 obtain ⟨p', q', h1, h2, h3⟩ := h.2.2 (h.err he)
 cases h1
 cases h2
 rw [Bool.eq_iff_iff, h3, hz]
def AsgX (l : List Ty) (p q : Nat) (x y : Ty) : Prop := (valueB x = true ∧ valueB y = true ∧ EqT l p q) ∨ (y.kind = 14 ∧ (x.kind = 6 ∨ x.kind = 7 ∨ x.kind = 8 ∨ x.kind = 9 ∨ x.kind = 13)) ∨ (y.kind ≠ 14 ∧ (x.kind = 9 ∧ y.kind = 9 ∧ x.name.size = 0 ∧ y.name.size ≠ 0) ∧ ∃ p' q' : Nat, x.elems[0]? = some (Int.ofNat p') ∧ y.elems[0]? = some (Int.ofNat q') ∧ EqT l p' q')
def AsgT (l : List Ty) (p q : Nat) : Prop := ∃ x y, l[p]? = some x ∧ l[q]? = some y ∧ AsgX l p q x y
theorem AsgT.of {l : List Ty} {p q : Nat} {x y : Ty} {z : Bool} (hx : l[p]? = some x) (hy : l[q]? = some y) (h : z = true ↔ AsgX l p q x y) : z = true ↔ AsgT l p q := by
 rw [h]
 constructor
 ·exact fun h => ⟨x, y, hx, hy, h⟩
 rintro ⟨x', y', h1, h2, h3⟩
 rw [hx] at h1
 rw [hy] at h2
 cases h1
 cases h2
 exact h3
theorem AsgX.any {l : List Ty} {p q : Nat} {x y : Ty} (h : y.kind = 14) : AsgX l p q x y ↔ (x.kind = 6 ∨ x.kind = 7 ∨ x.kind = 8 ∨ x.kind = 9 ∨ x.kind = 13) := by
 have hv : valueB y = false := by
  unfold valueB
  rw [decide_eq_false]
  omega
 unfold AsgX
 rw [hv]
 constructor
 ·rintro (h1 | h1 | h1)
  ·cases h1.2.1
  ·exact h1.2
  exact absurd h h1.1
 exact fun h1 => .inr (.inl ⟨h, h1⟩)
theorem AsgX.vals {l : List Ty} {p q : Nat} {x y : Ty} (h : valueB x = true ∧ valueB y = true ∧ EqT l p q) : AsgX l p q x y := .inl h
theorem AsgX.other {l : List Ty} {p q : Nat} {x y : Ty} (h : ¬ (valueB x = true ∧ valueB y = true ∧ EqT l p q)) (hk : y.kind ≠ 14) (hn : ¬ (x.kind = 9 ∧ y.kind = 9 ∧ x.name.size = 0 ∧ y.name.size ≠ 0)) : ¬ AsgX l p q x y := by
 rintro (h1 | h1 | h1)
 ·exact h h1
 ·exact hk h1.1
 exact hn h1.2.1
theorem AsgX.ref {l : List Ty} {p q p' q' : Nat} {x y : Ty} {z : Bool} (h : ¬ (valueB x = true ∧ valueB y = true ∧ EqT l p q)) (hk : y.kind ≠ 14) (hn : x.kind = 9 ∧ y.kind = 9 ∧ x.name.size = 0 ∧ y.name.size ≠ 0) (hx : x.elems[0]? = some (Int.ofNat p')) (hy : y.elems[0]? = some (Int.ofNat q')) (hz : z = true ↔ EqT l p' q') : z = true ↔ AsgX l p q x y := by
 rw [hz]
 constructor
 ·exact fun h1 => .inr (.inr ⟨hk, hn, p', q', hx, hy, h1⟩)
 rintro (h1 | h1 | h1)
 ·exact absurd h1 h
 ·exact absurd h1.1 hk
 obtain ⟨p2, q2, g1, g2, g3⟩ := h1.2.2
 rw [hx] at g1
 rw [hy] at g2
 cases g1
 cases g2
 exact g3
theorem joinF1 {a b z : Bool} {E : Prop} (h : a = false) (hz : z = true ↔ (a = true ∧ b = true ∧ E)) : false = z := by
 cases z with
 | false => rfl
 | true =>
  have := (hz.1 rfl).1
  rw [h] at this
  cases this
theorem joinF2 {a b z : Bool} {E : Prop} (h : b = false) (hz : z = true ↔ (a = true ∧ b = true ∧ E)) : false = z := by
 cases z with
 | false => rfl
 | true =>
  have := (hz.1 rfl).2.1
  rw [h] at this
  cases this
theorem joinT {a b y z : Bool} {E : Prop} (h1 : a = true) (h2 : b = true) (hy : y = true ↔ E) (hz : z = true ↔ (a = true ∧ b = true ∧ E)) : y = z := by
 rw [Bool.eq_iff_iff, hz, hy]
 exact ⟨fun h => ⟨h1, h2, h⟩, fun h => h.2.2⟩
theorem equal_ok {l : List Ty} {vl : Value} {a b_ : Nat} {m : AW} (hm : m.lo ≤ m.next) (hlS : Sl (Mem m) 5 (RTy (Mem m)) l vl) (hWl : Well l) (ha : a < l.length) (hb_ : b_ < l.length) : Fc Tryz.prog 64 [vl, .int .i64 (Int.ofNat (a)), .int .i64 (Int.ofNat (b_))] m fun v m' => ∃ z : Bool, (z = true ↔ EqT l a b_) ∧ v = .bool z ∧ Ext m m' ∧ News m m' [] := by
 have hlS0 := hlS
 obtain ⟨al, cl, rfl, hnl, hl⟩ := hlS
 refine Fc.body (c := _) Tryz.func64 rfl rfl rfl rfl hm ?_
 refine .seq (.region (.P ?_))
 refine .nil (.seq (.seq (.region (.P ?_))))
 refine .makeMap rfl rfl rfl rfl (fun b9 hb9 => ?_)
 refine .p (v := .agg ⟨[.slice al l.length cl, .map (some b9)]⟩) rfl rfl rfl (by kernel_rfl) ?_
 refine .box rfl rfl rfl rfl rfl (fun b11 hb11 => ?_)
 refine .P ?_
 refine .nil (.seq (.seq (.region ?_)))
 iterate 3 refine .P ?_
 refine .callc (fun y : CmpY => EqA l [] a b_ y.1 ∧ MetA y.1.2 y.2) (fun y => .bool y.1.1) (fun y => [(b9, .map y.2.1 y.2.2)]) (.tail .one) rfl rfl rfl rfl rfl rfl (fun m2 g1 g2 => equal_all hWl _ a b_ ha hb_ m2 ([], 0) [] g1.lole' g2 (MetA.nil 0) (Bnd.nil l) ⟨Off.known g1 (.head _), hlS0.mono (Off.old g1) (RTy.mono (Off.old g1))⟩ (Nat.lt_succ_self _)) (fun y hy => ?_)
 refine .P ?_
 refine .nil (.seq (.ret ?_))
 exact .end_ rfl rfl (fun m hm => ⟨y.1.1, hy.1.top, rfl, hm.ext, News.nil _ _⟩)
theorem Equal_ok {l : List Ty} {vl : Value} {t u : Int} {m : AW} (hm : m.lo ≤ m.next) (hlS : Sl (Mem m) 5 (RTy (Mem m)) l vl) (hwl : ∀ (i : Nat) (a : Ty), l[i]? = some a → FewT a) (hn14 : l.length ≤ 14) : Fc Tryz.prog 20 [vl, .int .i64 t, .int .i64 u] m fun v m' => ∃ x : Bool × Int, TwoP (EqT l) l t u x ∧ v = .tuple ⟨[.bool x.1, .int .i64 x.2]⟩ ∧ Ext m m' ∧ News m m' [] := by
 have hlS0 := hlS
 obtain ⟨al, cl, rfl, hnl, hl⟩ := hlS
 refine Fc.body (c := _) Tryz.func20 rfl rfl rfl rfl hm ?_
 refine .seq (.region ?_)
 iterate 2 refine .P ?_
 refine .nil (.seq (.seq (.seq (.region ?_))))
 iterate 3 refine .P ?_
 refine .buildSlice rfl rfl rfl rfl rfl (bs32_2 ..) (fun b12 hb12 => ?_)
 refine .calln _ _ _ rfl rfl rfl rfl rfl rfl (fun m hm => asked_ok hm.lole (hlS0.mono (Mem.kr hm) (RTy.mono (Mem.kr hm))) hwl hn14 ((Sl.two (b := b12) (c := 2) (el := 3) (g := false) (md := .plain) (mate := none)).mono (InH.kr (l := [(b12, .cells [.int .i64 t, .int .i64 u] 3 false .plain none)]) hm (fun p_ hp_ => by rw [List.mem_singleton.1 hp_]; exact List.mem_cons_self)) fun _ _ h => h)) (fun e he => ?_)
 refine .P ?_
 refine .nil (.seq (.seq (.region ?_)))
 iterate 2 refine .P ?_
 refine .nil (.seq ?_)
 refine .cond rfl (fun ht15 => ?_) (fun ht15 => ?_)
 ·try simp only [nz] at ht15
  have hne : e ≠ 0 := by omega
  refine .seq (.region ?_)
  iterate 3 refine .P ?_
  refine .nil (.seq (.ret (.seq ?_)))
  exact .end_ rfl rfl (fun m hm => ⟨(false, e), TwoP.bad he hne, rfl, hm.ext, News.nil _ _⟩)
 try simp only [nz] at ht15
 have he0 : e = 0 := by omega
 subst he0
 obtain ⟨p, q, rfl, rfl, hp, hq⟩ := he.at2
 have hFi := he.fine
 have hWl := hFi.well
 refine .skip (.seq (.seq (.region ?_)))
 iterate 3 refine .P ?_
 refine .calln _ _ _ rfl rfl rfl rfl rfl rfl (fun m hm => equal_ok hm.lole (hlS0.mono (Mem.kr hm) (RTy.mono (Mem.kr hm))) hWl hp hq) (fun z hz => ?_)
 iterate 2 refine .P ?_
 refine .nil (.seq (.ret ?_))
 exact .end_ rfl rfl (fun m hm => ⟨(z, 0), TwoP.good he hz, rfl, hm.ext, News.nil _ _⟩)
theorem Assignable_ok {l : List Ty} {vl : Value} {t u : Int} {m : AW} (hm : m.lo ≤ m.next) (hlS : Sl (Mem m) 5 (RTy (Mem m)) l vl) (hwl : ∀ (i : Nat) (a : Ty), l[i]? = some a → FewT a) (hn14 : l.length ≤ 14) : Fc Tryz.prog 21 [vl, .int .i64 t, .int .i64 u] m fun v m' => ∃ x : Bool × Int, TwoP (AsgT l) l t u x ∧ v = .tuple ⟨[.bool x.1, .int .i64 x.2]⟩ ∧ Ext m m' ∧ News m m' [] := by
 have hlS0 := hlS
 obtain ⟨al, cl, rfl, hnl, hl⟩ := hlS
 refine Fc.body (c := _) Tryz.func21 rfl rfl rfl rfl hm ?_
 refine .seq (.region ?_)
 iterate 2 refine .P ?_
 refine .nil (.seq (.seq (.seq (.region ?_))))
 iterate 3 refine .P ?_
 refine .buildSlice rfl rfl rfl rfl rfl (bs32_2 ..) (fun b14 hb14 => ?_)
 refine .calln _ _ _ rfl rfl rfl rfl rfl rfl (fun m hm => asked_ok hm.lole (hlS0.mono (Mem.kr hm) (RTy.mono (Mem.kr hm))) hwl hn14 ((Sl.two (b := b14) (c := 2) (el := 3) (g := false) (md := .plain) (mate := none)).mono (InH.kr (l := [(b14, .cells [.int .i64 t, .int .i64 u] 3 false .plain none)]) hm (fun p_ hp_ => by rw [List.mem_singleton.1 hp_]; exact List.mem_cons_self)) fun _ _ h => h)) (fun e he => ?_)
 refine .P ?_
 refine .nil (.seq (.seq (.region ?_)))
 iterate 2 refine .P ?_
 refine .nil (.seq ?_)
 refine .cond rfl (fun ht17 => ?_) (fun ht17 => ?_)
 ·(try simp only [nz] at ht17); try simp only [nq] at ht17
  have hne : e ≠ 0 := by omega
  refine .seq (.region ?_)
  iterate 3 refine .P ?_
  refine .nil (.seq (.ret (.seq ?_)))
  exact .end_ rfl rfl (fun m hm => ⟨(false, e), TwoP.bad he hne, rfl, hm.ext, News.nil _ _⟩)
 (try simp only [nz] at ht17); try simp only [nq] at ht17
 have he0 : e = 0 := by omega
 subst he0
 obtain ⟨p, q, rfl, rfl, hp, hq⟩ := he.at2
 have hFi := he.fine
 have hWl := hFi.well
 have hsnd := hWl.sound
 obtain ⟨x_, hx_⟩ : ∃ w_, l[p]? = some w_ := ⟨_, List.getElem?_eq_getElem hp⟩
 obtain ⟨y_, hy_⟩ : ∃ w_, l[q]? = some w_ := ⟨_, List.getElem?_eq_getElem hq⟩
 rcases hl with ⟨e0, -⟩ | ⟨b, off, cs, el, g, md, mate, rfl, ⟨hb, hh⟩, hle, hc⟩
 ·rw [e0] at hp; simp at hp
 have hrX := hc p x_ hx_
 obtain ⟨veX, vfX, vaX, hrX, heX, hfX, hgX⟩ := hrX
 obtain ⟨aeX, ceX, rfl, hneX, heX⟩ := heX
 have hfSX := hfX
 obtain ⟨afX, cfX, rfl, hnfX, hfX⟩ := hfX
 obtain ⟨aaX, caX, rfl, hnaX, hgX⟩ := hgX
 have hrY := hc q y_ hy_
 obtain ⟨veY, vfY, vaY, hrY, heY, hfY, hgY⟩ := hrY
 obtain ⟨aeY, ceY, rfl, hneY, heY⟩ := heY
 have hfSY := hfY
 obtain ⟨afY, cfY, rfl, hnfY, hfY⟩ := hfY
 obtain ⟨aaY, caY, rfl, hnaY, hgY⟩ := hgY
 obtain ⟨z0, hz0⟩ : ∃ z0 : Bool, z0 = true ↔ (valueB x_ = true ∧ valueB y_ = true ∧ EqT l p q) := ⟨@decide _ (Classical.propDecidable _), @decide_eq_true_iff _ (Classical.propDecidable _)⟩
 refine .skip (.seq (.seq ?_))
 refine .D [(15, 0), (15, 0), (15, 3), (3, 7), (13, 0), (13, 0), (13, 48), (1, 112), (11, 0), (11, 0), (7, 783), (7, 2047)] (by kernel_rfl) (by kernel_rfl) (fun base hbase hB => ?_)
 iterate 2 refine .P ?_
 refine .K Tryz.underlying22 sz50 ?_
 refine .loadAgg rfl rfl rfl rfl rfl rfl rfl rfl ag50 sz50 (.base hh hb (by simp)) (by omega) hrX ?_
 iterate 2 refine .P ?_
 refine .K Tryz.underlying22 sz50 ?_
 refine .loadAggOld rfl rfl rfl rfl rfl rfl ag50 sz50 (.base hh hb (by simp)) (by omega) hrY (by first | exact hB _ _ (.head _) | exact hB _ _ (.tail _ (.head _)) | exact hB _ _ (.tail _ (.tail _ (.head _))) | exact hB _ _ (.tail _ (.tail _ (.tail _ (.head _)))) | exact hB _ _ (List.mem_append_right _ (.head _)) | exact hB _ _ (List.mem_append_right _ (.tail _ (.head _))) | exact Nat.lt_of_lt_of_le ‹_› hbase) ?_
 refine .alloc rfl rfl rfl rfl rfl zr50 (fun b9 hn9 hb9 => ?_)
 refine .alloc rfl rfl rfl rfl rfl zr50 (fun b10 hn10 hb10 => ?_)
 refine .storeNew rfl rfl (by kernel_rfl) hn9 rfl rfl rfl rfl rfl sz50 rfl (by first | exact .head | exact .tail .head | exact .tail (.tail .head) | exact .tail (.tail (.tail .head)) | exact updo) rfl ?_
 refine .storeNew rfl rfl (by kernel_rfl) hn10 rfl rfl rfl rfl rfl sz50 rfl (by first | exact .head | exact .tail .head | exact .tail (.tail .head) | exact .tail (.tail (.tail .head)) | exact updo) rfl ?_
 refine .nil (.seq (.seq (.block ?_)))
 refine .joinA (True) [(27, .bool z0)] ?_ (fun _ => ?_)
 ·refine .region ?_
  iterate 2 refine .P ?_
  refine .call _ rfl rfl rfl rfl rfl rfl (fun m hm => value_ok hm.lole (hlS0.mono (Mem.kr hm) (RTy.mono (Mem.kr hm))) hx_) ?_
  refine .P ?_
  refine .splitB 31 rfl (fun hs_31 => ?_) (fun hs_31 => ?_)
  ·(try simp only [nz] at hs_31); try simp only [nq] at hs_31
   iterate 2 refine .P ?_
   refine .call _ rfl rfl rfl rfl rfl rfl (fun m hm => value_ok hm.lole (hlS0.mono (Mem.kr hm) (RTy.mono (Mem.kr hm))) hy_) ?_
   iterate 2 refine .P ?_
   refine .splitB 36 rfl (fun hs_36 => ?_) (fun hs_36 => ?_)
   ·(try simp only [nz] at hs_36); try simp only [nq] at hs_36
    iterate 3 refine .P ?_
    refine .calln _ _ _ rfl rfl rfl rfl rfl rfl (fun m hm => equal_ok hm.lole (hlS0.mono (Mem.kr hm) (RTy.mono (Mem.kr hm))) hWl hp hq) (fun z1 hz1 => ?_)
    iterate 2 refine .P ?_
    refine .nil ?_
    refine .as 27 (.bool z0) rfl (congrArg Value.bool (by first | exact joinF1 hs_31 hz0 | exact joinF2 hs_36 hz0 | exact joinT hs_31 hs_36 hz1 hz0)) ?_
    exact .J (trivial)
   (try simp only [nz] at hs_36); try simp only [nq] at hs_36
   iterate 4 refine .O ?_
   iterate 2 refine .P ?_
   refine .nil ?_
   refine .as 27 (.bool z0) rfl (congrArg Value.bool (by first | exact joinF1 hs_31 hz0 | exact joinF2 hs_36 hz0 | exact joinT hs_31 hs_36 hz1 hz0)) ?_
   exact .J (trivial)
  (try simp only [nz] at hs_31); try simp only [nq] at hs_31
  iterate 3 refine .O ?_
  iterate 2 refine .P ?_
  iterate 4 refine .O ?_
  iterate 2 refine .P ?_
  refine .nil ?_
  refine .as 27 (.bool z0) rfl (congrArg Value.bool (by first | exact joinF1 hs_31 hz0 | exact joinF2 hs_36 hz0 | exact joinT hs_31 hs_36 hz1 hz0)) ?_
  exact .J (trivial)
 refine .cond rfl (fun ht27 => ?_) (fun ht27 => ?_)
 ·refine .seq (.region ?_)
  iterate 2 refine .P ?_
  refine .nil (.seq (.ret (.blk (.seq ?_))))
  exact .end_ rfl rfl (fun m hm => ⟨(_, 0), TwoP.good he (AsgT.of hx_ hy_ (⟨fun _ => AsgX.vals (hz0.1 ht27), fun _ => rfl⟩)), rfl, hm.ext, News.nil _ _⟩)
 refine .seq (.region (.F fa50_0 ?_))
 refine .L ag3 ?_
 iterate 2 refine .P ?_
 refine .nil (.seq ?_)
 refine .cond rfl (fun ht42 => ?_) (fun ht42 => ?_)
 ·(try simp only [nz] at ht42); try simp only [nq] at ht42
  refine .seq (.region (.F fa50_0 ?_))
  refine .L ag3 ?_
  iterate 2 refine .P ?_
  refine .splitB 49 rfl (fun hs_49 => ?_) (fun hs_49 => ?_)
  ·(try simp only [nz] at hs_49); try simp only [nq] at hs_49
   iterate 3 refine .O ?_
   iterate 2 refine .P ?_
   iterate 3 refine .O ?_
   iterate 2 refine .P ?_
   iterate 3 refine .O ?_
   iterate 2 refine .P ?_
   iterate 3 refine .O ?_
   iterate 3 refine .P ?_
   refine .nil (.seq (.ret (.blk (.seq ?_))))
   exact .end_ rfl rfl (fun m hm => ⟨(_, 0), TwoP.good he (AsgT.of hx_ hy_ (by rw [AsgX.any (by omega)]; simp only [nrm_eq, true_iff]; omega)), rfl, hm.ext, News.nil _ _⟩)
  (try simp only [nz] at hs_49); try simp only [nq] at hs_49
  refine .F fa50_0 ?_
  refine .L ag3 ?_
  iterate 3 refine .P ?_
  refine .splitB 54 rfl (fun hs_54 => ?_) (fun hs_54 => ?_)
  ·(try simp only [nz] at hs_54); try simp only [nq] at hs_54
   iterate 3 refine .O ?_
   iterate 2 refine .P ?_
   iterate 3 refine .O ?_
   iterate 2 refine .P ?_
   iterate 3 refine .O ?_
   iterate 3 refine .P ?_
   refine .nil (.seq (.ret (.blk (.seq ?_))))
   exact .end_ rfl rfl (fun m hm => ⟨(_, 0), TwoP.good he (AsgT.of hx_ hy_ (by rw [AsgX.any (by omega)]; simp only [nrm_eq, true_iff]; omega)), rfl, hm.ext, News.nil _ _⟩)
  (try simp only [nz] at hs_54); try simp only [nq] at hs_54
  refine .F fa50_0 ?_
  refine .L ag3 ?_
  iterate 3 refine .P ?_
  refine .splitB 59 rfl (fun hs_59 => ?_) (fun hs_59 => ?_)
  ·(try simp only [nz] at hs_59); try simp only [nq] at hs_59
   iterate 3 refine .O ?_
   iterate 2 refine .P ?_
   iterate 3 refine .O ?_
   iterate 3 refine .P ?_
   refine .nil (.seq (.ret (.blk (.seq ?_))))
   exact .end_ rfl rfl (fun m hm => ⟨(_, 0), TwoP.good he (AsgT.of hx_ hy_ (by rw [AsgX.any (by omega)]; simp only [nrm_eq, true_iff]; omega)), rfl, hm.ext, News.nil _ _⟩)
  (try simp only [nz] at hs_59); try simp only [nq] at hs_59
  refine .F fa50_0 ?_
  refine .L ag3 ?_
  iterate 3 refine .P ?_
  refine .splitB 64 rfl (fun hs_64 => ?_) (fun hs_64 => ?_)
  ·(try simp only [nz] at hs_64); try simp only [nq] at hs_64
   iterate 3 refine .O ?_
   iterate 3 refine .P ?_
   refine .nil (.seq (.ret (.blk (.seq ?_))))
   exact .end_ rfl rfl (fun m hm => ⟨(_, 0), TwoP.good he (AsgT.of hx_ hy_ (by rw [AsgX.any (by omega)]; simp only [nrm_eq, true_iff]; omega)), rfl, hm.ext, News.nil _ _⟩)
  (try simp only [nz] at hs_64); try simp only [nq] at hs_64
  refine .F fa50_0 ?_
  refine .L ag3 ?_
  iterate 4 refine .P ?_
  refine .nil (.seq (.ret (.blk (.seq ?_))))
  exact .end_ rfl rfl (fun m hm => ⟨(eqI x_.kind 13, 0), TwoP.good he (AsgT.of hx_ hy_ (by rw [AsgX.any (by omega)]; simp only [nrm_eq]; omega)), rfl, hm.ext, News.nil _ _⟩)
 (try simp only [nz] at ht42); try simp only [nq] at ht42
 refine .skip (.blk (.seq (.seq ?_)))
 refine .D [(15, 0), (3, 1), (15, 3), (15, 7), (15, 15), (3, 31), (15, 63), (15, 127), (15, 255), (15, 511), (3, 1023), (15, 2047), (15, 4095), (15, 8191), (15, 16383), (3, 32767), (15, 65535), (15, 131071), (15, 262143), (15, 524287), (15, 524287), (3, 1572863), (15, 3670015), (3, 7864319), (15, 524287), (3, 17301503), (15, 50855935), (3, 117964799), (7, 268435455), (15, 536870911), (15, 1073741823), (15, 2147483647)] (by kernel_rfl) (by kernel_rfl) (fun base hbase hB => ?_)
 refine .F fa50_0 ?_
 refine .load rfl rfl rfl rfl rfl rfl rfl rfl ag3 (by repeat first | exact .head | exact .app .head | exact .base ‹_› ‹_› (by simp) | refine .tail ?_ | refine .app ?_) rfl ?_
 iterate 2 refine .P ?_
 refine .splitB 72 rfl (fun hs_72 => ?_) (fun hs_72 => ?_)
 ·(try simp only [nz] at hs_72); try simp only [nq] at hs_72
  refine .F fa50_0 ?_
  refine .load rfl rfl rfl rfl rfl rfl rfl rfl ag3 (by repeat first | exact .head | exact .app .head | exact .base ‹_› ‹_› (by simp) | refine .tail ?_ | refine .app ?_) rfl ?_
  iterate 3 refine .P ?_
  refine .splitB 77 rfl (fun hs_77 => ?_) (fun hs_77 => ?_)
  ·(try simp only [nz] at hs_77); try simp only [nq] at hs_77
   refine .F fa50_2 ?_
   refine .load rfl rfl rfl rfl rfl rfl rfl rfl ag9 (by repeat first | exact .head | exact .app .head | exact .base ‹_› ‹_› (by simp) | refine .tail ?_ | refine .app ?_) rfl ?_
   iterate 3 refine .P ?_
   refine .splitB 82 rfl (fun hs_82 => ?_) (fun hs_82 => ?_)
   ·(try simp only [nz] at hs_82); try simp only [nq] at hs_82
    refine .F fa50_2 ?_
    refine .load rfl rfl rfl rfl rfl rfl rfl rfl ag9 (by repeat first | exact .head | exact .app .head | exact .base ‹_› ‹_› (by simp) | refine .tail ?_ | refine .app ?_) rfl ?_
    iterate 3 refine .P ?_
    refine .splitB 87 rfl (fun hs_87 => ?_) (fun hs_87 => ?_)
    ·(try simp only [nz] at hs_87); try simp only [nq] at hs_87
     have hshx := (single_zero (hWl.all p x_ hx_)).1
     have hshy := (single_zero (hWl.all q y_ hy_)).1
     unfold shapedB at hshx hshy
     have hshx := (of_decide_eq_true hshx).1
     have hshy := (of_decide_eq_true hshy).1
     unfold shapeP at hshx hshy
     have hltE : 0 < x_.elems.length := by omega
     have hltG : 0 < y_.elems.length := by omega
     obtain ⟨p0, hp0⟩ : ∃ w_, x_.elems[0]? = some w_ := ⟨_, List.getElem?_eq_getElem hltE⟩
     rcases heX with ⟨e0, -⟩ | ⟨bE, offE, csE, elE, gE, mdE, mateE, rfl, ⟨hbE, hhE⟩, hleE, hcE⟩
     ·rw [e0] at hltE; simp at hltE
     have hrp := hcE 0 p0 hp0
     obtain ⟨q0, hq0_⟩ : ∃ w_, y_.elems[0]? = some w_ := ⟨_, List.getElem?_eq_getElem hltG⟩
     rcases heY with ⟨e0, -⟩ | ⟨bG, offG, csG, elG, gG, mdG, mateG, rfl, ⟨hbG, hhG⟩, hleG, hcG⟩
     ·rw [e0] at hltG; simp at hltG
     have hrq := hcG 0 q0 hq0_
     obtain ⟨p2, rfl, hpl⟩ := parts_in (hsnd p x_ hx_) (parts_elem hp0)
     obtain ⟨q2, rfl, hql⟩ := parts_in (hsnd q y_ hy_) (parts_elem hq0_)
     refine .P ?_
     refine .F fa50_1 ?_
     refine .load rfl rfl rfl rfl rfl rfl rfl rfl ag32 (by repeat first | exact .head | exact .app .head | exact .base ‹_› ‹_› (by simp) | refine .tail ?_ | refine .app ?_) rfl ?_
     refine .K Tryz.underlying32 sz3 ?_
     refine .M ag3 (.base hhE hbE (by simp)) (cell_of_take hrp (k := 0) rfl) ?_
     refine .F fa50_1 ?_
     refine .load rfl rfl rfl rfl rfl rfl rfl rfl ag32 (by repeat first | exact .head | exact .app .head | exact .base ‹_› ‹_› (by simp) | refine .tail ?_ | refine .app ?_) rfl ?_
     refine .K Tryz.underlying32 sz3 ?_
     refine .M ag3 (.base hhG hbG (by simp)) (cell_of_take hrq (k := 0) rfl) ?_
     refine .calln _ _ _ rfl rfl rfl rfl rfl rfl rfl rfl rfl (fun m hm => equal_ok hm.lole (hlS0.mono (Mem.kr hm) (RTy.mono (Mem.kr hm))) hWl hpl hql) (fun z2 hz2 => ?_)
     iterate 3 refine .P ?_
     refine .nil (.seq (.ret ?_))
     exact .end_ rfl rfl (fun m hm => ⟨(_, 0), TwoP.good he (AsgT.of hx_ hy_ (AsgX.ref (fun h => (by rw [hz0.2 h] at ht27; cases ht27)) (by omega) ⟨by omega, by omega, by omega, by omega⟩ hp0 hq0_ hz2)), rfl, hm.ext, News.nil _ _⟩)
    (try simp only [nz] at hs_87); try simp only [nq] at hs_87
    iterate 10 refine .O ?_
    iterate 3 refine .P ?_
    refine .nil (.seq (.ret ?_))
    exact .end_ rfl rfl (fun m hm => ⟨(_, 0), TwoP.good he (AsgT.of hx_ hy_ ((by constructor; (intro h_; cases h_); exact fun h_ => absurd h_ (AsgX.other (fun h => (by rw [hz0.2 h] at ht27; cases ht27)) (by omega) (by omega))))), rfl, hm.ext, News.nil _ _⟩)
   (try simp only [nz] at hs_82); try simp only [nq] at hs_82
   iterate 3 refine .O ?_
   iterate 2 refine .P ?_
   iterate 10 refine .O ?_
   iterate 3 refine .P ?_
   refine .nil (.seq (.ret ?_))
   exact .end_ rfl rfl (fun m hm => ⟨(_, 0), TwoP.good he (AsgT.of hx_ hy_ ((by constructor; (intro h_; cases h_); exact fun h_ => absurd h_ (AsgX.other (fun h => (by rw [hz0.2 h] at ht27; cases ht27)) (by omega) (by omega))))), rfl, hm.ext, News.nil _ _⟩)
  (try simp only [nz] at hs_77); try simp only [nq] at hs_77
  iterate 3 refine .O ?_
  iterate 2 refine .P ?_
  iterate 3 refine .O ?_
  iterate 2 refine .P ?_
  iterate 10 refine .O ?_
  iterate 3 refine .P ?_
  refine .nil (.seq (.ret ?_))
  exact .end_ rfl rfl (fun m hm => ⟨(_, 0), TwoP.good he (AsgT.of hx_ hy_ ((by constructor; (intro h_; cases h_); exact fun h_ => absurd h_ (AsgX.other (fun h => (by rw [hz0.2 h] at ht27; cases ht27)) (by omega) (by omega))))), rfl, hm.ext, News.nil _ _⟩)
 (try simp only [nz] at hs_72); try simp only [nq] at hs_72
 iterate 3 refine .O ?_
 iterate 2 refine .P ?_
 iterate 3 refine .O ?_
 iterate 2 refine .P ?_
 iterate 3 refine .O ?_
 iterate 2 refine .P ?_
 iterate 10 refine .O ?_
 iterate 3 refine .P ?_
 refine .nil (.seq (.ret ?_))
 exact .end_ rfl rfl (fun m hm => ⟨(_, 0), TwoP.good he (AsgT.of hx_ hy_ ((by constructor; (intro h_; cases h_); exact fun h_ => absurd h_ (AsgX.other (fun h => (by rw [hz0.2 h] at ht27; cases ht27)) (by omega) (by omega))))), rfl, hm.ext, News.nil _ _⟩)

/-! The reference's comparison: the pairs that were met lie in a slice. -/

def RPr (x : Nat × Nat) (cs : List Value) : Prop := cs = [.int .i64 (Int.ofNat x.1), .int .i64 (Int.ofNat x.2)]
theorem RPr.flats : ∀ x cs, RPr x cs → flats cs = true := fun _ _ h => by rw [h]; rfl
abbrev PrSt := Gro × List Value × Prs
abbrev PrH (bp : Nat) (x : PrSt) : Hp := (bp, .cells [x.1.V x.2.2.length] 106 false .plain none) :: x.1.H 165 x.2.1
abbrev PrS (bp : Nat) (x : PrSt) : List Nat := (PrH bp x).map Prod.fst
structure MetS (n : Nat) (M : Prs) (x : PrSt) : Prop where
 flat : Flat 2 RPr x.2.2 x.2.1
 ok : x.1.Ok x.2.2.length
 mem : ∀ p, p ∈ x.2.2 ↔ p ∈ M
 few : x.2.2.length + unmet n M ≤ n * n
theorem unmet_nil (n : Nat) : unmet n [] = n * n := by
 unfold unmet
 rw [List.filter_eq_self.2 (fun _ _ => by simp), List.length_range]
theorem MetS.nil (n : Nat) : MetS n [] (.no, [], []) := ⟨Flat.nil, rfl, fun p => by simp, by rw [unmet_nil]; simp⟩
theorem MetS.put {n : Nat} {M : Prs} {g : Gro} {cs : List Value} {L : Prs} {x : PrSt} {a b : Nat} (h : MetS n M x) (ha : a < n) (hb : b < n) (hn : (a, b) ∉ M) (hL : x.2.2 ++ [(a, b)] = L) (hF : Flat 2 RPr L cs) (hO : g.Ok L.length) : MetS n ((a, b) :: M) (g, cs, L) := by
 subst hL
 refine ⟨hF, hO, fun p => ?_, ?_⟩
 ·show p ∈ x.2.2 ++ [(a, b)] ↔ _
  rw [List.mem_append, h.mem, List.mem_singleton, List.mem_cons]
  exact Or.comm
 have h1 := unmet_lt ha hb hn (M' := (a, b) :: M) (fun p hp => List.mem_cons_of_mem _ hp) List.mem_cons_self
 have h2 := h.few
 show (x.2.2 ++ [(a, b)]).length + _ ≤ _
 rw [List.length_append, List.length_singleton]
 omega
theorem MetS.small {n : Nat} {M : Prs} {x : PrSt} (h : MetS n M x) (hn : n ≤ 14) : x.2.2.length ≤ 196 := by
 have h1 := h.few
 have h2 : n * n ≤ 14 * 14 := Nat.mul_le_mul hn hn
 omega
abbrev TabR (l : List Ty) (al : Option Addr) (cl : Nat) (S : List Nat) (m : AW) : Prop := Sl (Off S m) 5 (RTy (Off S m)) l (.slice al l.length cl)
abbrev CmpR := (Bool × Prs) × PrSt
def EqQR (l : List Ty) (bp : Nat) (x : PrSt) (M : Prs) (a b : Nat) (m : AW) (v : Value) (m' : AW) : Prop := ∃ y : CmpR, (EqA l M a b y.1 ∧ MetS l.length y.1.2 y.2) ∧ v = .bool y.1.1 ∧ Knows (PrS bp x) m m' (PrH bp y.2)
def EqualR (P : Program) (l : List Ty) (al : Option Addr) (cl bp n a b : Nat) : Prop := ∀ (m : AW) (x : PrSt) (M : Prs), m.lo ≤ m.next → Knows (PrS bp x) m m (PrH bp x) → MetS l.length M x → Bnd l M → TabR l al cl (PrS bp x) m → unmet l.length M < n → Fc P 65 [ptr bp, .slice al l.length cl, .int .i64 (Int.ofNat a), .int .i64 (Int.ofNat b)] m (EqQR l bp x M a b m)
def RelQR (l : List Ty) (bp : Nat) (x : PrSt) (M : Prs) (Py : (Nat → Nat → Prop) → Prop) (m : AW) (v : Value) (m' : AW) : Prop := ∃ y : CmpR, (RelA l M Py y.1 ∧ MetS l.length y.1.2 y.2) ∧ v = .bool y.1.1 ∧ Knows (PrS bp x) m m' (PrH bp y.2)
theorem pr_perm {G : Hp} {z w : Nat × AObj} : (G ++ [z, w]).Perm (w :: (G ++ [z])) := by
 have : G ++ [z, w] = (G ++ [z]) ++ [w] := by simp
 rw [this]
 exact List.perm_append_comm
/-- The members or fields are compared last. -/
theorem EqA.last {l : List Ty} {M M1 : Prs} {a b : Nat} {x y : Ty} {P : Prop} {z : Bool × Prs} {Py : (Nat → Nat → Prop) → Prop} (hb8 : Sound8 l) (hx : l[a]? = some x) (hy : l[b]? = some y) (hh : HeadR x y) (hR : RowA l ((a, b) :: M) M1 P) (he : ElsR (InM M1) x.elems y.elems) (hA : ArmsR (InM M1) x.arms y.arms) (hz : RelA l M1 Py z) (hPy : ∀ R, Py R ↔ (if x.kind = 13 then MemR R x.fields y.fields else FldsR R x.fields y.fields)) : EqA l M a b z := by
 obtain ⟨zb, M2⟩ := z
 cases zb with
 | true =>
  obtain ⟨h1, h2⟩ := hz.yes rfl
  exact EqA.close (P := True) hx hy ⟨hR.grown.trans hz.grown, fun h => hz.bnd (hR.bnd h), hR.closed.trans h1 hz.grown, trivial⟩ ⟨hh, he.mono (InM.mono hz.grown), (hPy _).1 h2, hA.mono (InM.mono hz.grown)⟩
 | false =>
  refine EqA.fail (fun p hp => hz.grown _ (hR.grown _ (List.mem_cons_of_mem _ hp))) (fun hM => hz.bnd (hR.bnd fun p hp => ?_)) fun h => hz.no rfl ((hPy _).2 (h.ty hb8 hx hy).flds)
  rcases List.mem_cons.1 hp with rfl | hp
  ·exact ⟨(List.getElem?_eq_some_iff.1 hx).1, (List.getElem?_eq_some_iff.1 hy).1⟩
  ·exact hM p hp
/-! Fields that are sorted by their names. -/

theorem lt_irrefl : ∀ l : List UInt8, ltBytes l l = false
 | [] => rfl
 | a :: l => by
  unfold ltBytes
  rw [nblt, nbeq, decide_eq_false (Nat.lt_irrefl _), decide_eq_true rfl]
  exact lt_irrefl l
theorem lt_total : ∀ a b : List UInt8, ltBytes a b = false → ltBytes b a = false → a = b
 | [], [], _, _ => rfl
 | [], _ :: _, h, _ => by cases h
 | _ :: _, [], _, h => by cases h
 | a :: x, b :: y, h1, h2 => by
  unfold ltBytes at h1 h2
  rw [nblt, nbeq] at h1 h2
  by_cases e : a.toNat < b.toNat
  ·rw [decide_eq_true e] at h1
   cases h1
  ·by_cases e2 : b.toNat < a.toNat
   ·rw [decide_eq_true e2] at h2
    cases h2
   ·have e3 : a.toNat = b.toNat := by omega
    rw [decide_eq_false e, decide_eq_true e3] at h1
    rw [decide_eq_false e2, decide_eq_true e3.symm] at h2
    rw [lt_total x y h1 h2, UInt8.toNat_inj.1 e3]
theorem lt_trans : ∀ a b c : List UInt8, ltBytes a b = true → ltBytes b c = true → ltBytes a c = true
 | [], [], [], h, _ => h
 | [], _ :: _, [], _, h => by cases h
 | [], [], _ :: _, h, _ => by cases h
 | [], _ :: _, _ :: _, _, _ => rfl
 | _ :: _, [], _, h, _ => by cases h
 | _ :: _, _ :: _, [], _, h => by cases h
 | a :: x, b :: y, c :: z, h1, h2 => by
  unfold ltBytes at h1 h2 ⊢
  rw [nblt, nbeq] at h1 h2 ⊢
  by_cases e : a.toNat < c.toNat
  ·rw [decide_eq_true e]
   rfl
  ·by_cases e1 : a.toNat < b.toNat
   ·by_cases e2 : b.toNat < c.toNat
    ·omega
    ·rw [decide_eq_false e2] at h2
     by_cases e3 : b.toNat = c.toNat
     ·omega
     ·rw [decide_eq_false e3] at h2
      cases h2
   ·rw [decide_eq_false e1] at h1
    by_cases e3 : a.toNat = b.toNat
    ·rw [decide_eq_true e3] at h1
     by_cases e2 : b.toNat < c.toNat
     ·omega
     ·rw [decide_eq_false e2] at h2
      by_cases e4 : b.toNat = c.toNat
      ·rw [decide_eq_true e4] at h2
       rw [decide_eq_false e, decide_eq_true (e3.trans e4)]
       exact lt_trans x y z h1 h2
      ·rw [decide_eq_false e4] at h2
       cases h2
    ·rw [decide_eq_false e3] at h1
     cases h1
def lessN (a b : ByteArray) : Bool := ltBytes a.data.toList b.data.toList
def insF (f : Fld) : List Fld → List Fld
 | [] => [f]
 | g :: r => if lessN g.name f.name = true then g :: insF f r else f :: g :: r
def sortF (L : List Fld) : List Fld := L.foldl (fun out f => insF f out) []
theorem insF_at {f : Fld} : ∀ {out : List Fld} {k : Nat}, k ≤ out.length → (∀ (j : Nat) g, j < k → out[j]? = some g → lessN g.name f.name = true) → (∀ g, out[k]? = some g → lessN g.name f.name = false) → out.take k ++ [f] ++ out.drop k = insF f out
 | [], k, hk, _, _ => by
  have : k = 0 := by simpa using hk
  subst this
  rfl
 | g :: r, 0, _, _, h2 => by
  unfold insF
  rw [if_neg (by rw [h2 g rfl]; decide)]
  rfl
 | g :: r, k + 1, hk, h1, h2 => by
  unfold insF
  rw [if_pos (h1 0 g (by omega) rfl)]
  have := insF_at (f := f) (out := r) (k := k) (by simpa using hk) (fun j x hj hx => h1 (j + 1) x (by omega) (by simpa using hx)) (fun x hx => h2 x (by simpa using hx))
  rw [← this]
  simp
theorem sortF_snoc (L : List Fld) (f : Fld) : sortF (L ++ [f]) = insF f (sortF L) := by
 unfold sortF
 rw [List.foldl_append]
 rfl
theorem insF_perm (f : Fld) : ∀ out : List Fld, (insF f out).Perm (f :: out)
 | [] => .refl _
 | g :: r => by
  unfold insF
  split
  ·exact ((insF_perm f r).cons g).trans (.swap _ _ _)
  ·exact .refl _
theorem foldl_perm : ∀ (L out : List Fld), (L.foldl (fun out f => insF f out) out).Perm (L ++ out)
 | [], _ => .refl _
 | f :: L, out => (foldl_perm L (insF f out)).trans (((insF_perm f out).append_left L).trans List.perm_middle)
theorem sortF_perm (L : List Fld) : (sortF L).Perm L := by
 have := foldl_perm L []
 rwa [List.append_nil] at this
def Asc (L : List Fld) : Prop := L.Pairwise fun f g => lessN g.name f.name = false
theorem insF_asc {f : Fld} : ∀ {out : List Fld}, Asc out → Asc (insF f out)
 | [], _ => List.pairwise_singleton _ _
 | g :: r, h => by
  unfold insF
  have h1 := List.pairwise_cons.1 h
  split
  ·rename_i hlt
   refine List.pairwise_cons.2 ⟨fun x hx => ?_, insF_asc h1.2⟩
   rcases List.mem_cons.1 ((insF_perm f r).mem_iff.1 hx) with rfl | hx
   ·cases hb : lessN x.name g.name with
    | false => rfl
    | true =>
     have := lt_trans _ _ _ hlt hb
     rw [lt_irrefl] at this
     cases this
   ·exact h1.1 x hx
  ·rename_i hlt
   refine List.pairwise_cons.2 ⟨fun x hx => ?_, h⟩
   have hgf : lessN g.name f.name = false := by simpa using hlt
   rcases List.mem_cons.1 hx with rfl | hx
   ·exact hgf
   ·cases hb : lessN x.name f.name with
    | false => rfl
    | true =>
     have hxg := h1.1 x hx
     cases hfg : lessN f.name g.name with
     | true =>
      have := lt_trans _ _ _ hb hfg
      rw [show ltBytes x.name.data.toList g.name.data.toList = lessN x.name g.name from rfl, hxg] at this
      cases this
     | false =>
      have he : g.name.data.toList = f.name.data.toList := lt_total _ _ hgf hfg
      unfold lessN at hb hxg
      rw [he, hb] at hxg
      cases hxg
theorem foldl_asc : ∀ (L : List Fld) {out : List Fld}, Asc out → Asc (L.foldl (fun out f => insF f out) out)
 | [], _, h => h
 | _ :: L, _, h => foldl_asc L (insF_asc h)
theorem sortF_asc (L : List Fld) : Asc (sortF L) := foldl_asc L List.Pairwise.nil
theorem fnames_perm {L L' : List Fld} (h : L.Perm L') : (fnames L).Perm (fnames L') := h.map _
theorem asc_names : ∀ {A B : List ByteArray}, A.Pairwise (fun f g => lessN g f = false) → B.Pairwise (fun f g => lessN g f = false) → A.Perm B → A = B
 | [], B, _, _, h => (List.nil_perm.1 h).symm
 | a :: A, [], _, _, h => absurd h.length_eq (by simp)
 | a :: A, b :: B, hA, hB, h => by
  have e : a = b := by
   have h1 := List.pairwise_cons.1 hA
   have h2 := List.pairwise_cons.1 hB
   have hb : b ∈ a :: A := h.mem_iff.2 List.mem_cons_self
   have ha : a ∈ b :: B := h.mem_iff.1 List.mem_cons_self
   rcases List.mem_cons.1 hb with e | hb
   ·exact e.symm
   rcases List.mem_cons.1 ha with e | ha
   ·exact e
   exact bytes_ext (lt_total _ _ (h2.1 a ha) (h1.1 b hb))
  subst e
  rw [asc_names (List.pairwise_cons.1 hA).2 (List.pairwise_cons.1 hB).2 (h.cons_inv)]
theorem Asc.names {L : List Fld} (h : Asc L) : (fnames L).Pairwise (fun f g => lessN g f = false) := List.pairwise_map.2 h
theorem sub_perm : ∀ {A B : List ByteArray}, A.Nodup → (∀ x, x ∈ A → x ∈ B) → A.length = B.length → A.Perm B
 | [], B, _, _, h => by rw [List.eq_nil_of_length_eq_zero h.symm]
 | a :: A, B, hA, hs, hl => by
  obtain ⟨B1, B2, rfl⟩ := List.append_of_mem (hs a List.mem_cons_self)
  have h1 := List.nodup_cons.1 hA
  have := sub_perm (A := A) (B := B1 ++ B2) h1.2 (fun x hx => by
   have := hs x (List.mem_cons_of_mem _ hx)
   simp only [List.mem_append, List.mem_cons] at this ⊢
   rcases this with h | rfl | h
   ·exact .inl h
   ·exact absurd hx h1.1
   ·exact .inr h) (by simp at hl ⊢; omega)
  exact (this.cons a).trans List.perm_middle.symm
theorem sortF_len (L : List Fld) : (sortF L).length = L.length := (sortF_perm L).length_eq
/-- Sorted members agree one by one if the members agree by their names. -/
theorem sortF_rel {R : Nat → Nat → Prop} {L L' : List Fld} (h1 : (fnames L).Nodup) (h2 : (fnames L').Nodup) : FldsR R (sortF L) (sortF L') ↔ MemR R L L' := by
 constructor
 ·rintro ⟨hl, h⟩
  refine ⟨by rw [← sortF_len L, ← sortF_len L', hl], fun f hf => ?_⟩
  obtain ⟨i, hi⟩ := List.getElem?_of_mem ((sortF_perm L).mem_iff.2 hf)
  obtain ⟨g, hg⟩ : ∃ g, (sortF L')[i]? = some g := ⟨_, List.getElem?_eq_getElem (by have := (List.getElem?_eq_some_iff.1 hi).1; omega)⟩
  obtain ⟨e1, e2⟩ := h i f g hi hg
  exact ⟨g, (sortF_perm L').mem_iff.1 (List.mem_of_getElem? hg), e1.symm, e2⟩
 rintro ⟨hl, h⟩
 have hp : (fnames L).Perm (fnames L') := sub_perm h1 (fun x hx => by
  obtain ⟨f, hf, rfl⟩ := List.mem_map.1 hx
  obtain ⟨g, hg, hn, _⟩ := h f hf
  exact List.mem_map.2 ⟨g, hg, hn⟩) (by simp [fnames, hl])
 have he : fnames (sortF L) = fnames (sortF L') := asc_names (sortF_asc L).names (sortF_asc L').names ((fnames_perm (sortF_perm L)).trans (hp.trans (fnames_perm (sortF_perm L')).symm))
 refine ⟨by rw [sortF_len, sortF_len, hl], fun i f g hf hg => ?_⟩
 have hn : f.name = g.name := by
  have a1 := fnames_get hf
  have a2 := fnames_get hg
  rw [he, a2] at a1
  exact (Option.some.inj a1).symm
 refine ⟨hn, ?_⟩
 obtain ⟨g', k1, k2, k3⟩ := h f ((sortF_perm L).mem_iff.1 (List.mem_of_getElem? hf))
 have := mem_one h2 k1 ((sortF_perm L').mem_iff.1 (List.mem_of_getElem? hg)) (k2.trans hn)
 subst this
 exact k3
theorem rfields_ok {l : List Ty} {al : Option Addr} {cl bp n : Nat} {M : Prs} {x0 : PrSt} {L L2 : List Fld} {va vb : Value} {m : AW} (hm : m.lo ≤ m.next) (hk : Knows (PrS bp x0) m m (PrH bp x0)) (hM : MetS l.length M x0) (hBd : Bnd l M) (hlS : TabR l al cl (PrS bp x0) m) (hn : unmet l.length M < n) (heq : ∀ p q : Nat, p < l.length → q < l.length → EqualR Tryz.prog l al cl bp n p q) (hfa : Sl (Off (PrS bp x0) m) 2 RFld L va) (hfb : Sl (Off (PrS bp x0) m) 2 RFld L2 vb) (hL : ∀ (j : Nat) (f : Fld), L[j]? = some f → ∃ q : Nat, f.type = Int.ofNat q ∧ q < l.length) (hL2 : ∀ (j : Nat) (f : Fld), L2[j]? = some f → ∃ q : Nat, f.type = Int.ofNat q ∧ q < l.length) : Fc Tryz.prog 106 [ptr bp, .slice al l.length cl, va, vb] m fun v m' => RelQR l bp x0 M (fun R => FldsR R L L2) m v m' := by
 obtain ⟨aa, ca, rfl, hna, hfa⟩ := hfa
 obtain ⟨ab, cb, rfl, hnb, hfb⟩ := hfb
 have hM0 := hM
 have hB0 := hBd
 have hn0 := hn
 refine Fc.bodyS (S := PrS bp x0) (c := _) Tryz.func106 rfl rfl rfl rfl hk ?_
 refine .seq (.region (.P ?_))
 refine .nil (.seq (.seq (.seq (.region (.P ?_)))))
 refine .G (ln47 ..) ?_
 refine .P ?_
 refine .G (ln47 ..) ?_
 refine .P ?_
 refine .nil (.seq ?_)
 refine .cond rfl (fun ht14 => ?_) (fun ht14 => ?_)
 ·try simp only [nz] at ht14
  refine .seq (.region (.P ?_))
  refine .nil (.seq (.ret (.seq ?_)))
  exact .end_ rfl rfl (fun m hm => ⟨((false, M), x0), ⟨RelA.fail (Grown.refl _) id fun h => absurd h.1 (by omega), hM⟩, rfl, hm⟩)
 try simp only [nz] at ht14
 have hll : L.length = L2.length := by omega
 refine .skip (.seq (.seq (.seq (.region (.P ?_)))))
 refine .nil (.seq (.block ?_))
 refine .loop (α := Nat × Prs × PrSt) (fun q => [(0, ptr bp), (1, .slice al l.length cl), (2, .slice aa L.length ca), (3, .slice ab L2.length cb), (9, .int .i64 (Int.ofNat (q.1)))]) (fun q => PrH bp q.2.2) (fun q => q.1 ≤ L.length ∧ RowA l M q.2.1 (FldsU (InM q.2.1) L L2 q.1) ∧ MetS l.length q.2.1 q.2.2) (fun q => L.length - q.1) (0, M, x0) ⟨Nat.zero_le _, RowA.init (fun _ _ _ h => absurd h (Nat.not_lt_zero _)), hM0⟩ ⟨rfl, rfl, rfl, rfl, rfl, trivial⟩ (.refl _) (fun q hq0 => ?_)
 obtain ⟨i, M1, x1⟩ := q
 obtain ⟨hi, hR, hM1⟩ := hq0
 simp only at hi hR hM1
 have hB1 := hR.bnd hB0
 have hu1 := Nat.lt_of_le_of_lt (unmet_le (n := l.length) hR.grown) hn0
 refine .seq (.seq (.region ?_))
 iterate 2 refine .P ?_
 refine .G (ln47 ..) ?_
 refine .P ?_
 refine .nil (.seq ?_)
 refine .cond rfl (fun ht18 => ?_) (fun ht18 => ?_)
 ·try simp only [nz] at ht18
  have hltA : i < L.length := by omega
  obtain ⟨f, hf⟩ : ∃ w_, L[i]? = some w_ := ⟨_, List.getElem?_eq_getElem hltA⟩
  rcases hfa with ⟨e0, -⟩ | ⟨bA, offA, csA, elA, gA, mdA, mateA, rfl, ⟨hbA, hhA⟩, hleA, hcA⟩
  ·rw [e0] at hltA; simp at hltA
  have hrf := hcA i f hf
  have hltB : i < L2.length := by omega
  obtain ⟨g_, hg⟩ : ∃ w_, L2[i]? = some w_ := ⟨_, List.getElem?_eq_getElem hltB⟩
  rcases hfb with ⟨e0, -⟩ | ⟨bB, offB, csB, elB, gB, mdB, mateB, rfl, ⟨hbB, hhB⟩, hleB, hcB⟩
  ·rw [e0] at hltB; simp at hltB
  have hrg := hcB i g_ hg
  obtain ⟨p, hp0, hpl⟩ := hL i f hf
  obtain ⟨q, hq0, hql⟩ := hL2 i g_ hg
  refine .skip (.seq (.seq (.block (.seq ?_))))
  refine .D [(15, 0), (15, 0), (15, 3), (15, 7), (3, 15), (15, 0), (15, 0), (15, 96), (15, 224), (3, 480), (15, 1023), (15, 2047), (15, 4095), (15, 4095), (15, 4095), (15, 4095), (15, 53247), (15, 118783), (3, 249855), (15, 4095), (15, 4095), (15, 1576959), (15, 3674111), (3, 7868415), (7, 16777215), (15, 33554431), (15, 67108863)] (by kernel_rfl) (by kernel_rfl) (fun base hbase hB => ?_)
  iterate 2 refine .P ?_
  refine .K Tryz.underlying47 sz132 ?_
  refine .F fa132_0 ?_
  refine .M ag9 (Off.sees rfl rfl _ _ ⟨hbA, hhA⟩) (cell_of_take hrf (k := 0) rfl) ?_
  iterate 2 refine .P ?_
  refine .K Tryz.underlying47 sz132 ?_
  refine .F fa132_0 ?_
  refine .M ag9 (Off.sees rfl rfl _ _ ⟨hbB, hhB⟩) (cell_of_take hrg (k := 0) rfl) ?_
  iterate 2 refine .P ?_
  refine .splitB 32 rfl (fun hs_32 => ?_) (fun hs_32 => ?_)
  ·try simp only [nz] at hs_32
   have hnn : f.name ≠ g_.name := by assumption
   iterate 14 refine .O ?_
   refine .P ?_
   refine .nil (.seq (.cond_true rfl (.seq (.region (.P ?_)))))
   refine .nil (.seq (.ret (.blk (.seq (.loop (.blk (.seq ?_)))))))
   exact .end_ rfl rfl (fun m hm => ⟨((false, M1), x1), ⟨RelA.fail hR.grown hR.bnd fun h => hnn (h.2 i f g_ hf hg).1, hM1⟩, rfl, hm⟩)
  try simp only [nz] at hs_32
  have hnn : f.name = g_.name := by assumption
  iterate 4 refine .P ?_
  refine .K Tryz.underlying47 sz132 ?_
  refine .F fa132_1 ?_
  refine .M ag3 (Off.sees rfl rfl _ _ ⟨hbA, hhA⟩) (cell_of_take hrf (k := 1) rfl) ?_
  refine .as 39 (.int .i64 (Int.ofNat p)) rfl (congrArg (Value.int .i64) hp0) ?_
  iterate 2 refine .P ?_
  refine .K Tryz.underlying47 sz132 ?_
  refine .F fa132_1 ?_
  refine .M ag3 (Off.sees rfl rfl _ _ ⟨hbB, hhB⟩) (cell_of_take hrg (k := 1) rfl) ?_
  refine .as 44 (.int .i64 (Int.ofNat q)) rfl (congrArg (Value.int .i64) hq0) ?_
  refine .callc (fun y : CmpR => EqA l M1 p q y.1 ∧ MetS l.length y.1.2 y.2) (fun y => .bool y.1.1) (fun y => PrH bp y.2) .all rfl rfl (by kernel_rfl) (by kernel_rfl) rfl rfl rfl rfl rfl rfl (fun m2 g0 g2 gb gr => heq p q hpl hql m2 x1 M1 g0 g2 hM1 hB1 (hlS.mono gb (RTy.mono gb)) hu1) (fun y hy => ?_)
  refine .p rfl rfl rfl rfl rfl (.p rfl rfl rfl rfl rfl (.of (.nil (.seq ?_))))
  refine .cond rfl (fun ht47 => ?_) (fun ht47 => ?_)
  ·obtain ⟨hy, hyM⟩ := hy
   have hyf : y.1.1 = false := by cases h_ : y.1.1 with | false => rfl | true => rw [h_] at ht47; cases ht47
   refine .seq (.region (.P ?_))
   refine .nil (.seq (.ret (.blk (.seq (.loop (.blk (.seq ?_)))))))
   exact .end_ rfl rfl (fun m hm => ⟨((false, y.1.2), y.2), ⟨RelA.fail (hR.grown.trans hy.grown) (fun h => hy.bnd (hR.bnd h)) fun h => hy.no hyf (by have := (h.2 i f g_ hf hg).2; rw [hp0, hq0] at this; exact this.nat), hyM⟩, rfl, hm.sub (List.sublist_append_left _ _)⟩)
  obtain ⟨hy, hyM⟩ := hy
  have hyt : y.1.1 = true := by cases h_ : y.1.1 with | true => rfl | false => rw [h_] at ht47; cases ht47
  refine .skip (.blk (.seq (.region ?_)))
  iterate 2 refine .P ?_
  refine .W 20 i ?_
  refine .P ?_
  refine .nil ?_
  exact .loop (i + 1, y.1.2, y.2) ⟨by omega, hR.more hy hyt (hR.all.succ hy.grown hf hg hnn ⟨p, q, hp0, hq0, (hy.yes hyt).1⟩), hyM⟩ (by show L.length - (i + 1) < L.length - i; omega) ⟨rfl, rfl, rfl, rfl, rfl, trivial⟩ (List.sublist_append_left _ _)
 try simp only [nz] at ht18
 refine .exit (.seq (.loop (.here (.seq (.seq (.region (.P ?_)))))))
 refine .nil (.seq (.ret ?_))
 exact .end_ rfl rfl (fun m hm => ⟨((true, M1), x1), ⟨RelA.good hR (hR.all.all hll (by omega)), hM1⟩, rfl, hm⟩)
theorem Gro.len {g : Gro} {n : Nat} (h : g.Ok n) : ∃ a c, g.V n = .slice a n c := by
 cases g with
 | no =>
  have : n = 0 := h
  subst this
  exact ⟨none, 0, rfl⟩
 | emp b =>
  have : n = 0 := h
  subst this
  exact ⟨_, 0, rfl⟩
 | one b => exact ⟨_, _, rfl⟩
 | two b b0 old => exact ⟨_, _, rfl⟩
theorem sorted_ok {L : List Fld} {vl : Value} {m : AW} (hm : m.lo ≤ m.next) (hlS : Sl (Mem m) 2 RFld L vl) (hL : L.length ≤ 1000) : Fc Tryz.prog 107 [vl] m fun v m' => ∃ z : Gro × List Value, (Flat 2 RFld (sortF L) z.2 ∧ z.1.Ok (sortF L).length) ∧ v = z.1.V (sortF L).length ∧ Ext m m' ∧ News m m' (z.1.H 132 z.2) := by
 obtain ⟨aL, cL, rfl, hnL, hl⟩ := hlS
 refine Fc.body (c := _) Tryz.func107 rfl rfl rfl rfl hm ?_
 refine .seq (.region (.P ?_))
 refine .nil (.seq (.seq (.region (.P ?_))))
 refine .nil (.seq (.seq (.seq (.region (.P ?_)))))
 refine .nil (.seq (.block ?_))
 refine .loop (α := Nat × Gro × List Value × List Fld) (fun q => [(0, .slice aL L.length cL), (3, q.2.1.V q.2.2.2.length), (4, .int .i64 (Int.ofNat q.1))]) (fun q => q.2.1.H 132 q.2.2.1) (fun q => q.1 ≤ L.length ∧ q.2.2.2 = sortF (L.take q.1) ∧ q.2.2.2.length = q.1 ∧ Flat 2 RFld q.2.2.2 q.2.2.1 ∧ q.2.1.Ok q.2.2.2.length) (fun q => L.length - q.1) (0, .no, [], []) ⟨Nat.zero_le _, rfl, rfl, Flat.nil, rfl⟩ ⟨rfl, rfl, rfl, trivial⟩ (List.nil_sublist _) (fun q hq0 => ?_)
 obtain ⟨i, g_, cs_, out⟩ := q
 obtain ⟨hi, he, hlo, hF, hO⟩ := hq0
 simp only at hi he hlo hF hO
 obtain ⟨ga, gc, hV, hnG, hGs⟩ := Gro.sl (el := 132) hF hO (by omega)
 refine .seq (.seq (.region ?_))
 iterate 2 refine .P ?_
 refine .G (ln47 ..) ?_
 refine .P ?_
 refine .nil (.seq ?_)
 refine .cond rfl (fun ht10 => ?_) (fun ht10 => ?_)
 ·try simp only [nz] at ht10
  have hltA : i < L.length := by omega
  obtain ⟨f, hf⟩ : ∃ w_, L[i]? = some w_ := ⟨_, List.getElem?_eq_getElem hltA⟩
  rcases hl with ⟨e0, -⟩ | ⟨bA, offA, csA, elA, gA, mdA, mateA, rfl, ⟨hbA, hhA⟩, hleA, hcA⟩
  ·rw [e0] at hltA; simp at hltA
  have hrf := hcA i f hf
  refine .skip (.seq (.seq (.block (.seq (.region (.P ?_))))))
  refine .nil (.seq (.seq (.block ?_)))
  refine .loop (α := Nat) (fun j => [(0, .slice (some ⟨bA, offA, none⟩) L.length cL), (3, g_.V out.length), (4, .int .i64 (Int.ofNat (i))), (5, .int .i64 (Int.ofNat (j)))]) (fun j => g_.H 132 cs_) (fun j => j ≤ out.length ∧ ∀ (k : Nat) (g : Fld), k < j → out[k]? = some g → lessN g.name f.name = true) (fun j => out.length - j) 0 ⟨Nat.zero_le _, fun _ _ h => (by cases h)⟩ ⟨rfl, rfl, rfl, rfl, trivial⟩ (.refl _) (fun j hj => ?_)
  refine .seq (.seq ?_)
  refine .D [(15, 0), (15, 0), (3, 2), (15, 7), (15, 15), (15, 31), (15, 31), (15, 127), (15, 255), (3, 511), (15, 31), (15, 31), (15, 3103), (15, 7199), (3, 15391), (15, 32767), (15, 65535)] (by kernel_rfl) (by kernel_rfl) (fun base hbase hB => ?_)
  iterate 2 refine .P ?_
  refine .as 14 (.slice ga out.length gc) rfl hV ?_
  refine .len rfl rfl rfl rfl rfl rfl (ln47 ..) ?_
  iterate 2 refine .P ?_
  refine .splitB 17 rfl (fun hs_17 => ?_) (fun hs_17 => ?_)
  ·try simp only [nz] at hs_17
   obtain ⟨gx, hgx⟩ : ∃ w_, out[j]? = some w_ := ⟨_, List.getElem?_eq_getElem (by omega)⟩
   rcases hGs with ⟨e0, -⟩ | ⟨bG, offG, csG, elG, gG, mdG, mateG, rfl, hbG, hleG, hcG⟩
   ·rw [e0] at hgx; simp at hgx
   have hrG := hcG j gx hgx
   refine .P ?_
   refine .as 18 (.slice (some ⟨bG, offG, none⟩) out.length gc) rfl hV ?_
   refine .P ?_
   refine .K Tryz.underlying47 sz132 ?_
   refine .F fa132_0 ?_
   refine .M ag9 (InH.sees (l := g_.H 132 cs_) (fun p_ hp_ => hp_) _ _ hbG) (cell_of_take hrG (k := 0) rfl) ?_
   iterate 2 refine .P ?_
   refine .K Tryz.underlying47 sz132 ?_
   refine .F fa132_0 ?_
   refine .M ag9 (.base hhA hbA (by simp)) (cell_of_take hrf (k := 0) rfl) ?_
   iterate 2 refine .P ?_
   refine .nil (.seq ?_)
   refine .cond rfl (fun ht29 => ?_) (fun ht29 => ?_)
   ·refine .skip (.seq (.block (.region ?_)))
    iterate 2 refine .P ?_
    refine .W 31 j ?_
    refine .P ?_
    refine .nil (.blk ?_)
    exact .loop (j + 1) ⟨by omega, upto_succ hj.2 hgx ht29⟩ (by omega) ⟨rfl, rfl, rfl, rfl, trivial⟩ (.refl _)
   have hat : ∀ g : Fld, out[j]? = some g → lessN g.name f.name = false := fun g_ hg_ => by rw [hgx] at hg_; cases hg_; exact ht29
   obtain ⟨vr, hvr, hSr⟩ := Gro.from_ (P := Tryz.prog) (ty := 47) (k := .i64) (j := j) Tryz.underlying47 sz132 hF hO hj.1 (by omega)
   refine .exit (.seq (.loop (.here (.seq (.seq (.region ?_))))))
   refine .buildSlice rfl rfl rfl rfl rfl (bs47_0) (fun b32 hb32 => ?_)
   iterate 2 refine .P ?_
   refine .sliceFrom hvr rfl rfl rfl rfl rfl rfl ?_
   refine .appendSl (R := RFld) (l0 := []) (l := (out.drop j)) (L := (out.drop j)) (g := .emp b32) (cs := []) rfl .one Flat.nil rfl (hSr) ((InH.sees (l := g_.H 132 cs_) (fun p_ hp_ => List.mem_cons_of_mem _ hp_))) RFld.flats (by simp; omega) rfl rfl rfl rfl Tryz.underlying47 Tryz.underlying47 ap132 rfl rfl (fun g1 cs1 hF1 hO1 => ?_)
   refine .P ?_
   refine .nil (.seq ?_)
   refine .D [(15, 0), (15, 0), (15, 3), (15, 0), (15, 0), (15, 24), (3, 56), (11, 120), (7, 255), (12, 0), (7, 1023), (15, 2047)] (by kernel_rfl) (by kernel_rfl) (fun base hbase hB => ?_)
   iterate 2 refine .P ?_
   refine .sliceToV (Gro.to (k := .i64) Tryz.underlying47 sz132 hO hj.1 (by omega)) rfl rfl rfl rfl rfl rfl rfl ?_
   iterate 2 refine .P ?_
   refine .K Tryz.underlying47 sz132 ?_
   refine .loadAgg rfl rfl rfl rfl rfl rfl rfl rfl ag132 sz132 (.base hhA hbA (by simp)) (by omega) hrf ?_
   refine .buildSlice rfl rfl rfl rfl rfl rfl (bs47_1 ..) (fun b44 hn44 hb44 => ?_)
   refine .appendCut (R := RFld) (l0 := out) (l := [f]) (j := j) (L := out.take j ++ [f]) (g := g_) (cs := cs_) rfl (.tail (.over .all)) hF hO hj.1 (by simp) (Sl.single (R := RFld) (x := f) (b := b44) (c := 1) (el := 132) (g := false) (md := .plain) (mate := none) rfl rfl) (InH.sees (by intro p_ hp_; rw [List.mem_singleton.1 hp_]; exact List.mem_cons_self)) RFld.flats (by simp; omega) rfl rfl (by kernel_rfl) (by kernel_rfl) rfl rfl rfl rfl Tryz.underlying47 Tryz.underlying47 ap132 rfl rfl (fun g2 cs2 hF2 hO2 => ?_)
   refine .P ?_
   refine .appendSl (R := RFld) (l0 := (out.take j ++ [f])) (l := (out.drop j)) (L := (out.take j ++ [f] ++ out.drop j)) (g := g2) (cs := cs2) rfl .here hF2 hO2 (Gro.sl (el := 132) hF1 hO1 (by simp; omega)) ((InH.sees (l := g1.H 132 cs1) (fun p_ hp_ => List.mem_append_right _ (List.mem_cons_of_mem _ (List.mem_append_left _ hp_))))) RFld.flats (by simp; omega) rfl rfl (by kernel_rfl) (by kernel_rfl) rfl rfl rfl rfl Tryz.underlying47 Tryz.underlying47 ap132 rfl rfl (fun g3 cs3 hF3 hO3 => ?_)
   refine .P ?_
   refine .nil (.blk (.seq (.region ?_)))
   iterate 2 refine .P ?_
   refine .W 12 i ?_
   refine .P ?_
   refine .nil ?_
   exact .loop (i + 1, g3, cs3, out.take j ++ [f] ++ out.drop j) ⟨hltA, by rw [insF_at hj.1 hj.2 hat, he, ← sortF_snoc, take_succ' hf], by simp only [List.length_append, List.length_take, List.length_drop, List.length_singleton]; omega, hF3, hO3⟩ (by show L.length - (i + 1) < L.length - i; omega) ⟨rfl, rfl, rfl, trivial⟩ (List.sublist_append_left _ _)
  try simp only [nz] at hs_17
  have hat : ∀ g : Fld, out[j]? = some g → lessN g.name f.name = false := fun g_ hg_ => absurd (List.getElem?_eq_some_iff.1 hg_).1 (by omega)
  obtain ⟨vr, hvr, hSr⟩ := Gro.from_ (P := Tryz.prog) (ty := 47) (k := .i64) (j := j) Tryz.underlying47 sz132 hF hO hj.1 (by omega)
  iterate 11 refine .O ?_
  refine .P ?_
  refine .nil (.seq (.cond_false rfl (.exit (.seq (.loop (.here (.seq (.seq (.region ?_)))))))))
  refine .buildSlice rfl rfl rfl rfl rfl (bs47_0) (fun b32 hb32 => ?_)
  iterate 2 refine .P ?_
  refine .sliceFrom hvr rfl rfl rfl rfl rfl rfl ?_
  refine .appendSl (R := RFld) (l0 := []) (l := (out.drop j)) (L := (out.drop j)) (g := .emp b32) (cs := []) rfl .one Flat.nil rfl (hSr) ((InH.sees (l := g_.H 132 cs_) (fun p_ hp_ => List.mem_cons_of_mem _ hp_))) RFld.flats (by simp; omega) rfl rfl rfl rfl Tryz.underlying47 Tryz.underlying47 ap132 rfl rfl (fun g1 cs1 hF1 hO1 => ?_)
  refine .P ?_
  refine .nil (.seq ?_)
  refine .D [(15, 0), (15, 0), (15, 3), (15, 0), (15, 0), (15, 24), (3, 56), (11, 120), (7, 255), (12, 0), (7, 1023), (15, 2047)] (by kernel_rfl) (by kernel_rfl) (fun base hbase hB => ?_)
  iterate 2 refine .P ?_
  refine .sliceToV (Gro.to (k := .i64) Tryz.underlying47 sz132 hO hj.1 (by omega)) rfl rfl rfl rfl rfl rfl rfl ?_
  iterate 2 refine .P ?_
  refine .K Tryz.underlying47 sz132 ?_
  refine .loadAgg rfl rfl rfl rfl rfl rfl rfl rfl ag132 sz132 (.base hhA hbA (by simp)) (by omega) hrf ?_
  refine .buildSlice rfl rfl rfl rfl rfl rfl (bs47_1 ..) (fun b44 hn44 hb44 => ?_)
  refine .appendCut (R := RFld) (l0 := out) (l := [f]) (j := j) (L := out.take j ++ [f]) (g := g_) (cs := cs_) rfl (.tail (.over .all)) hF hO hj.1 (by simp) (Sl.single (R := RFld) (x := f) (b := b44) (c := 1) (el := 132) (g := false) (md := .plain) (mate := none) rfl rfl) (InH.sees (by intro p_ hp_; rw [List.mem_singleton.1 hp_]; exact List.mem_cons_self)) RFld.flats (by simp; omega) rfl rfl (by kernel_rfl) (by kernel_rfl) rfl rfl rfl rfl Tryz.underlying47 Tryz.underlying47 ap132 rfl rfl (fun g2 cs2 hF2 hO2 => ?_)
  refine .P ?_
  refine .appendSl (R := RFld) (l0 := (out.take j ++ [f])) (l := (out.drop j)) (L := (out.take j ++ [f] ++ out.drop j)) (g := g2) (cs := cs2) rfl .here hF2 hO2 (Gro.sl (el := 132) hF1 hO1 (by simp; omega)) ((InH.sees (l := g1.H 132 cs1) (fun p_ hp_ => List.mem_append_right _ (List.mem_cons_of_mem _ (List.mem_append_left _ hp_))))) RFld.flats (by simp; omega) rfl rfl (by kernel_rfl) (by kernel_rfl) rfl rfl rfl rfl Tryz.underlying47 Tryz.underlying47 ap132 rfl rfl (fun g3 cs3 hF3 hO3 => ?_)
  refine .P ?_
  refine .nil (.blk (.seq (.region ?_)))
  iterate 2 refine .P ?_
  refine .W 12 i ?_
  refine .P ?_
  refine .nil ?_
  exact .loop (i + 1, g3, cs3, out.take j ++ [f] ++ out.drop j) ⟨hltA, by rw [insF_at hj.1 hj.2 hat, he, ← sortF_snoc, take_succ' hf], by simp only [List.length_append, List.length_take, List.length_drop, List.length_singleton]; omega, hF3, hO3⟩ (by show L.length - (i + 1) < L.length - i; omega) ⟨rfl, rfl, rfl, trivial⟩ (List.sublist_append_left _ _)
 try simp only [nz] at ht10
 have hie : i = L.length := by omega
 subst hie
 rw [List.take_length] at he
 subst he
 refine .exit (.seq (.loop (.here (.seq (.seq (.region ?_))))))
 iterate 2 refine .P ?_
 refine .nil (.seq (.ret ?_))
 exact .end_ rfl rfl (fun m hm => ⟨(g_, cs_), ⟨hF, hO⟩, rfl, hm.ext, hm.news (.refl _)⟩)
theorem requal_step {l : List Ty} {al : Option Addr} {cl bp n : Nat} {M : Prs} {x0 : PrSt} {a b_ : Nat} {m : AW} (hm : m.lo ≤ m.next) (hk : Knows (PrS bp x0) m m (PrH bp x0)) (hM : MetS l.length M x0) (hBd : Bnd l M) (hlS : TabR l al cl (PrS bp x0) m) (hn : unmet l.length M < n + 1) (hWl : Well l) (hwl : ∀ (i : Nat) (a : Ty), l[i]? = some a → FewT a) (hn14 : l.length ≤ 14) (ha : a < l.length) (hb_ : b_ < l.length) (ih : ∀ p q : Nat, p < l.length → q < l.length → EqualR Tryz.prog l al cl bp n p q) : Fc Tryz.prog 65 [ptr bp, .slice al l.length cl, .int .i64 (Int.ofNat (a)), .int .i64 (Int.ofNat (b_))] m fun v m' => EqQR l bp x0 M a b_ m v m' := by
 have hsnd := hWl.sound
 obtain ⟨g0, cs0, L0⟩ := x0
 have hFl : Flat 2 RPr L0 cs0 := hM.flat
 have hOk : g0.Ok L0.length := hM.ok
 have hsm : L0.length ≤ 196 := hM.small hn14
 have hlS0 := hlS
 obtain ⟨a_, cap_, he_, hnl, hl⟩ := hlS0
 cases he_
 obtain ⟨x_, hx_⟩ : ∃ w_, l[a]? = some w_ := ⟨_, List.getElem?_eq_getElem ha⟩
 obtain ⟨y_, hy_⟩ : ∃ w_, l[b_]? = some w_ := ⟨_, List.getElem?_eq_getElem hb_⟩
 rcases hl with ⟨e0, -⟩ | ⟨b, off, cs, el, g, md, mate, rfl, ⟨hb, hh⟩, hle, hc⟩
 ·rw [e0] at ha; simp at ha
 have hrX := hc a x_ hx_
 obtain ⟨veX, vfX, vaX, hrX, heX, hfX, hgX⟩ := hrX
 obtain ⟨aeX, ceX, rfl, hneX, heX⟩ := heX
 have hfSX := hfX
 obtain ⟨afX, cfX, rfl, hnfX, hfX⟩ := hfX
 obtain ⟨aaX, caX, rfl, hnaX, hgX⟩ := hgX
 have hrY := hc b_ y_ hy_
 obtain ⟨veY, vfY, vaY, hrY, heY, hfY, hgY⟩ := hrY
 obtain ⟨aeY, ceY, rfl, hneY, heY⟩ := heY
 have hfSY := hfY
 obtain ⟨afY, cfY, rfl, hnfY, hfY⟩ := hfY
 obtain ⟨aaY, caY, rfl, hnaY, hgY⟩ := hgY
 obtain ⟨ga, gc, hV, hnG, hGs⟩ := Gro.sl (el := 165) hFl hOk (by omega)
 refine Fc.bodyS (S := PrS bp (g0, cs0, L0)) (c := _) Tryz.func65 rfl rfl rfl rfl hk ?_
 refine .seq (.region (.P ?_))
 refine .nil (.seq (.seq (.seq (.region (.P ?_)))))
 refine .nil (.seq (.block ?_))
 refine .loop (α := Nat) (fun i => [(0, ptr bp), (1, .slice (some ⟨b, off, none⟩) l.length cl), (2, .int .i64 (Int.ofNat (a))), (3, .int .i64 (Int.ofNat (b_))), (9, .int .i64 (Int.ofNat (i)))]) (fun i => PrH bp (g0, cs0, L0)) (fun i => i ≤ L0.length ∧ ∀ (j : Nat) (p : Nat × Nat), j < i → L0[j]? = some p → p ≠ (a, b_)) (fun i => L0.length - i) 0 ⟨Nat.zero_le _, fun _ _ h => (by cases h)⟩ ⟨rfl, rfl, rfl, rfl, rfl, trivial⟩ (.refl _) (fun i hi => ?_)
 refine .seq (.seq (.region ?_))
 iterate 3 refine .P ?_
 refine .F fa106_0 ?_
 refine .L ag104 ?_
 refine .as 18 (.slice ga L0.length gc) rfl hV ?_
 refine .G (ln104 ..) ?_
 refine .P ?_
 refine .nil (.seq ?_)
 refine .cond rfl (fun ht20 => ?_) (fun ht20 => ?_)
 ·try simp only [nz] at ht20
  obtain ⟨pp, hpp⟩ : ∃ w_, L0[i]? = some w_ := ⟨_, List.getElem?_eq_getElem (by omega)⟩
  rcases hGs with ⟨e0, -⟩ | ⟨bG, offG, csG, elG, gG, mdG, mateG, rfl, hbG, hleG, hcG⟩
  ·rw [e0] at hpp; simp at hpp
  have hrG := hcG i pp hpp
  refine .skip (.seq (.seq (.block (.seq (.region ?_)))))
  iterate 2 refine .P ?_
  refine .F fa106_0 ?_
  refine .L ag104 ?_
  refine .as 26 (.slice (some ⟨bG, offG, none⟩) L0.length gc) rfl hV ?_
  refine .P ?_
  refine .K Tryz.underlying104 sz165 ?_
  refine .A ag165 sz165 (InH.sees (l := g0.H 165 cs0) (fun p_ hp_ => List.mem_cons_of_mem _ hp_) _ _ hbG) hrG ?_
  iterate 2 refine .P ?_
  refine .p (v := pairV .i64 (Int.ofNat a, Int.ofNat b_)) rfl rfl rfl (by kernel_rfl) ?_
  refine .eqPair (a := (Int.ofNat pp.1, Int.ofNat pp.2)) (b := (Int.ofNat a, Int.ofNat b_)) PT165 (by kernel_rfl) rfl rfl rfl rfl rfl rfl ?_
  refine .nil (.seq ?_)
  refine .cond rfl (fun ht33 => ?_) (fun ht33 => ?_)
  ·have hpe : pp = (a, b_) := by have := of_decide_eq_true ht33; exact Prod.ext (Int.ofNat.inj (Prod.mk.inj this).1) (Int.ofNat.inj (Prod.mk.inj this).2)
   have hin : (a, b_) ∈ M := (hM.mem _).1 (by rw [← hpe]; exact List.mem_of_getElem? hpp)
   refine .seq (.region (.P ?_))
   refine .nil (.seq (.ret (.blk (.seq (.loop (.blk (.seq ?_)))))))
   exact .end_ rfl rfl (fun m hm => ⟨((true, M), (g0, cs0, L0)), ⟨EqA.here (.inr hin), hM⟩, rfl, hm⟩)
  have hpe : pp ≠ (a, b_) := fun h => of_decide_eq_false ht33 (by rw [h])
  refine .skip (.blk (.seq (.region ?_)))
  iterate 2 refine .P ?_
  refine .W 22 i ?_
  refine .P ?_
  refine .nil ?_
  exact .loop (i + 1) ⟨by omega, upto_succ hi.2 hpp hpe⟩ (by omega) ⟨rfl, rfl, rfl, rfl, rfl, trivial⟩ (.refl _)
 try simp only [nz] at ht20
 have hnm : (a, b_) ∉ M := fun hm_ => by
   obtain ⟨j_, hj_⟩ := List.getElem?_of_mem ((hM.mem (a, b_)).2 hm_)
   exact hi.2 j_ _ (by have hj2_ : j_ < L0.length := (List.getElem?_eq_some_iff.1 hj_).1; omega) hj_ rfl
 refine .exit (.seq (.loop (.here (.seq (.seq (.region ?_))))))
 iterate 3 refine .P ?_
 refine .F fa106_0 ?_
 refine .L ag104 ?_
 iterate 2 refine .P ?_
 refine .p (v := .agg ⟨[.int .i64 (Int.ofNat a), .int .i64 (Int.ofNat b_)]⟩) rfl rfl rfl (by kernel_rfl) ?_
 refine .buildSlice rfl rfl rfl rfl rfl (bs104_1 ..) (fun b42 hb42 => ?_)
 refine .appendSl (R := RPr) (l0 := L0) (l := [(a, b_)]) (L := (L0 ++ [(a, b_)])) (g := g0) (cs := cs0) rfl (.tail (.tail .all)) hFl hOk (Sl.single (R := RPr) (x := (a, b_)) (b := b42) (c := 1) (el := 165) (g := false) (md := .plain) (mate := none) rfl rfl) ((InH.sees (by intro p_ hp_; rw [List.mem_singleton.1 hp_]; exact List.mem_cons_self))) RPr.flats (by simp; omega) rfl rfl rfl rfl Tryz.underlying104 Tryz.underlying104 ap165 rfl rfl (fun g1 cs1 hF1 hO1 => ?_)
 obtain ⟨ga1, gc1, hV1⟩ := Gro.len hO1
 refine .as 43 (.slice ga1 (L0 ++ [(a, b_)]).length gc1) rfl hV1 ?_
 refine .P ?_
 refine .F fa106_0 ?_
 refine .store rfl rfl rfl rfl rfl sz104 rfl (Upd.app (.tail .head)) rfl ?_
 refine .swap (h' := (bp, .cells [g1.V (L0 ++ [(a, b_)]).length] 106 false .plain none) :: (g1.H 165 cs1 ++ [(b42, .cells [.int .i64 (Int.ofNat a), .int .i64 (Int.ofNat b_)] 165 false .plain none)])) (by rw [hV1]; exact pr_perm) ?_
 refine .drop (h' := PrH bp (g1, cs1, L0 ++ [(a, b_)])) (.cons_cons _ (List.sublist_append_left _ _)) ?_
 have hM0 := MetS.put (g := g1) (cs := cs1) hM ha hb_ hnm rfl hF1 hO1
 have hB0 := hBd.cons ha hb_
 have hn0 : unmet l.length ((a, b_) :: M) < n := by have := unmet_lt ha hb_ hnm (M' := (a, b_) :: M) (fun p hp => List.mem_cons_of_mem _ hp) List.mem_cons_self; omega
 refine .nil (.seq (.seq ?_))
 refine .D [(15, 0), (15, 0), (15, 3), (3, 7), (13, 0), (13, 0), (13, 48), (1, 112), (11, 0), (11, 0), (7, 783), (7, 2047)] (by kernel_rfl) (by kernel_rfl) (fun base hbase hB => ?_)
 iterate 2 refine .P ?_
 refine .K Tryz.underlying22 sz50 ?_
 refine .loadAgg rfl rfl rfl rfl rfl rfl rfl rfl ag50 sz50 (Off.sees rfl rfl _ _ ⟨hb, hh⟩) (by omega) hrX ?_
 iterate 2 refine .P ?_
 refine .K Tryz.underlying22 sz50 ?_
 refine .loadAggOld rfl rfl rfl rfl rfl rfl ag50 sz50 (Off.sees rfl rfl _ _ ⟨hb, hh⟩) (by omega) hrY (by first | exact hB _ _ (.head _) | exact hB _ _ (.tail _ (.head _)) | exact hB _ _ (.tail _ (.tail _ (.head _))) | exact hB _ _ (.tail _ (.tail _ (.tail _ (.head _)))) | exact hB _ _ (List.mem_append_right _ (.head _)) | exact hB _ _ (List.mem_append_right _ (.tail _ (.head _))) | exact Nat.lt_of_lt_of_le ‹_› hbase) ?_
 refine .alloc rfl rfl rfl rfl rfl zr50 (fun b10 hn10 hb10 => ?_)
 refine .alloc rfl rfl rfl rfl rfl zr50 (fun b11 hn11 hb11 => ?_)
 refine .storeNew rfl rfl (by kernel_rfl) hn10 rfl rfl rfl rfl rfl sz50 rfl (by first | exact .head | exact .tail .head | exact .tail (.tail .head) | exact .tail (.tail (.tail .head)) | exact updo) rfl ?_
 refine .storeNew rfl rfl (by kernel_rfl) hn11 rfl rfl rfl rfl rfl sz50 rfl (by first | exact .head | exact .tail .head | exact .tail (.tail .head) | exact .tail (.tail (.tail .head)) | exact updo) rfl ?_
 refine .nil (.seq ?_)
 refine .joinA (HeadR x_ y_) [] ?_ (fun hhd => ?_)
 ·refine .seq (.region (.F fa50_0 ?_))
  refine .L ag3 ?_
  refine .F fa50_0 ?_
  refine .L ag3 ?_
  iterate 2 refine .P ?_
  refine .splitB 59 rfl (fun hs_59 => ?_) (fun hs_59 => ?_)
  ·try simp only [nz] at hs_59
   iterate 7 refine .O ?_
   iterate 2 refine .P ?_
   iterate 10 refine .O ?_
   iterate 2 refine .P ?_
   iterate 7 refine .O ?_
   refine .P ?_
   refine .nil (.seq (.cond_true rfl (.seq (.region (.P ?_)))))
   refine .nil (.seq (.ret (.jn ?_)))
   exact .end_ rfl rfl (fun m hm => ⟨((false, (a, b_) :: M), (g1, cs1, L0 ++ [(a, b_)])), ⟨EqA.fail (fun p hp => List.mem_cons_of_mem _ hp) (fun hM => hM.cons ha hb_) (fun h => (by obtain ⟨h1, h2, h3, h4⟩ := (h.ty hsnd hx_ hy_).head; first | omega | exact absurd (h4 (by omega)) (by assumption))), hM0⟩, rfl, hm.sub (.cons _ (.cons _ (.refl _)))⟩)
  try simp only [nz] at hs_59
  refine .F fa50_1 ?_
  refine .L ag32 ?_
  refine .G (ln32 ..) ?_
  refine .F fa50_1 ?_
  refine .L ag32 ?_
  refine .G (ln32 ..) ?_
  iterate 3 refine .P ?_
  refine .splitB 68 rfl (fun hs_68 => ?_) (fun hs_68 => ?_)
  ·try simp only [nz] at hs_68
   iterate 10 refine .O ?_
   iterate 2 refine .P ?_
   iterate 7 refine .O ?_
   refine .P ?_
   refine .nil (.seq (.cond_true rfl (.seq (.region (.P ?_)))))
   refine .nil (.seq (.ret (.jn ?_)))
   exact .end_ rfl rfl (fun m hm => ⟨((false, (a, b_) :: M), (g1, cs1, L0 ++ [(a, b_)])), ⟨EqA.fail (fun p hp => List.mem_cons_of_mem _ hp) (fun hM => hM.cons ha hb_) (fun h => (by obtain ⟨h1, h2, h3, h4⟩ := (h.ty hsnd hx_ hy_).head; first | omega | exact absurd (h4 (by omega)) (by assumption))), hM0⟩, rfl, hm.sub (.cons _ (.cons _ (.refl _)))⟩)
  try simp only [nz] at hs_68
  refine .F fa50_0 ?_
  refine .L ag3 ?_
  iterate 2 refine .P ?_
  refine .splitB 72 rfl (fun hs_72 => ?_) (fun hs_72 => ?_)
  ·try simp only [nz] at hs_72
   refine .F fa50_2 ?_
   refine .L ag9 ?_
   refine .F fa50_2 ?_
   refine .L ag9 ?_
   iterate 4 refine .P ?_
   refine .splitB 80 rfl (fun hs_80 => ?_) (fun hs_80 => ?_)
   ·try simp only [nz] at hs_80
    iterate 7 refine .O ?_
    refine .P ?_
    refine .nil (.seq (.cond_true rfl (.seq (.region (.P ?_)))))
    refine .nil (.seq (.ret (.jn ?_)))
    exact .end_ rfl rfl (fun m hm => ⟨((false, (a, b_) :: M), (g1, cs1, L0 ++ [(a, b_)])), ⟨EqA.fail (fun p hp => List.mem_cons_of_mem _ hp) (fun hM => hM.cons ha hb_) (fun h => (by obtain ⟨h1, h2, h3, h4⟩ := (h.ty hsnd hx_ hy_).head; first | omega | exact absurd (h4 (by omega)) (by assumption))), hM0⟩, rfl, hm.sub (.cons _ (.cons _ (.refl _)))⟩)
   try simp only [nz] at hs_80
   refine .F fa50_4 ?_
   refine .L ag48 ?_
   refine .G (ln48 ..) ?_
   refine .F fa50_4 ?_
   refine .L ag48 ?_
   refine .G (ln48 ..) ?_
   iterate 2 refine .P ?_
   refine .nil (.seq ?_)
   refine .cond rfl (fun ht88 => ?_) (fun ht88 => ?_)
   ·try simp only [nz] at ht88
    refine .seq (.region (.P ?_))
    refine .nil (.seq (.ret (.jn ?_)))
    exact .end_ rfl rfl (fun m hm => ⟨((false, (a, b_) :: M), (g1, cs1, L0 ++ [(a, b_)])), ⟨EqA.fail (fun p hp => List.mem_cons_of_mem _ hp) (fun hM => hM.cons ha hb_) (fun h => (by obtain ⟨h1, h2, h3, h4⟩ := (h.ty hsnd hx_ hy_).head; first | omega | exact absurd (h4 (by omega)) (by assumption))), hM0⟩, rfl, hm.sub (.cons _ (.cons _ (.refl _)))⟩)
   try simp only [nz] at ht88
   refine .skip ?_
   exact .J (⟨by omega, by omega, by omega, fun h9 => (by first | assumption | omega)⟩)
  try simp only [nz] at hs_72
  iterate 5 refine .O ?_
  iterate 3 refine .P ?_
  refine .F fa50_4 ?_
  refine .L ag48 ?_
  refine .G (ln48 ..) ?_
  refine .F fa50_4 ?_
  refine .L ag48 ?_
  refine .G (ln48 ..) ?_
  iterate 2 refine .P ?_
  refine .nil (.seq ?_)
  refine .cond rfl (fun ht88 => ?_) (fun ht88 => ?_)
  ·try simp only [nz] at ht88
   refine .seq (.region (.P ?_))
   refine .nil (.seq (.ret (.jn ?_)))
   exact .end_ rfl rfl (fun m hm => ⟨((false, (a, b_) :: M), (g1, cs1, L0 ++ [(a, b_)])), ⟨EqA.fail (fun p hp => List.mem_cons_of_mem _ hp) (fun hM => hM.cons ha hb_) (fun h => (by obtain ⟨h1, h2, h3, h4⟩ := (h.ty hsnd hx_ hy_).head; first | omega | exact absurd (h4 (by omega)) (by assumption))), hM0⟩, rfl, hm.sub (.cons _ (.cons _ (.refl _)))⟩)
  try simp only [nz] at ht88
  refine .skip ?_
  exact .J (⟨by omega, by omega, by omega, fun h9 => (by first | assumption | omega)⟩)
 refine .seq (.seq (.region (.P ?_)))
 refine .nil (.seq (.block ?_))
 refine .swap (Pick.perm (.tail (.tail .all))) (.loop (α := Nat × Prs × PrSt) (fun q => [(0, ptr bp), (1, .slice (some ⟨b, off, none⟩) l.length cl), (10, ptr b10), (11, ptr b11), (12, .int .i64 (Int.ofNat (q.1)))]) (fun q => PrH bp q.2.2 ++ [(b11, .cells [.int .i64 y_.kind, .slice aeY y_.elems.length ceY, .string y_.name, .slice afY y_.fields.length cfY, .slice aaY y_.arms.length caY] 50 false .plain none), (b10, .cells [.int .i64 x_.kind, .slice aeX x_.elems.length ceX, .string x_.name, .slice afX x_.fields.length cfX, .slice aaX x_.arms.length caX] 50 false .plain none)]) (fun q => q.1 ≤ x_.elems.length ∧ RowA l ((a, b_) :: M) q.2.1 (ElsU (InM q.2.1) x_.elems y_.elems q.1) ∧ MetS l.length q.2.1 q.2.2) (fun q => x_.elems.length - q.1) (0, ((a, b_) :: M), (g1, cs1, L0 ++ [(a, b_)])) ⟨Nat.zero_le _, RowA.init (fun _ _ _ h => absurd h (Nat.not_lt_zero _)), hM0⟩ ⟨rfl, rfl, rfl, rfl, rfl, trivial⟩ (.refl _) (fun q hq0 => ?_))
 obtain ⟨i, M1, x1⟩ := q
 obtain ⟨hi, hR, hM1⟩ := hq0
 simp only at hi hR hM1
 have hB1 := hR.bnd hB0
 have hu1 := Nat.lt_of_le_of_lt (unmet_le (n := l.length) hR.grown) hn0
 refine .seq (.seq (.region (.P ?_)))
 refine .F fa50_1 ?_
 refine .L ag32 ?_
 refine .G (ln32 ..) ?_
 refine .P ?_
 refine .nil (.seq ?_)
 refine .cond rfl (fun ht93 => ?_) (fun ht93 => ?_)
 ·try simp only [nz] at ht93
  have hltE : i < x_.elems.length := by omega
  obtain ⟨p0, hp0⟩ : ∃ w_, x_.elems[i]? = some w_ := ⟨_, List.getElem?_eq_getElem hltE⟩
  rcases heX with ⟨e0, -⟩ | ⟨bE, offE, csE, elE, gE, mdE, mateE, rfl, ⟨hbE, hhE⟩, hleE, hcE⟩
  ·rw [e0] at hltE; simp at hltE
  have hrp := hcE i p0 hp0
  have hltH : i < y_.elems.length := by have := hhd.2.1; omega
  obtain ⟨q0, hq0_⟩ : ∃ w_, y_.elems[i]? = some w_ := ⟨_, List.getElem?_eq_getElem hltH⟩
  rcases heY with ⟨e0, -⟩ | ⟨bH, offH, csH, elH, gH, mdH, mateH, rfl, ⟨hbH, hhH⟩, hleH, hcH⟩
  ·rw [e0] at hltH; simp at hltH
  have hrq := hcH i q0 hq0_
  obtain ⟨p, rfl, hpl⟩ := parts_in (hsnd a x_ hx_) (parts_elem hp0)
  obtain ⟨q, rfl, hql⟩ := parts_in (hsnd b_ y_ hy_) (parts_elem hq0_)
  refine .skip (.seq (.seq (.block (.seq ?_))))
  refine .D [(15, 0), (15, 0), (15, 0), (3, 4), (15, 0), (15, 28), (3, 60), (15, 0), (3, 128), (15, 0), (15, 896), (3, 1920), (7, 4095), (15, 8191)] (by kernel_rfl) (by kernel_rfl) (fun base hbase hB => ?_)
  iterate 2 refine .P ?_
  refine .F fa50_1 ?_
  refine .load rfl rfl rfl rfl rfl rfl rfl rfl ag32 (by repeat first | exact .head | exact .app .head | exact .base ‹_› ‹_› (by simp) | refine .tail ?_ | refine .app ?_) rfl ?_
  refine .P ?_
  refine .K Tryz.underlying32 sz3 ?_
  refine .M ag3 (Off.sees rfl rfl _ _ ⟨hbE, hhE⟩) (cell_of_take hrp (k := 0) rfl) ?_
  refine .F fa50_1 ?_
  refine .load rfl rfl rfl rfl rfl rfl rfl rfl ag32 (by repeat first | exact .head | exact .app .head | exact .base ‹_› ‹_› (by simp) | refine .tail ?_ | refine .app ?_) rfl ?_
  refine .P ?_
  refine .K Tryz.underlying32 sz3 ?_
  refine .M ag3 (Off.sees rfl rfl _ _ ⟨hbH, hhH⟩) (cell_of_take hrq (k := 0) rfl) ?_
  refine .callc (fun y : CmpR => EqA l M1 p q y.1 ∧ MetS l.length y.1.2 y.2) (fun y => .bool y.1.1) (fun y => PrH bp y.2) .here rfl rfl (by kernel_rfl) (by kernel_rfl) rfl rfl rfl rfl rfl rfl (fun m2 g0 g2 gb gr => ih p q hpl hql m2 x1 M1 g0 g2 hM1 hB1 (hlS.mono gb (RTy.mono gb)) hu1) (fun y hy => ?_)
  refine .p rfl rfl rfl rfl rfl (.of (.nil (.seq ?_)))
  refine .cond rfl (fun ht109 => ?_) (fun ht109 => ?_)
  ·obtain ⟨hy, hyM⟩ := hy
   have hyf : y.1.1 = false := by cases h_ : y.1.1 with | false => rfl | true => rw [h_] at ht109; cases ht109
   refine .seq (.region (.P ?_))
   refine .nil (.seq (.ret (.blk (.seq (.loop (.blk (.seq ?_)))))))
   exact .end_ rfl rfl (fun m hm => ⟨((false, y.1.2), y.2), ⟨EqA.stop hx_ hy_ hR hy.grown hy.bnd fun h => hy.no hyf (((h.ty hsnd hx_ hy_).els.2 i _ _ hp0 hq0_).nat), hyM⟩, rfl, hm.sub (List.sublist_append_left _ _)⟩)
  obtain ⟨hy, hyM⟩ := hy
  have hyt : y.1.1 = true := by cases h_ : y.1.1 with | true => rfl | false => rw [h_] at ht109; cases ht109
  refine .skip (.blk (.seq (.region ?_)))
  iterate 2 refine .P ?_
  refine .W 95 i ?_
  refine .P ?_
  refine .nil ?_
  exact .loop (i + 1, y.1.2, y.2) ⟨by omega, hR.more hy hyt (hR.all.succ hy.grown hp0 hq0_ ⟨p, q, rfl, rfl, (hy.yes hyt).1⟩), hyM⟩ (by show x_.elems.length - (i + 1) < x_.elems.length - i; omega) ⟨rfl, rfl, rfl, rfl, rfl, trivial⟩ (.refl _)
 try simp only [nz] at ht93
 have hels : ElsR (InM M1) x_.elems y_.elems := hR.all.all hhd.2.1 (by omega)
 refine .exit (.seq (.loop (.here (.seq (.seq (.seq (.region (.P ?_))))))))
 refine .nil (.seq (.block ?_))
 have hR0 := hR
 have hM0 := hM1
 have hB0 := hB1
 have hn0 := hu1
 refine .loop (α := Nat × Prs × PrSt) (fun q => [(0, ptr bp), (1, .slice (some ⟨b, off, none⟩) l.length cl), (10, ptr b10), (11, ptr b11), (13, .int .i64 (Int.ofNat (q.1)))]) (fun q => PrH bp q.2.2 ++ [(b11, .cells [.int .i64 y_.kind, .slice aeY y_.elems.length ceY, .string y_.name, .slice afY y_.fields.length cfY, .slice aaY y_.arms.length caY] 50 false .plain none), (b10, .cells [.int .i64 x_.kind, .slice aeX x_.elems.length ceX, .string x_.name, .slice afX x_.fields.length cfX, .slice aaX x_.arms.length caX] 50 false .plain none)]) (fun q => q.1 ≤ x_.arms.length ∧ RowA l M1 q.2.1 (ArmsU (InM q.2.1) x_.arms y_.arms q.1) ∧ MetS l.length q.2.1 q.2.2) (fun q => x_.arms.length - q.1) (0, M1, x1) ⟨Nat.zero_le _, RowA.init (fun _ _ _ h => absurd h (Nat.not_lt_zero _)), hM0⟩ ⟨rfl, rfl, rfl, rfl, rfl, trivial⟩ (.refl _) (fun q hq0 => ?_)
 obtain ⟨k, M1, x1⟩ := q
 obtain ⟨hk, hR, hM1⟩ := hq0
 simp only at hk hR hM1
 have hB1 := hR.bnd hB0
 have hu1 := Nat.lt_of_le_of_lt (unmet_le (n := l.length) hR.grown) hn0
 refine .seq (.seq (.region (.P ?_)))
 refine .F fa50_4 ?_
 refine .L ag48 ?_
 refine .G (ln48 ..) ?_
 refine .P ?_
 refine .nil (.seq ?_)
 refine .cond rfl (fun ht114 => ?_) (fun ht114 => ?_)
 ·try simp only [nz] at ht114
  have hltU : k < x_.arms.length := by omega
  obtain ⟨u, hu_⟩ : ∃ w_, x_.arms[k]? = some w_ := ⟨_, List.getElem?_eq_getElem hltU⟩
  rcases hgX with ⟨e0, -⟩ | ⟨bU, offU, csU, elU, gU, mdU, mateU, rfl, ⟨hbU, hhU⟩, hleU, hcU⟩
  ·rw [e0] at hltU; simp at hltU
  have hru := hcU k u hu_
  have hltW : k < y_.arms.length := by have := hhd.2.2.1; omega
  obtain ⟨w, hw_⟩ : ∃ w_, y_.arms[k]? = some w_ := ⟨_, List.getElem?_eq_getElem hltW⟩
  rcases hgY with ⟨e0, -⟩ | ⟨bW, offW, csW, elW, gW, mdW, mateW, rfl, ⟨hbW, hhW⟩, hleW, hcW⟩
  ·rw [e0] at hltW; simp at hltW
  have hrw := hcW k w hw_
  obtain ⟨vu, hru, hfu⟩ := hru
  obtain ⟨vw, hrw, hfw⟩ := hrw
  have hfuS := hfu
  have hfwS := hfw
  obtain ⟨au, cu, rfl, hnu, hfu⟩ := hfu
  obtain ⟨aw, cw, rfl, hnw, hfw⟩ := hfw
  refine .skip (.seq (.seq (.block (.seq ?_))))
  refine .D [(15, 0), (3, 1), (15, 0), (15, 7), (15, 15), (3, 31), (15, 0), (3, 64), (15, 0), (15, 448), (15, 960), (3, 1984), (15, 4095), (15, 8191), (15, 16383), (15, 16383), (15, 16383), (3, 81919), (15, 16383), (15, 475135), (15, 999423), (3, 2047999), (15, 16383), (3, 4210687), (15, 16383), (15, 29376511), (15, 62930943), (3, 130039807), (7, 268435455), (15, 536870911), (15, 1073741823)] (by kernel_rfl) (by kernel_rfl) (fun base hbase hB => ?_)
  refine .F fa50_4 ?_
  refine .load rfl rfl rfl rfl rfl rfl rfl rfl ag48 (by repeat first | exact .head | exact .app .head | exact .base ‹_› ‹_› (by simp) | refine .tail ?_ | refine .app ?_) rfl ?_
  refine .P ?_
  refine .K Tryz.underlying48 sz55 ?_
  refine .F fa55_0 ?_
  refine .M ag9 (Off.sees rfl rfl _ _ ⟨hbU, hhU⟩) (cell_of_take hru (k := 0) rfl) ?_
  refine .F fa50_4 ?_
  refine .load rfl rfl rfl rfl rfl rfl rfl rfl ag48 (by repeat first | exact .head | exact .app .head | exact .base ‹_› ‹_› (by simp) | refine .tail ?_ | refine .app ?_) rfl ?_
  refine .P ?_
  refine .K Tryz.underlying48 sz55 ?_
  refine .F fa55_0 ?_
  refine .M ag9 (Off.sees rfl rfl _ _ ⟨hbW, hhW⟩) (cell_of_take hrw (k := 0) rfl) ?_
  iterate 2 refine .P ?_
  refine .splitB 130 rfl (fun hs_130 => ?_) (fun hs_130 => ?_)
  ·try simp only [nz] at hs_130
   have hnn : u.name ≠ w.name := by assumption
   iterate 16 refine .O ?_
   refine .P ?_
   refine .nil (.seq (.cond_true rfl (.seq (.region (.P ?_)))))
   refine .nil (.seq (.ret (.blk (.seq (.loop (.blk (.seq ?_)))))))
   exact .end_ rfl rfl (fun m hm => ⟨((false, M1), x1), ⟨EqA.stop hx_ hy_ hR0 hR.grown hR.bnd fun h => hnn ((h.ty hsnd hx_ hy_).arms.2 k u w hu_ hw_).1, hM1⟩, rfl, hm.sub (List.sublist_append_left _ _)⟩)
  try simp only [nz] at hs_130
  have hnn : u.name = w.name := by assumption
  iterate 2 refine .P ?_
  refine .F fa50_4 ?_
  refine .load rfl rfl rfl rfl rfl rfl rfl rfl ag48 (by repeat first | exact .head | exact .app .head | exact .base ‹_› ‹_› (by simp) | refine .tail ?_ | refine .app ?_) rfl ?_
  refine .P ?_
  refine .K Tryz.underlying48 sz55 ?_
  refine .F fa55_1 ?_
  refine .M ag47 (Off.sees rfl rfl _ _ ⟨hbU, hhU⟩) (cell_of_take hru (k := 1) rfl) ?_
  refine .F fa50_4 ?_
  refine .load rfl rfl rfl rfl rfl rfl rfl rfl ag48 (by repeat first | exact .head | exact .app .head | exact .base ‹_› ‹_› (by simp) | refine .tail ?_ | refine .app ?_) rfl ?_
  refine .P ?_
  refine .K Tryz.underlying48 sz55 ?_
  refine .F fa55_1 ?_
  refine .M ag47 (Off.sees rfl rfl _ _ ⟨hbW, hhW⟩) (cell_of_take hrw (k := 1) rfl) ?_
  refine .callc (fun y : CmpR => RelA l M1 (fun R => FldsR R u.fields w.fields) y.1 ∧ MetS l.length y.1.2 y.2) (fun y => .bool y.1.1) (fun y => PrH bp y.2) .here rfl rfl (by kernel_rfl) (by kernel_rfl) rfl rfl rfl rfl rfl rfl (fun m2 g0_ g2_ gb gr => rfields_ok (x0 := x1) g0_ g2_ hM1 hB1 (hlS.mono gb (RTy.mono gb)) hu1 ih (hfuS.mono gb fun _ _ h => h) (hfwS.mono gb fun _ _ h => h) (parts_ok_fld (hsnd a x_ hx_) fun f_ hf_ => parts_armf (List.mem_of_getElem? hu_) hf_) (parts_ok_fld (hsnd b_ y_ hy_) fun f_ hf_ => parts_armf (List.mem_of_getElem? hw_) hf_)) (fun y hy => ?_)
  refine .p rfl rfl rfl rfl rfl (.p rfl rfl rfl rfl rfl (.of (.nil (.seq ?_))))
  refine .cond rfl (fun ht147 => ?_) (fun ht147 => ?_)
  ·obtain ⟨hy, hyM⟩ := hy
   have hyf : y.1.1 = false := by cases h_ : y.1.1 with | false => rfl | true => rw [h_] at ht147; cases ht147
   refine .seq (.region (.P ?_))
   refine .nil (.seq (.ret (.blk (.seq (.loop (.blk (.seq ?_)))))))
   exact .end_ rfl rfl (fun m hm => ⟨((false, y.1.2), y.2), ⟨EqA.stop hx_ hy_ hR0 (hR.grown.trans hy.grown) (fun h => hy.bnd (hR.bnd h)) fun h => hy.no hyf ((h.ty hsnd hx_ hy_).arms.2 k u w hu_ hw_).2, hyM⟩, rfl, hm.sub (List.sublist_append_left _ _)⟩)
  obtain ⟨hy, hyM⟩ := hy
  have hyt : y.1.1 = true := by cases h_ : y.1.1 with | true => rfl | false => rw [h_] at ht147; cases ht147
  refine .skip (.blk (.seq (.region ?_)))
  iterate 2 refine .P ?_
  refine .W 116 k ?_
  refine .P ?_
  refine .nil ?_
  exact .loop (k + 1, y.1.2, y.2) ⟨by omega, hR.moreR hy hyt (hR.all.succ hy.grown hu_ hw_ hnn (hy.yes hyt).2), hyM⟩ (by show x_.arms.length - (k + 1) < x_.arms.length - k; omega) ⟨rfl, rfl, rfl, rfl, rfl, trivial⟩ (.refl _)
 try simp only [nz] at ht114
 refine .exit (.seq (.loop (.here (.seq (.seq (.seq (.region (.F fa50_0 ?_))))))))
 refine .L ag3 ?_
 refine .P ?_
 refine .nil (.seq ?_)
 refine .cond rfl (fun ht150 => ?_) (fun ht150 => ?_)
 ·try simp only [nz] at ht150
  have hk13 : x_.kind = 13 := by omega
  refine .seq ?_
  refine .D [(13, 0), (13, 0), (15, 0), (3, 4), (7, 12), (12, 0), (0, 32), (7, 124), (7, 255), (15, 511)] (by kernel_rfl) (by kernel_rfl) (fun base hbase hB => ?_)
  iterate 2 refine .P ?_
  refine .F fa50_3 ?_
  refine .load rfl rfl rfl rfl rfl rfl rfl rfl ag47 (by repeat first | exact .head | exact .app .head | exact .base ‹_› ‹_› (by simp) | refine .tail ?_ | refine .app ?_) rfl ?_
  refine .calln _ _ _ rfl rfl rfl rfl rfl rfl rfl rfl rfl (fun m hm => sorted_ok hm.lole (hfSX.mono (fun b_ o_ h_ => Off.mem _ _ (Off.kr hm _ _ h_)) fun _ _ h => h) (by have := (hwl _ _ hx_).fields; omega)) (fun z1 hz1 => ?_)
  refine .F fa50_3 ?_
  refine .loadOld rfl rfl rfl rfl rfl rfl ag47 (.app (.app .head)) rfl (by first | exact hB _ _ (.head _) | exact hB _ _ (.tail _ (.head _)) | exact hB _ _ (.tail _ (.tail _ (.head _))) | exact hB _ _ (.tail _ (.tail _ (.tail _ (.head _)))) | exact hB _ _ (List.mem_append_right _ (.head _)) | exact hB _ _ (List.mem_append_right _ (.tail _ (.head _))) | exact Nat.lt_of_lt_of_le ‹_› hbase) ?_
  refine .calln _ _ _ rfl rfl rfl rfl rfl rfl rfl rfl rfl (fun m hm => sorted_ok hm.lole (hfSY.mono (fun b_ o_ h_ => Off.mem _ _ (Off.kr hm _ _ h_)) fun _ _ h => h) (by have := (hwl _ _ hy_).fields; omega)) (fun z2 hz2 => ?_)
  refine .callc (fun y : CmpR => RelA l M1 (fun R => FldsR R (sortF x_.fields) (sortF y_.fields)) y.1 ∧ MetS l.length y.1.2 y.2) (fun y => .bool y.1.1) (fun y => PrH bp y.2) (.over (.over .here)) rfl rfl (by kernel_rfl) (by kernel_rfl) rfl rfl rfl rfl rfl rfl (fun m2 g0_ g2_ gb gr => rfields_ok (x0 := x1) g0_ g2_ hM1 hB1 (hlS.mono gb (RTy.mono gb)) hu1 ih ((Gro.sl (el := 132) hz1.1 hz1.2 (by rw [sortF_len]; omega)).mono (fun b_ o_ h_ => gr b_ o_ (List.mem_append_right _ (List.mem_append_left _ h_))) fun _ _ h => h) ((Gro.sl (el := 132) hz2.1 hz2.2 (by rw [sortF_len]; omega)).mono (fun b_ o_ h_ => gr b_ o_ (List.mem_append_left _ h_)) fun _ _ h => h) (parts_ok_fld (hsnd a x_ hx_) fun f_ hf_ => parts_fldm ((sortF_perm _).mem_iff.1 hf_)) (parts_ok_fld (hsnd b_ y_ hy_) fun f_ hf_ => parts_fldm ((sortF_perm _).mem_iff.1 hf_))) (fun y hy => ?_)
  refine .p rfl rfl rfl rfl rfl (.of (.nil (.seq (.ret (.seq ?_)))))
  exact .end_ rfl rfl (fun m hm => ⟨y, ⟨EqA.last (P := True) hsnd hx_ hy_ hhd ⟨hR0.grown.trans hR.grown, fun h => hR.bnd (hR0.bnd h), hR0.closed.trans hR.closed hR.grown, trivial⟩ (hels.mono (InM.mono hR.grown)) (hR.all.all hhd.2.2.1 (by omega)) hy.1 (fun R => by rw [if_pos hk13]; exact sortF_rel (nodup_fields (hWl.all a x_ hx_)) (nodup_fields (hWl.all b_ y_ hy_))), hy.2⟩, rfl, hm.sub (List.sublist_append_left _ _)⟩)
 try simp only [nz] at ht150
 have hk13 : x_.kind ≠ 13 := by omega
 refine .skip (.seq (.seq (.region ?_)))
 iterate 2 refine .P ?_
 refine .F fa50_3 ?_
 refine .L ag47 ?_
 refine .F fa50_3 ?_
 refine .L ag47 ?_
 refine .callc (fun y : CmpR => RelA l M1 (fun R => FldsR R x_.fields y_.fields) y.1 ∧ MetS l.length y.1.2 y.2) (fun y => .bool y.1.1) (fun y => PrH bp y.2) .here rfl rfl rfl rfl rfl rfl (fun m2 k1_ g2_ => rfields_ok (x0 := x1) k1_.lole' g2_ hM1 hB1 (hlS.mono (Off.into k1_ (fun b_ h_ => (by rw [List.map_append]; exact List.mem_append_left _ h_))) (RTy.mono (Off.into k1_ (fun b_ h_ => (by rw [List.map_append]; exact List.mem_append_left _ h_))))) hu1 ih (hfSX.mono (Off.into k1_ (fun b_ h_ => (by rw [List.map_append]; exact List.mem_append_left _ h_))) fun _ _ h => h) (hfSY.mono (Off.into k1_ (fun b_ h_ => (by rw [List.map_append]; exact List.mem_append_left _ h_))) fun _ _ h => h) (parts_ok_fld (hsnd a x_ hx_) fun f_ hf_ => parts_fldm hf_) (parts_ok_fld (hsnd b_ y_ hy_) fun f_ hf_ => parts_fldm hf_)) (fun y hy => ?_)
 refine .P ?_
 refine .nil (.seq (.ret ?_))
 exact .end_ rfl rfl (fun m hm => ⟨y, ⟨EqA.last (P := True) hsnd hx_ hy_ hhd ⟨hR0.grown.trans hR.grown, fun h => hR.bnd (hR0.bnd h), hR0.closed.trans hR.closed hR.grown, trivial⟩ (hels.mono (InM.mono hR.grown)) (hR.all.all hhd.2.2.1 (by omega)) hy.1 (fun R => by rw [if_neg hk13]), hy.2⟩, rfl, hm.sub (List.sublist_append_left _ _)⟩)
theorem requal_all {l : List Ty} {al : Option Addr} {cl bp : Nat} (hW : Well l) (hwl : ∀ (i : Nat) (a : Ty), l[i]? = some a → FewT a) (hn14 : l.length ≤ 14) : ∀ (n a b : Nat), a < l.length → b < l.length → EqualR Tryz.prog l al cl bp n a b
 | 0, _, _, _, _ => fun _ _ _ _ _ _ _ _ hlt => absurd hlt (Nat.not_lt_zero _)
 | n + 1, _, _, ha, hb => fun _ _ _ hm hk hM hB hl hn => requal_step (n := n) hm hk hM hB hl hn hW hwl hn14 ha hb (requal_all hW hwl hn14 n)

theorem Same_ok {l : List Ty} {vl : Value} {p q : Nat} {m : AW} (hm : m.lo ≤ m.next) (hlS : Sl (Mem m) 5 (RTy (Mem m)) l vl) (hwl : ∀ (i : Nat) (a : Ty), l[i]? = some a → FewT a) (hn14 : l.length ≤ 14) (hWl : Well l) (hp : p < l.length) (hq : q < l.length) : Fc Tryz.prog 23 [vl, .int .i64 (Int.ofNat (p)), .int .i64 (Int.ofNat (q))] m fun v m' => ∃ z : Bool, (z = true ↔ EqT l p q) ∧ v = .bool z ∧ Ext m m' ∧ News m m' [] := by
 have hlS0 := hlS
 obtain ⟨al, cl, rfl, hnl, hl⟩ := hlS
 refine Fc.body (c := _) Tryz.func23 rfl rfl rfl rfl hm ?_
 refine .seq (.region (.P ?_))
 refine .nil (.seq (.seq (.region ?_)))
 refine .p (v := .agg ⟨[.slice none 0 0]⟩) rfl rfl rfl (by kernel_rfl) ?_
 refine .box rfl rfl rfl rfl rfl (fun b9 hb9 => ?_)
 refine .P ?_
 refine .nil (.seq (.seq (.region ?_)))
 iterate 4 refine .P ?_
 refine .callc (l := PrH b9 (.no, [], [])) (fun y : CmpR => EqA l [] p q y.1 ∧ MetS l.length y.1.2 y.2) (fun y => .bool y.1.1) (fun y => PrH b9 y.2) .one rfl rfl rfl rfl rfl rfl (fun m2 k1 k2 => requal_all hWl hwl hn14 _ p q hp hq m2 (.no, [], []) [] k1.lole' k2 (MetS.nil _) (Bnd.nil l) (hlS0.mono (Off.old k1) (RTy.mono (Off.old k1))) (Nat.lt_succ_self _)) (fun y hy => ?_)
 refine .P ?_
 refine .nil (.seq (.ret ?_))
 exact .end_ rfl rfl (fun m hm => ⟨y.1.1, hy.1.top, rfl, hm.ext, News.nil _ _⟩)
theorem rAssignable_ok {l : List Ty} {vl : Value} {p q : Nat} {m : AW} (hm : m.lo ≤ m.next) (hlS : Sl (Mem m) 5 (RTy (Mem m)) l vl) (hwl : ∀ (i : Nat) (a : Ty), l[i]? = some a → FewT a) (hn14 : l.length ≤ 14) (hWl : Well l) (hp : p < l.length) (hq : q < l.length) : Fc Tryz.prog 24 [vl, .int .i64 (Int.ofNat (p)), .int .i64 (Int.ofNat (q))] m fun v m' => ∃ z : Bool, (z = true ↔ AsgT l p q) ∧ v = .bool z ∧ Ext m m' ∧ News m m' [] := by
 have hlS0 := hlS
 obtain ⟨al, cl, rfl, hnl, hl⟩ := hlS
 have hsnd := hWl.sound
 obtain ⟨x_, hx_⟩ : ∃ w_, l[p]? = some w_ := ⟨_, List.getElem?_eq_getElem hp⟩
 obtain ⟨y_, hy_⟩ : ∃ w_, l[q]? = some w_ := ⟨_, List.getElem?_eq_getElem hq⟩
 rcases hl with ⟨e0, -⟩ | ⟨b, off, cs, el, g, md, mate, rfl, ⟨hb, hh⟩, hle, hc⟩
 ·rw [e0] at hp; simp at hp
 have hrX := hc p x_ hx_
 obtain ⟨veX, vfX, vaX, hrX, heX, hfX, hgX⟩ := hrX
 obtain ⟨aeX, ceX, rfl, hneX, heX⟩ := heX
 have hfSX := hfX
 obtain ⟨afX, cfX, rfl, hnfX, hfX⟩ := hfX
 obtain ⟨aaX, caX, rfl, hnaX, hgX⟩ := hgX
 have hrY := hc q y_ hy_
 obtain ⟨veY, vfY, vaY, hrY, heY, hfY, hgY⟩ := hrY
 obtain ⟨aeY, ceY, rfl, hneY, heY⟩ := heY
 have hfSY := hfY
 obtain ⟨afY, cfY, rfl, hnfY, hfY⟩ := hfY
 obtain ⟨aaY, caY, rfl, hnaY, hgY⟩ := hgY
 obtain ⟨z0, hz0⟩ : ∃ z0 : Bool, z0 = true ↔ (valueB x_ = true ∧ valueB y_ = true ∧ EqT l p q) := ⟨@decide _ (Classical.propDecidable _), @decide_eq_true_iff _ (Classical.propDecidable _)⟩
 refine Fc.body (c := _) Tryz.func24 rfl rfl rfl rfl hm ?_
 refine .seq (.region (.P ?_))
 refine .nil (.seq (.seq ?_))
 refine .D [(15, 0), (15, 0), (15, 3), (3, 7), (13, 0), (13, 0), (13, 48), (1, 112), (11, 0), (11, 0), (7, 783), (7, 2047)] (by kernel_rfl) (by kernel_rfl) (fun base hbase hB => ?_)
 iterate 2 refine .P ?_
 refine .K Tryz.underlying22 sz50 ?_
 refine .loadAgg rfl rfl rfl rfl rfl rfl rfl rfl ag50 sz50 (.base hh hb (by simp)) (by omega) hrX ?_
 iterate 2 refine .P ?_
 refine .K Tryz.underlying22 sz50 ?_
 refine .loadAggOld rfl rfl rfl rfl rfl rfl ag50 sz50 (.base hh hb (by simp)) (by omega) hrY (by first | exact hB _ _ (.head _) | exact hB _ _ (.tail _ (.head _)) | exact hB _ _ (.tail _ (.tail _ (.head _))) | exact hB _ _ (.tail _ (.tail _ (.tail _ (.head _)))) | exact hB _ _ (List.mem_append_right _ (.head _)) | exact hB _ _ (List.mem_append_right _ (.tail _ (.head _))) | exact Nat.lt_of_lt_of_le ‹_› hbase) ?_
 refine .alloc rfl rfl rfl rfl rfl zr50 (fun b7 hn7 hb7 => ?_)
 refine .alloc rfl rfl rfl rfl rfl zr50 (fun b8 hn8 hb8 => ?_)
 refine .storeNew rfl rfl (by kernel_rfl) hn7 rfl rfl rfl rfl rfl sz50 rfl (by first | exact .head | exact .tail .head | exact .tail (.tail .head) | exact .tail (.tail (.tail .head)) | exact updo) rfl ?_
 refine .storeNew rfl rfl (by kernel_rfl) hn8 rfl rfl rfl rfl rfl sz50 rfl (by first | exact .head | exact .tail .head | exact .tail (.tail .head) | exact .tail (.tail (.tail .head)) | exact updo) rfl ?_
 refine .nil (.seq (.seq (.block ?_)))
 refine .joinA (True) [(17, .bool z0)] ?_ (fun _ => ?_)
 ·refine .region ?_
  iterate 2 refine .P ?_
  refine .call _ rfl rfl rfl rfl rfl rfl (fun m hm => rvalue_ok hm.lole (hlS0.mono (Mem.kr hm) (RTy.mono (Mem.kr hm))) hx_) ?_
  refine .P ?_
  refine .splitB 21 rfl (fun hs_21 => ?_) (fun hs_21 => ?_)
  ·(try simp only [nz] at hs_21); try simp only [nq] at hs_21
   iterate 2 refine .P ?_
   refine .call _ rfl rfl rfl rfl rfl rfl (fun m hm => rvalue_ok hm.lole (hlS0.mono (Mem.kr hm) (RTy.mono (Mem.kr hm))) hy_) ?_
   iterate 2 refine .P ?_
   refine .splitB 26 rfl (fun hs_26 => ?_) (fun hs_26 => ?_)
   ·(try simp only [nz] at hs_26); try simp only [nq] at hs_26
    iterate 3 refine .P ?_
    refine .calln _ _ _ rfl rfl rfl rfl rfl rfl (fun m hm => Same_ok hm.lole (hlS0.mono (Mem.kr hm) (RTy.mono (Mem.kr hm))) hwl hn14 hWl hp hq) (fun z1 hz1 => ?_)
    iterate 2 refine .P ?_
    refine .nil ?_
    refine .as 17 (.bool z0) rfl (congrArg Value.bool (by first | exact joinF1 hs_21 hz0 | exact joinF2 hs_26 hz0 | exact joinT hs_21 hs_26 hz1 hz0)) ?_
    exact .J (trivial)
   (try simp only [nz] at hs_26); try simp only [nq] at hs_26
   iterate 4 refine .O ?_
   iterate 2 refine .P ?_
   refine .nil ?_
   refine .as 17 (.bool z0) rfl (congrArg Value.bool (by first | exact joinF1 hs_21 hz0 | exact joinF2 hs_26 hz0 | exact joinT hs_21 hs_26 hz1 hz0)) ?_
   exact .J (trivial)
  (try simp only [nz] at hs_21); try simp only [nq] at hs_21
  iterate 3 refine .O ?_
  iterate 2 refine .P ?_
  iterate 4 refine .O ?_
  iterate 2 refine .P ?_
  refine .nil ?_
  refine .as 17 (.bool z0) rfl (congrArg Value.bool (by first | exact joinF1 hs_21 hz0 | exact joinF2 hs_26 hz0 | exact joinT hs_21 hs_26 hz1 hz0)) ?_
  exact .J (trivial)
 refine .cond rfl (fun ht17 => ?_) (fun ht17 => ?_)
 ·refine .seq (.region (.P ?_))
  refine .nil (.seq (.ret (.blk (.seq ?_))))
  exact .end_ rfl rfl (fun m hm => ⟨_, AsgT.of hx_ hy_ (⟨fun _ => AsgX.vals (hz0.1 ht17), fun _ => rfl⟩), rfl, hm.ext, News.nil _ _⟩)
 refine .seq (.region (.F fa50_0 ?_))
 refine .L ag3 ?_
 iterate 2 refine .P ?_
 refine .nil (.seq ?_)
 refine .cond rfl (fun ht32 => ?_) (fun ht32 => ?_)
 ·(try simp only [nz] at ht32); try simp only [nq] at ht32
  refine .seq (.region (.F fa50_0 ?_))
  refine .L ag3 ?_
  iterate 2 refine .P ?_
  refine .splitB 39 rfl (fun hs_39 => ?_) (fun hs_39 => ?_)
  ·(try simp only [nz] at hs_39); try simp only [nq] at hs_39
   iterate 3 refine .O ?_
   iterate 2 refine .P ?_
   iterate 3 refine .O ?_
   iterate 2 refine .P ?_
   iterate 3 refine .O ?_
   iterate 2 refine .P ?_
   iterate 3 refine .O ?_
   iterate 2 refine .P ?_
   refine .nil (.seq (.ret (.blk (.seq ?_))))
   exact .end_ rfl rfl (fun m hm => ⟨_, AsgT.of hx_ hy_ (by rw [AsgX.any (by omega)]; simp only [nrm_eq, true_iff]; omega), rfl, hm.ext, News.nil _ _⟩)
  (try simp only [nz] at hs_39); try simp only [nq] at hs_39
  refine .F fa50_0 ?_
  refine .L ag3 ?_
  iterate 3 refine .P ?_
  refine .splitB 44 rfl (fun hs_44 => ?_) (fun hs_44 => ?_)
  ·(try simp only [nz] at hs_44); try simp only [nq] at hs_44
   iterate 3 refine .O ?_
   iterate 2 refine .P ?_
   iterate 3 refine .O ?_
   iterate 2 refine .P ?_
   iterate 3 refine .O ?_
   iterate 2 refine .P ?_
   refine .nil (.seq (.ret (.blk (.seq ?_))))
   exact .end_ rfl rfl (fun m hm => ⟨_, AsgT.of hx_ hy_ (by rw [AsgX.any (by omega)]; simp only [nrm_eq, true_iff]; omega), rfl, hm.ext, News.nil _ _⟩)
  (try simp only [nz] at hs_44); try simp only [nq] at hs_44
  refine .F fa50_0 ?_
  refine .L ag3 ?_
  iterate 3 refine .P ?_
  refine .splitB 49 rfl (fun hs_49 => ?_) (fun hs_49 => ?_)
  ·(try simp only [nz] at hs_49); try simp only [nq] at hs_49
   iterate 3 refine .O ?_
   iterate 2 refine .P ?_
   iterate 3 refine .O ?_
   iterate 2 refine .P ?_
   refine .nil (.seq (.ret (.blk (.seq ?_))))
   exact .end_ rfl rfl (fun m hm => ⟨_, AsgT.of hx_ hy_ (by rw [AsgX.any (by omega)]; simp only [nrm_eq, true_iff]; omega), rfl, hm.ext, News.nil _ _⟩)
  (try simp only [nz] at hs_49); try simp only [nq] at hs_49
  refine .F fa50_0 ?_
  refine .L ag3 ?_
  iterate 3 refine .P ?_
  refine .splitB 54 rfl (fun hs_54 => ?_) (fun hs_54 => ?_)
  ·(try simp only [nz] at hs_54); try simp only [nq] at hs_54
   iterate 3 refine .O ?_
   iterate 2 refine .P ?_
   refine .nil (.seq (.ret (.blk (.seq ?_))))
   exact .end_ rfl rfl (fun m hm => ⟨_, AsgT.of hx_ hy_ (by rw [AsgX.any (by omega)]; simp only [nrm_eq, true_iff]; omega), rfl, hm.ext, News.nil _ _⟩)
  (try simp only [nz] at hs_54); try simp only [nq] at hs_54
  refine .F fa50_0 ?_
  refine .L ag3 ?_
  iterate 3 refine .P ?_
  refine .nil (.seq (.ret (.blk (.seq ?_))))
  exact .end_ rfl rfl (fun m hm => ⟨(eqI x_.kind 13), AsgT.of hx_ hy_ (by rw [AsgX.any (by omega)]; simp only [nrm_eq]; omega), rfl, hm.ext, News.nil _ _⟩)
 (try simp only [nz] at ht32); try simp only [nq] at ht32
 refine .skip (.blk (.seq (.seq ?_)))
 refine .D [(15, 0), (3, 1), (15, 3), (15, 7), (15, 15), (3, 31), (15, 63), (15, 127), (15, 255), (15, 511), (3, 1023), (15, 2047), (15, 4095), (15, 8191), (15, 16383), (3, 32767), (15, 65535), (15, 131071), (15, 262143), (15, 524287), (15, 524287), (3, 1572863), (15, 3670015), (3, 7864319), (15, 524287), (3, 17301503), (15, 50855935), (3, 117964799), (7, 268435455), (15, 536870911), (15, 1073741823)] (by kernel_rfl) (by kernel_rfl) (fun base hbase hB => ?_)
 refine .F fa50_0 ?_
 refine .load rfl rfl rfl rfl rfl rfl rfl rfl ag3 (by repeat first | exact .head | exact .app .head | exact .base ‹_› ‹_› (by simp) | refine .tail ?_ | refine .app ?_) rfl ?_
 iterate 2 refine .P ?_
 refine .splitB 62 rfl (fun hs_62 => ?_) (fun hs_62 => ?_)
 ·(try simp only [nz] at hs_62); try simp only [nq] at hs_62
  refine .F fa50_0 ?_
  refine .load rfl rfl rfl rfl rfl rfl rfl rfl ag3 (by repeat first | exact .head | exact .app .head | exact .base ‹_› ‹_› (by simp) | refine .tail ?_ | refine .app ?_) rfl ?_
  iterate 3 refine .P ?_
  refine .splitB 67 rfl (fun hs_67 => ?_) (fun hs_67 => ?_)
  ·(try simp only [nz] at hs_67); try simp only [nq] at hs_67
   refine .F fa50_2 ?_
   refine .load rfl rfl rfl rfl rfl rfl rfl rfl ag9 (by repeat first | exact .head | exact .app .head | exact .base ‹_› ‹_› (by simp) | refine .tail ?_ | refine .app ?_) rfl ?_
   iterate 3 refine .P ?_
   refine .splitB 72 rfl (fun hs_72 => ?_) (fun hs_72 => ?_)
   ·(try simp only [nz] at hs_72); try simp only [nq] at hs_72
    refine .F fa50_2 ?_
    refine .load rfl rfl rfl rfl rfl rfl rfl rfl ag9 (by repeat first | exact .head | exact .app .head | exact .base ‹_› ‹_› (by simp) | refine .tail ?_ | refine .app ?_) rfl ?_
    iterate 3 refine .P ?_
    refine .splitB 77 rfl (fun hs_77 => ?_) (fun hs_77 => ?_)
    ·(try simp only [nz] at hs_77); try simp only [nq] at hs_77
     have hshx := (single_zero (hWl.all p x_ hx_)).1
     have hshy := (single_zero (hWl.all q y_ hy_)).1
     unfold shapedB at hshx hshy
     have hshx := (of_decide_eq_true hshx).1
     have hshy := (of_decide_eq_true hshy).1
     unfold shapeP at hshx hshy
     have hltE : 0 < x_.elems.length := by omega
     have hltG : 0 < y_.elems.length := by omega
     obtain ⟨p0, hp0⟩ : ∃ w_, x_.elems[0]? = some w_ := ⟨_, List.getElem?_eq_getElem hltE⟩
     rcases heX with ⟨e0, -⟩ | ⟨bE, offE, csE, elE, gE, mdE, mateE, rfl, ⟨hbE, hhE⟩, hleE, hcE⟩
     ·rw [e0] at hltE; simp at hltE
     have hrp := hcE 0 p0 hp0
     obtain ⟨q0, hq0_⟩ : ∃ w_, y_.elems[0]? = some w_ := ⟨_, List.getElem?_eq_getElem hltG⟩
     rcases heY with ⟨e0, -⟩ | ⟨bG, offG, csG, elG, gG, mdG, mateG, rfl, ⟨hbG, hhG⟩, hleG, hcG⟩
     ·rw [e0] at hltG; simp at hltG
     have hrq := hcG 0 q0 hq0_
     obtain ⟨p2, rfl, hpl⟩ := parts_in (hsnd p x_ hx_) (parts_elem hp0)
     obtain ⟨q2, rfl, hql⟩ := parts_in (hsnd q y_ hy_) (parts_elem hq0_)
     refine .P ?_
     refine .F fa50_1 ?_
     refine .load rfl rfl rfl rfl rfl rfl rfl rfl ag32 (by repeat first | exact .head | exact .app .head | exact .base ‹_› ‹_› (by simp) | refine .tail ?_ | refine .app ?_) rfl ?_
     refine .K Tryz.underlying32 sz3 ?_
     refine .M ag3 (.base hhE hbE (by simp)) (cell_of_take hrp (k := 0) rfl) ?_
     refine .F fa50_1 ?_
     refine .load rfl rfl rfl rfl rfl rfl rfl rfl ag32 (by repeat first | exact .head | exact .app .head | exact .base ‹_› ‹_› (by simp) | refine .tail ?_ | refine .app ?_) rfl ?_
     refine .K Tryz.underlying32 sz3 ?_
     refine .M ag3 (.base hhG hbG (by simp)) (cell_of_take hrq (k := 0) rfl) ?_
     refine .calln _ _ _ rfl rfl rfl rfl rfl rfl rfl rfl rfl (fun m hm => Same_ok hm.lole (hlS0.mono (Mem.kr hm) (RTy.mono (Mem.kr hm))) hwl hn14 hWl hpl hql) (fun z2 hz2 => ?_)
     iterate 2 refine .P ?_
     refine .nil (.seq (.ret ?_))
     exact .end_ rfl rfl (fun m hm => ⟨_, AsgT.of hx_ hy_ (AsgX.ref (fun h => (by rw [hz0.2 h] at ht17; cases ht17)) (by omega) ⟨by omega, by omega, by omega, by omega⟩ hp0 hq0_ hz2), rfl, hm.ext, News.nil _ _⟩)
    (try simp only [nz] at hs_77); try simp only [nq] at hs_77
    iterate 10 refine .O ?_
    iterate 2 refine .P ?_
    refine .nil (.seq (.ret ?_))
    exact .end_ rfl rfl (fun m hm => ⟨_, AsgT.of hx_ hy_ ((by constructor; (intro h_; cases h_); exact fun h_ => absurd h_ (AsgX.other (fun h => (by rw [hz0.2 h] at ht17; cases ht17)) (by omega) (by omega)))), rfl, hm.ext, News.nil _ _⟩)
   (try simp only [nz] at hs_72); try simp only [nq] at hs_72
   iterate 3 refine .O ?_
   iterate 2 refine .P ?_
   iterate 10 refine .O ?_
   iterate 2 refine .P ?_
   refine .nil (.seq (.ret ?_))
   exact .end_ rfl rfl (fun m hm => ⟨_, AsgT.of hx_ hy_ ((by constructor; (intro h_; cases h_); exact fun h_ => absurd h_ (AsgX.other (fun h => (by rw [hz0.2 h] at ht17; cases ht17)) (by omega) (by omega)))), rfl, hm.ext, News.nil _ _⟩)
  (try simp only [nz] at hs_67); try simp only [nq] at hs_67
  iterate 3 refine .O ?_
  iterate 2 refine .P ?_
  iterate 3 refine .O ?_
  iterate 2 refine .P ?_
  iterate 10 refine .O ?_
  iterate 2 refine .P ?_
  refine .nil (.seq (.ret ?_))
  exact .end_ rfl rfl (fun m hm => ⟨_, AsgT.of hx_ hy_ ((by constructor; (intro h_; cases h_); exact fun h_ => absurd h_ (AsgX.other (fun h => (by rw [hz0.2 h] at ht17; cases ht17)) (by omega) (by omega)))), rfl, hm.ext, News.nil _ _⟩)
 (try simp only [nz] at hs_62); try simp only [nq] at hs_62
 iterate 3 refine .O ?_
 iterate 2 refine .P ?_
 iterate 3 refine .O ?_
 iterate 2 refine .P ?_
 iterate 3 refine .O ?_
 iterate 2 refine .P ?_
 iterate 10 refine .O ?_
 iterate 2 refine .P ?_
 refine .nil (.seq (.ret ?_))
 exact .end_ rfl rfl (fun m hm => ⟨_, AsgT.of hx_ hy_ ((by constructor; (intro h_; cases h_); exact fun h_ => absurd h_ (AsgX.other (fun h => (by rw [hz0.2 h] at ht17; cases ht17)) (by omega) (by omega)))), rfl, hm.ext, News.nil _ _⟩)
theorem tequal_ok {l : List Ty} {vl : Value} {t u : Int} {m : AW} (hm : m.lo ≤ m.next) (hlS : Sl (Mem m) 5 (RTy (Mem m)) l vl) : Fc Tryz.prog 4 [vl, .int .i64 t, .int .i64 u] m fun v m' => v = .bool true ∧ Ext m m' := by
 have hlS0 := hlS
 obtain ⟨al, cl, rfl, hnl, hl⟩ := hlS
 refine Fc.body (c := _) Tryz.func4 rfl rfl rfl rfl hm ?_
 refine .seq (.region (.P ?_))
 refine .nil (.seq (.seq (.seq (.region ?_))))
 refine .call _ rfl rfl rfl rfl rfl rfl (fun m hm => awake_ok) ?_
 iterate 3 refine .P ?_
 refine .call _ rfl rfl rfl rfl rfl rfl (fun m hm => few_ok hm.lole (hlS0.mono (Mem.kr hm) (RTy.mono (Mem.kr hm)))) ?_
 iterate 2 refine .P ?_
 refine .nil (.seq ?_)
 refine .cond rfl (fun ht18 => ?_) (fun ht18 => ?_)
 ·refine .seq (.region ?_)
  refine .call _ rfl rfl rfl rfl rfl rfl (fun m hm => awake_ok) ?_
  refine .P ?_
  refine .nil (.seq (.ret (.seq ?_)))
  exact .end_ rfl rfl (fun m hm => ⟨rfl, hm.ext⟩)
 have hfew : fewB l = true := by cases hf : fewB l with | true => rfl | false => rw [hf] at ht18; cases ht18
 obtain ⟨hn14, hwl⟩ := few_all hfew
 refine .skip (.seq (.seq (.region (.P ?_))))
 refine .calln _ _ _ rfl rfl rfl rfl rfl rfl (fun m hm => own_ok hm.lole (hlS0.mono (Mem.kr hm) (RTy.mono (Mem.kr hm))) hwl hn14) (fun zo hzo => ?_)
 iterate 2 refine .P ?_
 refine .calln _ _ _ rfl rfl rfl rfl rfl rfl (fun m hm => Equal_ok (t := t) (u := u) hm.lole (hzo.mono (InH.kr hm fun p_ hp_ => List.mem_append_left _ hp_) fun x_ cs_ h_ => RTy.mono (InH.kr hm fun p_ hp_ => List.mem_append_left _ hp_) x_ cs_ h_.1) hwl hn14) (fun x1 hx1 => ?_)
 iterate 5 refine .P ?_
 refine .nil (.seq (.seq (.region (.P ?_))))
 refine .calln _ _ _ rfl rfl rfl rfl rfl rfl (fun m hm => own_ok hm.lole (hlS0.mono (Mem.kr hm) (RTy.mono (Mem.kr hm))) hwl hn14) (fun zp hzp => ?_)
 iterate 2 refine .P ?_
 refine .calln _ _ _ rfl rfl rfl rfl rfl rfl (fun m hm => Assignable_ok (t := t) (u := u) hm.lole (hzp.mono (InH.kr hm fun p_ hp_ => List.mem_append_left _ hp_) fun x_ cs_ h_ => RTy.mono (InH.kr hm fun p_ hp_ => List.mem_append_left _ hp_) x_ cs_ h_.1) hwl hn14) (fun x2 hx2 => ?_)
 iterate 5 refine .P ?_
 refine .nil (.seq (.seq (.seq (.region ?_))))
 iterate 3 refine .P ?_
 refine .buildSlice rfl rfl rfl rfl rfl (bs32_2 ..) (fun b39 hb39 => ?_)
 refine .calln _ _ _ rfl rfl rfl rfl rfl rfl (fun m hm => rasked_ok hm.lole (hlS0.mono (Mem.kr hm) (RTy.mono (Mem.kr hm))) hwl hn14 ((Sl.two (b := b39) (c := 2) (el := 3) (g := false) (md := .plain) (mate := none)).mono (InH.kr (l := [(b39, .cells [.int .i64 t, .int .i64 u] 3 false .plain none)]) hm (fun p_ hp_ => by rw [List.mem_singleton.1 hp_]; exact List.mem_cons_self)) fun _ _ h => h)) (fun e he => ?_)
 refine .P ?_
 refine .nil (.seq (.seq (.region ?_)))
 iterate 2 refine .P ?_
 refine .nil (.seq ?_)
 refine .cond rfl (fun ht42 => ?_) (fun ht42 => ?_)
 ·try simp only [nz] at ht42
  have hne : e ≠ 0 := by omega
  refine .seq (.region ?_)
  iterate 3 refine .P ?_
  refine .as 45 (.bool true) rfl (congrArg Value.bool (by rw [eqI_eq]; exact decide_eq_true (hx1.err he))) ?_
  iterate 4 refine .P ?_
  refine .as 49 (.bool true) rfl (congrArg Value.bool (by rw [eqI_eq]; exact decide_eq_true (hx2.err he))) ?_
  iterate 4 refine .P ?_
  refine .as 53 (.bool true) rfl (congrArg Value.bool (by rw [hx1.no he hne]; rfl)) ?_
  iterate 4 refine .P ?_
  refine .as 57 (.bool true) rfl (congrArg Value.bool (by rw [hx2.no he hne]; rfl)) ?_
  iterate 2 refine .P ?_
  refine .nil (.seq (.ret (.seq ?_)))
  exact .end_ rfl rfl (fun m hm => ⟨rfl, hm.ext⟩)
 try simp only [nz] at ht42
 have he0 : e = 0 := by omega
 subst he0
 obtain ⟨p, q, rfl, rfl, hp, hq⟩ := he.at2
 have hFi := he.fine
 have hWl := hFi.well
 refine .skip (.seq (.seq (.region ?_)))
 iterate 2 refine .P ?_
 refine .as 60 (.bool true) rfl (congrArg Value.bool (by rw [eqI_eq]; exact decide_eq_true (hx1.err he))) ?_
 iterate 3 refine .P ?_
 refine .as 63 (.bool true) rfl (congrArg Value.bool (by rw [eqI_eq]; exact decide_eq_true (hx2.err he))) ?_
 iterate 6 refine .P ?_
 refine .calln _ _ _ rfl rfl rfl rfl rfl rfl (fun m hm => Same_ok hm.lole (hlS0.mono (Mem.kr hm) (RTy.mono (Mem.kr hm))) hwl hn14 hWl hp hq) (fun z3 hz3 => ?_)
 refine .eqBool rfl rfl rfl rfl Tryz.underlying4 rfl rfl ?_
 refine .as 71 (.bool true) rfl (congrArg Value.bool (by rw [hx1.is he hz3]; cases z3 <;> rfl)) ?_
 iterate 6 refine .P ?_
 refine .calln _ _ _ rfl rfl rfl rfl rfl rfl (fun m hm => rAssignable_ok hm.lole (hlS0.mono (Mem.kr hm) (RTy.mono (Mem.kr hm))) hwl hn14 hWl hp hq) (fun z4 hz4 => ?_)
 refine .eqBool rfl rfl rfl rfl Tryz.underlying4 rfl rfl ?_
 refine .as 79 (.bool true) rfl (congrArg Value.bool (by rw [hx2.is he hz4]; cases z4 <;> rfl)) ?_
 iterate 2 refine .P ?_
 refine .nil (.seq (.ret ?_))
 exact .end_ rfl rfl (fun m hm => ⟨rfl, hm.ext⟩)
end Go.Proofs.YtmfbljaemhpokaaGreatDoor
