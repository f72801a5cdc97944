/-
  TypesWidens: the functions that it calls, followed, 2. Conditions: none.
-/
import Derived.Test.YtmfbljaemhpokaaGreatDoorAwk
import Derived.Test.YtmfbljaemhpokaaGreatDoorGra
import Derived.Test.YtmfbljaemhpokaaGreatDoorWidens1
namespace Go.Proofs.YtmfbljaemhpokaaGreatDoor
open Go Go.Ab
set_option linter.unusedVariables false
set_option linter.unusedSimpArgs false
set_option linter.unusedSectionVars false
open Tryz
theorem slots_step {l : List Ty} {al : Option Addr} {cl bx bm u k t : Nat} {r : Nat → Nat} {y0 : LySt} {gl : Gro} {csl : List Value} {o0 : List SlV} {m : AW} (hm : m.lo ≤ m.next) (hk : Knows (SlN bx bm (.slice al l.length cl) y0 gl csl) m m (SlH bx bm (.slice al l.length cl) y0 gl csl)) (hM : LyM l y0) (hF : Flat 2 RSlot o0 csl) (hO : gl.Ok o0.length) (hlS : TabL l (.slice al l.length cl) (SlN bx bm (.slice al l.length cl) y0 gl csl) m) (hFi : Fine l) (hSm : Sml l) (hwl : ∀ (i : Nat) (a : Ty), l[i]? = some a → FewT a) (hn14 : l.length ≤ 14) (hrk : Ranked l r) (ht : ValT l t) (hrt : r t < k + 1) (hu : unm l y0.S.keys ≤ u) (hroom : o0.length + 1536 * r t + 1536 ≤ 4000000) (ihN : NumC l (.slice al l.length cl) bx bm u) (ihS : SloC l (.slice al l.length cl) r bx bm u k) : Fc prog 85 [ptr bx, gl.V o0.length, .int .i64 (Int.ofNat (t))] m fun v m' => SlQ l (.slo t) bx bm (.slice al l.length cl) y0 gl csl o0 m v m' := by
 have hWl := hFi.well
 have hlS0 := hlS
 obtain ⟨x_, hx_, hval⟩ := ht
 have hlt : t < l.length := (List.getElem?_eq_some_iff.1 hx_).1
 obtain ⟨b, off, cs, el, g, md, mate, hal, ⟨hb, hh⟩, hle, hc⟩ := sl_open hlS (by omega)
 have hrX := hc t x_ hx_
 obtain ⟨veX, vfX, vaX, hrX, heX, hfX, hgX⟩ := hrX
 obtain ⟨aeX, ceX, rfl, hneX, heX⟩ := heX
 have hfSX := hfX
 obtain ⟨afX, cfX, rfl, hnfX, hfX⟩ := hfX
 obtain ⟨aaX, caX, rfl, hnaX, hgX⟩ := hgX
 refine Fc.bodyS (S := SlN bx bm (.slice al l.length cl) y0 gl csl) (c := _) func85 rfl rfl rfl rfl (show Knows _ m m (SlH bx bm (.slice al l.length cl) y0 gl csl) from hk) ?_
 refine .seq (.region (.P ?_))
 refine .nil (.seq (.seq (.region (.P2 ?_))))
 refine .F fa120_0 ?_
 refine .L ag22 ?_
 refine .as 20 (.slice (some ⟨b, off, none⟩) l.length cl) rfl (congrArg (Value.slice · l.length cl) hal) ?_
 refine .P ?_
 refine .indexAddr rfl rfl rfl rfl underlying22 sz50 rfl rfl (hlt) ?_
 refine .A ag50 sz50 (Off.sees rfl rfl _ _ ⟨hb, hh⟩) hrX ?_
 refine .alloc rfl rfl rfl rfl zr50 (fun b7 hb7 => ?_)
 refine .S sz50 ?_
 refine .nil (.seq (.seq (.seq (.region (.F fa50_0 ?_)))))
 refine .L ag3 ?_
 refine .nil (.seq (.block (.seq (.region (.P2 ?_)))))
 refine .nil (.seq (.cond rfl (fun ht26 => ?_) fun ht26 => ?_))
 ·try simp only [nz] at ht26
  refine .seq (.region (.P ?_))
  refine .p (v := .agg ⟨[.int .i64 1, .int .i64 0]⟩) rfl rfl rfl (by kernel_rfl) ?_
  refine .buildSlice rfl rfl rfl rfl rfl (bs56_1 ..) (fun b30 hb30 => ?_)
  refine .appendSl (R := RSlot) (l0 := o0) (l := [(1, 0)]) (L := (o0 ++ [(1, 0)])) (g := gl) (cs := csl) rfl (.tail (.tail (.over .all))) hF hO (Sl.single (R := RSlot) (x := (1, 0)) (b := b30) (c := 1) (el := 129) (g := false) (md := .plain) (mate := none) rfl rfl) ((InH.sees (by intro p_ hp_; rw [List.mem_singleton.1 hp_]; exact List.mem_cons_self))) RSlot.flats (by simp; omega) rfl rfl rfl rfl underlying56 underlying56 ap129 rfl rfl (fun g1 cs1 hF1 hO1 => ?_)
  refine .P ?_
  refine .nil (.seq (.ret (.blk (.seq ?_))))
  exact .end_ rfl rfl (fun m hm => ⟨⟨y0, g1, cs1, [(1, 0)]⟩, ⟨RunL.str hx_ (by omega), hM, hF1, hO1, Nat.le_refl _⟩, rfl, (hm.perm sl_perm2).sub (List.sublist_append_left _ _)⟩)
 try simp only [nz] at ht26
 refine .seq (.region (.P2 ?_))
 refine .nil (.seq (.cond rfl (fun ht32 => ?_) fun ht32 => ?_))
 ·try simp only [nz] at ht32
  obtain ⟨q_, heq, hvq, hed⟩ := hFi.elem hx_ (by omega)
  have hp0 : x_.elems[0]? = some (Int.ofNat q_) := by rw [heq]; rfl
  rcases heX with ⟨e0, -⟩ | ⟨bE, offE, csE, elE, gE, mdE, mateE, rfl, ⟨hbE, hhE⟩, hleE, hcE⟩
  ·rw [e0] at heq; cases heq
  have hrp := hcE 0 _ hp0
  have hkd : x_.kind - 4 = 2 := by omega
  refine .seq (.region (.P ?_))
  refine .F fa50_1 ?_
  refine .L ag32 ?_
  refine .indexAddr rfl rfl rfl rfl underlying32 sz3 rfl rfl (by rw [heq]; exact Nat.one_pos) ?_
  refine .M ag3 (Off.sees rfl rfl _ _ ⟨hbE, hhE⟩) (cell_of_take hrp (k := 0) rfl) ?_
  refine .p (v := givV ⟨q_, ⟨#[]⟩, false⟩) rfl rfl rfl (by kernel_rfl) ?_
  refine .callc (NumP l ⟨q_, ⟨#[]⟩, false⟩ y0) (fun z => .int .i64 (Int.ofNat z.1)) (fun z => LyH bx bm (.slice al l.length cl) z.2) (.tail .here) rfl rfl rfl rfl rfl rfl (fun m2 k1_ g2_ => ihN ⟨q_, ⟨#[]⟩, false⟩ y0 m2 (by obtain ⟨a_, h1_, h2_⟩ := hvq; exact ⟨a_, h1_, by rw [if_neg Bool.false_ne_true]; exact ⟨rfl, h2_⟩⟩) hu k1_.lole' g2_ hM (hlS0.mono (Off.into k1_ (fun b_ h_ => by rw [List.map_append]; exact List.mem_append_left _ h_)) (RTy.mono (Off.into k1_ (fun b_ h_ => by rw [List.map_append]; exact List.mem_append_left _ h_))))) (fun z hz => ?_)
  refine .P ?_
  refine .nil (.seq (.seq (.region (.P2 ?_))))
  refine .p (v := .agg ⟨[.int .i64 2, .int .i64 (Int.ofNat z.1)]⟩) rfl rfl rfl (by kernel_rfl) ?_
  refine .buildSlice rfl rfl rfl rfl rfl (bs56_1 ..) (fun b44 hb44 => ?_)
  refine .appendSl (R := RSlot) (l0 := o0) (l := [(2, (Int.ofNat z.1))]) (L := (o0 ++ [(2, (Int.ofNat z.1))])) (g := gl) (cs := csl) rfl (.tail (.over (.tail .all))) hF hO (Sl.single (R := RSlot) (x := (2, (Int.ofNat z.1))) (b := b44) (c := 1) (el := 129) (g := false) (md := .plain) (mate := none) rfl rfl) ((InH.sees (by intro p_ hp_; rw [List.mem_singleton.1 hp_]; exact List.mem_cons_self))) RSlot.flats (by simp; omega) rfl rfl rfl rfl underlying56 underlying56 ap129 rfl rfl (fun g1 cs1 hF1 hO1 => ?_)
  refine .P ?_
  refine .nil (.seq (.ret (.blk (.seq ?_))))
  exact .end_ rfl rfl (fun m hm => ⟨⟨z.2, g1, cs1, [(2, (Int.ofNat z.1))]⟩, ⟨(by have h_ := RunL.elem hx_ (by omega) heq hz.run; rw [hkd] at h_; exact h_), hz.mem, hF1, hO1, hz.left⟩, rfl, (hm.perm sl_perm1).sub (List.sublist_append_left _ _)⟩)
 try simp only [nz] at ht32
 refine .seq (.region (.P2 ?_))
 refine .nil (.seq (.cond rfl (fun ht46 => ?_) fun ht46 => ?_))
 ·try simp only [nz] at ht46
  obtain ⟨q_, heq, hvq, hed⟩ := hFi.elem hx_ (by omega)
  have hp0 : x_.elems[0]? = some (Int.ofNat q_) := by rw [heq]; rfl
  rcases heX with ⟨e0, -⟩ | ⟨bE, offE, csE, elE, gE, mdE, mateE, rfl, ⟨hbE, hhE⟩, hleE, hcE⟩
  ·rw [e0] at heq; cases heq
  have hrp := hcE 0 _ hp0
  have hkd : x_.kind - 4 = 3 := by omega
  refine .seq (.region (.P ?_))
  refine .F fa50_1 ?_
  refine .L ag32 ?_
  refine .indexAddr rfl rfl rfl rfl underlying32 sz3 rfl rfl (by rw [heq]; exact Nat.one_pos) ?_
  refine .M ag3 (Off.sees rfl rfl _ _ ⟨hbE, hhE⟩) (cell_of_take hrp (k := 0) rfl) ?_
  refine .p (v := givV ⟨q_, ⟨#[]⟩, false⟩) rfl rfl rfl (by kernel_rfl) ?_
  refine .callc (NumP l ⟨q_, ⟨#[]⟩, false⟩ y0) (fun z => .int .i64 (Int.ofNat z.1)) (fun z => LyH bx bm (.slice al l.length cl) z.2) (.tail .here) rfl rfl rfl rfl rfl rfl (fun m2 k1_ g2_ => ihN ⟨q_, ⟨#[]⟩, false⟩ y0 m2 (by obtain ⟨a_, h1_, h2_⟩ := hvq; exact ⟨a_, h1_, by rw [if_neg Bool.false_ne_true]; exact ⟨rfl, h2_⟩⟩) hu k1_.lole' g2_ hM (hlS0.mono (Off.into k1_ (fun b_ h_ => by rw [List.map_append]; exact List.mem_append_left _ h_)) (RTy.mono (Off.into k1_ (fun b_ h_ => by rw [List.map_append]; exact List.mem_append_left _ h_))))) (fun z hz => ?_)
  refine .P ?_
  refine .nil (.seq (.seq (.region (.P2 ?_))))
  refine .p (v := .agg ⟨[.int .i64 3, .int .i64 (Int.ofNat z.1)]⟩) rfl rfl rfl (by kernel_rfl) ?_
  refine .buildSlice rfl rfl rfl rfl rfl (bs56_1 ..) (fun b58 hb58 => ?_)
  refine .appendSl (R := RSlot) (l0 := o0) (l := [(3, (Int.ofNat z.1))]) (L := (o0 ++ [(3, (Int.ofNat z.1))])) (g := gl) (cs := csl) rfl (.tail (.over (.tail .all))) hF hO (Sl.single (R := RSlot) (x := (3, (Int.ofNat z.1))) (b := b58) (c := 1) (el := 129) (g := false) (md := .plain) (mate := none) rfl rfl) ((InH.sees (by intro p_ hp_; rw [List.mem_singleton.1 hp_]; exact List.mem_cons_self))) RSlot.flats (by simp; omega) rfl rfl rfl rfl underlying56 underlying56 ap129 rfl rfl (fun g1 cs1 hF1 hO1 => ?_)
  refine .P ?_
  refine .nil (.seq (.ret (.blk (.seq ?_))))
  exact .end_ rfl rfl (fun m hm => ⟨⟨z.2, g1, cs1, [(3, (Int.ofNat z.1))]⟩, ⟨(by have h_ := RunL.elem hx_ (by omega) heq hz.run; rw [hkd] at h_; exact h_), hz.mem, hF1, hO1, hz.left⟩, rfl, (hm.perm sl_perm1).sub (List.sublist_append_left _ _)⟩)
 try simp only [nz] at ht46
 refine .seq (.region (.P2 ?_))
 refine .nil (.seq (.cond rfl (fun ht60 => ?_) fun ht60 => ?_))
 ·try simp only [nz] at ht60
  obtain ⟨q_, heq, hvq, hed⟩ := hFi.elem hx_ (by omega)
  have hp0 : x_.elems[0]? = some (Int.ofNat q_) := by rw [heq]; rfl
  rcases heX with ⟨e0, -⟩ | ⟨bE, offE, csE, elE, gE, mdE, mateE, rfl, ⟨hbE, hhE⟩, hleE, hcE⟩
  ·rw [e0] at heq; cases heq
  have hrp := hcE 0 _ hp0
  have hkd : x_.kind - 4 = 4 := by omega
  refine .seq (.region (.P ?_))
  refine .F fa50_1 ?_
  refine .L ag32 ?_
  refine .indexAddr rfl rfl rfl rfl underlying32 sz3 rfl rfl (by rw [heq]; exact Nat.one_pos) ?_
  refine .M ag3 (Off.sees rfl rfl _ _ ⟨hbE, hhE⟩) (cell_of_take hrp (k := 0) rfl) ?_
  refine .p (v := givV ⟨q_, ⟨#[]⟩, false⟩) rfl rfl rfl (by kernel_rfl) ?_
  refine .callc (NumP l ⟨q_, ⟨#[]⟩, false⟩ y0) (fun z => .int .i64 (Int.ofNat z.1)) (fun z => LyH bx bm (.slice al l.length cl) z.2) (.tail .here) rfl rfl rfl rfl rfl rfl (fun m2 k1_ g2_ => ihN ⟨q_, ⟨#[]⟩, false⟩ y0 m2 (by obtain ⟨a_, h1_, h2_⟩ := hvq; exact ⟨a_, h1_, by rw [if_neg Bool.false_ne_true]; exact ⟨rfl, h2_⟩⟩) hu k1_.lole' g2_ hM (hlS0.mono (Off.into k1_ (fun b_ h_ => by rw [List.map_append]; exact List.mem_append_left _ h_)) (RTy.mono (Off.into k1_ (fun b_ h_ => by rw [List.map_append]; exact List.mem_append_left _ h_))))) (fun z hz => ?_)
  refine .P ?_
  refine .nil (.seq (.seq (.region (.P2 ?_))))
  refine .p (v := .agg ⟨[.int .i64 4, .int .i64 (Int.ofNat z.1)]⟩) rfl rfl rfl (by kernel_rfl) ?_
  refine .buildSlice rfl rfl rfl rfl rfl (bs56_1 ..) (fun b72 hb72 => ?_)
  refine .appendSl (R := RSlot) (l0 := o0) (l := [(4, (Int.ofNat z.1))]) (L := (o0 ++ [(4, (Int.ofNat z.1))])) (g := gl) (cs := csl) rfl (.tail (.over (.tail .all))) hF hO (Sl.single (R := RSlot) (x := (4, (Int.ofNat z.1))) (b := b72) (c := 1) (el := 129) (g := false) (md := .plain) (mate := none) rfl rfl) ((InH.sees (by intro p_ hp_; rw [List.mem_singleton.1 hp_]; exact List.mem_cons_self))) RSlot.flats (by simp; omega) rfl rfl rfl rfl underlying56 underlying56 ap129 rfl rfl (fun g1 cs1 hF1 hO1 => ?_)
  refine .P ?_
  refine .nil (.seq (.ret (.blk (.seq ?_))))
  exact .end_ rfl rfl (fun m hm => ⟨⟨z.2, g1, cs1, [(4, (Int.ofNat z.1))]⟩, ⟨(by have h_ := RunL.elem hx_ (by omega) heq hz.run; rw [hkd] at h_; exact h_), hz.mem, hF1, hO1, hz.left⟩, rfl, (hm.perm sl_perm1).sub (List.sublist_append_left _ _)⟩)
 try simp only [nz] at ht60
 refine .seq (.region (.P2 ?_))
 refine .nil (.seq (.cond rfl (fun ht74 => ?_) fun ht74 => ?_))
 ·try simp only [nz] at ht74
  obtain ⟨q_, b_, heq, hb_, hbk, hbw⟩ := hFi.ref hx_ (by omega)
  have hp0 : x_.elems[0]? = some (Int.ofNat q_) := by rw [heq]; rfl
  rcases heX with ⟨e0, -⟩ | ⟨bE, offE, csE, elE, gE, mdE, mateE, rfl, ⟨hbE, hhE⟩, hleE, hcE⟩
  ·rw [e0] at heq; cases heq
  have hrp := hcE 0 _ hp0
  refine .seq ?_
  refine .D [(15, 0), (15, 0), (3, 2), (15, 6), (3, 14), (15, 0), (3, 32), (15, 126), (7, 255), (15, 511)] (by kernel_rfl) (by kernel_rfl) (fun base hbase hB => ?_)
  refine .P ?_
  refine .F fa50_1 ?_
  refine .J ag32 ?_
  refine .indexAddr rfl rfl rfl rfl rfl underlying32 sz3 rfl rfl (by rw [heq]; exact Nat.one_pos) ?_
  refine .M ag3 (Off.sees rfl rfl _ _ ⟨hbE, hhE⟩) (cell_of_take hrp (k := 0) rfl) ?_
  refine .F fa50_2 ?_
  refine .J ag9 ?_
  refine .p (v := givV ⟨q_, x_.name, true⟩) rfl rfl rfl rfl (by kernel_rfl) ?_
  refine .callc (NumP l ⟨q_, x_.name, true⟩ y0) (fun z => .int .i64 (Int.ofNat z.1)) (fun z => LyH bx bm (.slice al l.length cl) z.2) (.tail .here) rfl rfl (by kernel_rfl) (by kernel_rfl) rfl rfl rfl rfl rfl rfl (fun m2 g0_ g2_ gb gr => ihN ⟨q_, x_.name, true⟩ y0 m2 ⟨b_, hb_, by rw [if_pos rfl]; exact ⟨hbk, hbw⟩⟩ hu g0_ g2_ hM (hlS0.mono gb (RTy.mono gb))) (fun z hz => ?_)
  refine .p rfl rfl rfl rfl rfl (.of (.nil (.seq (.seq (.region (.P2 ?_))))))
  refine .p (v := .agg ⟨[.int .i64 5, .int .i64 (Int.ofNat z.1)]⟩) rfl rfl rfl (by kernel_rfl) ?_
  refine .buildSlice rfl rfl rfl rfl rfl (bs56_1 ..) (fun b88 hb88 => ?_)
  refine .appendSl (R := RSlot) (l0 := o0) (l := [(5, (Int.ofNat z.1))]) (L := (o0 ++ [(5, (Int.ofNat z.1))])) (g := gl) (cs := csl) rfl (.tail (.over (.tail .all))) hF hO (Sl.single (R := RSlot) (x := (5, (Int.ofNat z.1))) (b := b88) (c := 1) (el := 129) (g := false) (md := .plain) (mate := none) rfl rfl) ((InH.sees (by intro p_ hp_; rw [List.mem_singleton.1 hp_]; exact List.mem_cons_self))) RSlot.flats (by simp; omega) rfl rfl rfl rfl underlying56 underlying56 ap129 rfl rfl (fun g1 cs1 hF1 hO1 => ?_)
  refine .P ?_
  refine .nil (.seq (.ret (.blk (.seq ?_))))
  exact .end_ rfl rfl (fun m hm => ⟨⟨z.2, g1, cs1, [(5, (Int.ofNat z.1))]⟩, ⟨RunL.ref hx_ (by omega) heq hz.run, hz.mem, hF1, hO1, hz.left⟩, rfl, (hm.perm sl_perm1).sub (List.sublist_append_left _ _)⟩)
 try simp only [nz] at ht74
 refine .seq (.region (.P2 ?_))
 refine .nil (.seq (.cond rfl (fun ht90 => ?_) fun ht90 => ?_))
 ·try simp only [nz] at ht90
  refine .seq (.region (.P2 ?_))
  refine .callc (ModP l t y0) (fun z => .int .i64 (Int.ofNat z.1)) (fun z => LyH bx bm (.slice al l.length cl) z.2) (.tail .here) rfl rfl rfl rfl rfl rfl (fun m2 k1_ g2_ => module_ok k1_.lole' g2_ hM (hlS0.mono (Off.into k1_ (fun b_ h_ => by rw [List.map_append]; exact List.mem_append_left _ h_)) (RTy.mono (Off.into k1_ (fun b_ h_ => by rw [List.map_append]; exact List.mem_append_left _ h_)))) hFi hwl hn14 hlt) (fun z hz => ?_)
  refine .P ?_
  refine .nil (.seq (.seq (.region (.P2 ?_))))
  refine .p (v := .agg ⟨[.int .i64 6, .int .i64 (Int.ofNat z.1)]⟩) rfl rfl rfl (by kernel_rfl) ?_
  refine .buildSlice rfl rfl rfl rfl rfl (bs56_1 ..) (fun b98 hb98 => ?_)
  refine .appendSl (R := RSlot) (l0 := o0) (l := [(6, (Int.ofNat z.1))]) (L := (o0 ++ [(6, (Int.ofNat z.1))])) (g := gl) (cs := csl) rfl (.tail (.over (.tail .all))) hF hO (Sl.single (R := RSlot) (x := (6, (Int.ofNat z.1))) (b := b98) (c := 1) (el := 129) (g := false) (md := .plain) (mate := none) rfl rfl) ((InH.sees (by intro p_ hp_; rw [List.mem_singleton.1 hp_]; exact List.mem_cons_self))) RSlot.flats (by simp; omega) rfl rfl rfl rfl underlying56 underlying56 ap129 rfl rfl (fun g1 cs1 hF1 hO1 => ?_)
  refine .P ?_
  refine .nil (.seq (.ret (.blk (.seq ?_))))
  exact .end_ rfl rfl (fun m hm => ⟨⟨z.2, g1, cs1, [(6, (Int.ofNat z.1))]⟩, ⟨hz.run hx_ (by omega), hz.1, hF1, hO1, hz.left⟩, rfl, (hm.perm sl_perm1).sub (List.sublist_append_left _ _)⟩)
 try simp only [nz] at ht90
 refine .seq (.region (.P2 ?_))
 refine .nil (.seq (.cond rfl (fun ht100 => ?_) fun ht100 => ?_))
 ·try simp only [nz] at ht100
  have hrkp : ∀ q, q ∈ partsL x_ → r q.toNat < r t := fun q hq => by obtain ⟨j, hj⟩ := List.getElem?_of_mem hq; obtain ⟨q_, rfl, _⟩ := parts_in (hWl.sound t x_ hx_) hj; exact hrk t q_ ⟨x_, hx_, by omega, hq⟩
  refine .seq (.seq (.region (.F fa50_1 ?_)))
  refine .L ag32 ?_
  refine .G (ln32 ..) ?_
  refine .P ?_
  refine .nil (.seq (.block ?_))
  refine .as 1 (gl.V (o0 ++ []).length) rfl (by rw [List.append_nil]) ?_
  refine .swap (Pick.perm (.tail .all)) (.loop (α := Nat × SlSt) (fun q => [(0, ptr bx), (1, q.2.g.V (o0 ++ q.2.o).length), (103, .slice aeX x_.elems.length ceX), (104, .int .i64 (Int.ofNat (x_.elems.length))), (105, .int .i64 (Int.ofNat (q.1)))]) (fun q => (SlH bx bm (.slice al l.length cl) q.2.y q.2.g q.2.cs) ++ [(b7, .cells [.int .i64 x_.kind, .slice aeX x_.elems.length ceX, .string x_.name, .slice afX x_.fields.length cfX, .slice aaX x_.arms.length caX] 50 false .plain none)]) (fun q => q.1 ≤ x_.elems.length ∧ SloP l (.slos ((x_.elems).take q.1)) y0 o0 q.2) (fun q => x_.elems.length - q.1) (0, ⟨y0, gl, csl, []⟩) ⟨Nat.zero_le _, RunL.nil, hM, by rw [List.append_nil]; exact hF, by rw [List.append_nil]; exact hO, Nat.le_refl _⟩ ⟨rfl, rfl, rfl, rfl, rfl, trivial⟩ (.refl _) (fun q hq0 => ?_))
  obtain ⟨i, zi⟩ := q
  obtain ⟨hi, hP⟩ := hq0
  simp only at hi hP
  refine .seq (.region (.P ?_))
  refine .nil (.seq (.seq (.cond rfl (fun ht106 => ?_) fun ht106 => ?_)))
  ·try simp only [nz] at ht106
   have hltE : i < x_.elems.length := by omega
   obtain ⟨p0, hp0⟩ := gx hltE
   obtain ⟨bE, offE, csE, elE, gE, mdE, mateE, rfl, ⟨hbE, hhE⟩, hleE, hcE⟩ := so heX hltE
   have hrp := hcE i p0 hp0
   have hqm : p0 ∈ partsL x_ := parts_elems (List.mem_of_getElem? hp0)
   have hpsub : ∀ q, q ∈ x_.elems → q ∈ partsL x_ := fun q hq => parts_elems hq
   have hpt : x_.elems[i]? = some p0 := hp0
   have h6 := (hwl t x_ hx_).elems
   obtain ⟨q_, hpe, hvq⟩ := hFi.part hx_ (by omega) (by omega) (by omega) hqm
   subst hpe
   refine .skip (.seq (.seq (.block (.seq (.region (.K underlying32 sz3 ?_))))))
   refine .M ag3 (Off.sees rfl rfl _ _ ⟨hbE, hhE⟩) (cell_of_take hrp (k := 0) rfl) ?_
   refine .P ?_
   refine .nil (.seq (.region (.P3 ?_)))
   have hroom2 := sl_room hFi hSm (R := r t) (R' := r q_) (N := o0.length) hP.run (fun q hq => hFi.part hx_ (by omega) (by omega) (by omega) (hpsub _ (List.mem_of_mem_take hq))) (hrkp _ hqm) (by rw [List.length_take]; omega) hroom
   have hrq := hrkp _ hqm
   refine .callc (SloP l (.slo q_) zi.y (o0 ++ zi.o)) (fun z => z.g.V ((o0 ++ zi.o) ++ z.o).length) (fun z => SlH bx bm (.slice al l.length cl) z.y z.g z.cs) .here rfl rfl rfl rfl rfl rfl (fun m2 k1_ g2_ => ihS q_ zi.y zi.g zi.cs (o0 ++ zi.o) m2 hvq (by have : r q_ < r t := hrq; omega) (Nat.le_trans hP.left hu) (by rw [List.length_append]; exact hroom2) k1_.lole' g2_ hP.mem hP.flat hP.ok (hlS0.mono (Off.into k1_ (fun b_ h_ => by rw [List.map_append]; exact List.mem_append_left _ h_)) (RTy.mono (Off.into k1_ (fun b_ h_ => by rw [List.map_append]; exact List.mem_append_left _ h_))))) (fun z2 hz2 => ?_)
   refine .P ?_
   refine .as 1 (z2.g.V (o0 ++ (zi.o ++ z2.o)).length) rfl (by rw [List.append_assoc]) ?_
   refine .nil (.blk (.seq (.region (.P ?_))))
   refine .W 113 i ?_
   refine .P ?_
   refine .nil ?_
   exact .loop (i + 1, ⟨z2.y, z2.g, z2.cs, zi.o ++ z2.o⟩) ⟨by omega, ⟨by rw [take_succ' hpt]; exact hP.run.snoc hz2.run, hz2.mem, by rw [← List.append_assoc]; exact hz2.flat, by rw [← List.append_assoc]; exact hz2.ok, Nat.le_trans hz2.left hP.left⟩⟩ (by show x_.elems.length - (i + 1) < x_.elems.length - i; omega) ⟨rfl, rfl, rfl, rfl, rfl, trivial⟩ (.refl _)
  try simp only [nz] at ht106
  refine .exit (.seq (.loop (.here (.seq (.seq (.region (.P2 ?_)))))))
  refine .nil (.seq (.ret (.blk (.seq ?_))))
  exact .end_ rfl rfl (fun m hm => ⟨zi, ⟨RunL.tup hx_ (by omega) (by have h_ := hP.run; rw [List.take_of_length_le (by omega)] at h_; exact h_), hP.mem, hP.flat, hP.ok, hP.left⟩, rfl, hm.sub (List.sublist_append_left _ _)⟩)
 try simp only [nz] at ht100
 refine .seq (.region (.P2 ?_))
 refine .nil (.seq (.cond rfl (fun ht115 => ?_) fun ht115 => ?_))
 ·try simp only [nz] at ht115
  have hrkp : ∀ q, q ∈ partsL x_ → r q.toNat < r t := fun q hq => by obtain ⟨j, hj⟩ := List.getElem?_of_mem hq; obtain ⟨q_, rfl, _⟩ := parts_in (hWl.sound t x_ hx_) hj; exact hrk t q_ ⟨x_, hx_, by omega, hq⟩
  have hfl : (ftypes x_.fields).length = x_.fields.length := by unfold ftypes; rw [List.length_map]
  refine .seq (.seq (.region (.F fa50_3 ?_)))
  refine .L ag47 ?_
  refine .G (ln47 ..) ?_
  refine .P ?_
  refine .nil (.seq (.block ?_))
  refine .as 1 (gl.V (o0 ++ []).length) rfl (by rw [List.append_nil]) ?_
  refine .swap (Pick.perm (.tail .all)) (.loop (α := Nat × SlSt) (fun q => [(0, ptr bx), (1, q.2.g.V (o0 ++ q.2.o).length), (118, .slice afX x_.fields.length cfX), (119, .int .i64 (Int.ofNat (x_.fields.length))), (120, .int .i64 (Int.ofNat (q.1)))]) (fun q => (SlH bx bm (.slice al l.length cl) q.2.y q.2.g q.2.cs) ++ [(b7, .cells [.int .i64 x_.kind, .slice aeX x_.elems.length ceX, .string x_.name, .slice afX x_.fields.length cfX, .slice aaX x_.arms.length caX] 50 false .plain none)]) (fun q => q.1 ≤ x_.fields.length ∧ SloP l (.slos ((ftypes x_.fields).take q.1)) y0 o0 q.2) (fun q => x_.fields.length - q.1) (0, ⟨y0, gl, csl, []⟩) ⟨Nat.zero_le _, RunL.nil, hM, by rw [List.append_nil]; exact hF, by rw [List.append_nil]; exact hO, Nat.le_refl _⟩ ⟨rfl, rfl, rfl, rfl, rfl, trivial⟩ (.refl _) (fun q hq0 => ?_))
  obtain ⟨i, zi⟩ := q
  obtain ⟨hi, hP⟩ := hq0
  simp only at hi hP
  refine .seq (.region (.P ?_))
  refine .nil (.seq (.seq (.cond rfl (fun ht121 => ?_) fun ht121 => ?_)))
  ·try simp only [nz] at ht121
   have hltE : i < x_.fields.length := by omega
   obtain ⟨f_, hf_⟩ := gx hltE
   obtain ⟨bE, offE, csE, elE, gE, mdE, mateE, rfl, ⟨hbE, hhE⟩, hleE, hcE⟩ := so hfX hltE
   have hrf := hcE i f_ hf_
   have hpt : (ftypes x_.fields)[i]? = some f_.type := by unfold ftypes; rw [List.getElem?_map, hf_]; rfl
   have hqm : f_.type ∈ partsL x_ := parts_fldm (List.mem_of_getElem? hf_)
   have hpsub : ∀ q, q ∈ ftypes x_.fields → q ∈ partsL x_ := fun q hq => parts_fields hq
   have h6 := (hwl t x_ hx_).fields
   obtain ⟨q_, hpe, hvq⟩ := hFi.part hx_ (by omega) (by omega) (by omega) hqm
   rw [hpe] at hqm hpt
   refine .skip (.seq (.seq (.block (.seq (.region (.K underlying47 sz132 ?_))))))
   refine .A ag132 sz132 (Off.sees rfl rfl _ _ ⟨hbE, hhE⟩) hrf ?_
   refine .alloc rfl rfl rfl rfl zr132 (fun b16 hb16 => ?_)
   refine .S sz132 ?_
   refine .nil (.seq (.region (.P2 ?_)))
   refine .F fa132_1 ?_
   refine .L ag3 ?_
   refine .as 127 (.int .i64 (Int.ofNat q_)) rfl (congrArg (Value.int .i64) hpe) ?_
   have hroom2 := sl_room hFi hSm (R := r t) (R' := r q_) (N := o0.length) hP.run (fun q hq => hFi.part hx_ (by omega) (by omega) (by omega) (hpsub _ (List.mem_of_mem_take hq))) (hrkp _ hqm) (by rw [List.length_take]; omega) hroom
   have hrq := hrkp _ hqm
   refine .callc (SloP l (.slo q_) zi.y (o0 ++ zi.o)) (fun z => z.g.V ((o0 ++ zi.o) ++ z.o).length) (fun z => SlH bx bm (.slice al l.length cl) z.y z.g z.cs) (.tail .here) rfl rfl rfl rfl rfl rfl (fun m2 k1_ g2_ => ihS q_ zi.y zi.g zi.cs (o0 ++ zi.o) m2 hvq (by have : r q_ < r t := hrq; omega) (Nat.le_trans hP.left hu) (by rw [List.length_append]; exact hroom2) k1_.lole' g2_ hP.mem hP.flat hP.ok (hlS0.mono (Off.into k1_ (fun b_ h_ => by rw [List.map_append]; exact List.mem_append_left _ h_)) (RTy.mono (Off.into k1_ (fun b_ h_ => by rw [List.map_append]; exact List.mem_append_left _ h_))))) (fun z2 hz2 => ?_)
   refine .P ?_
   refine .as 1 (z2.g.V (o0 ++ (zi.o ++ z2.o)).length) rfl (by rw [List.append_assoc]) ?_
   refine .nil (.blk (.seq (.region (.P ?_))))
   refine .W 129 i ?_
   refine .P ?_
   refine .nil ?_
   exact .loop (i + 1, ⟨z2.y, z2.g, z2.cs, zi.o ++ z2.o⟩) ⟨by omega, ⟨by rw [take_succ' hpt]; exact hP.run.snoc hz2.run, hz2.mem, by rw [← List.append_assoc]; exact hz2.flat, by rw [← List.append_assoc]; exact hz2.ok, Nat.le_trans hz2.left hP.left⟩⟩ (by show x_.fields.length - (i + 1) < x_.fields.length - i; omega) ⟨rfl, rfl, rfl, rfl, rfl, trivial⟩ ((List.Sublist.refl _).append (.cons _ (.refl _)))
  try simp only [nz] at ht121
  refine .exit (.seq (.loop (.here (.seq (.seq (.region (.P2 ?_)))))))
  refine .nil (.seq (.ret (.blk (.seq ?_))))
  exact .end_ rfl rfl (fun m hm => ⟨zi, ⟨RunL.adt hx_ (by omega) (by have h_ := hP.run; rw [List.take_of_length_le (by omega)] at h_; exact h_), hP.mem, hP.flat, hP.ok, hP.left⟩, rfl, hm.sub (List.sublist_append_left _ _)⟩)
 try simp only [nz] at ht115
 refine .skip (.blk (.seq (.seq (.region (.P ?_)))))
 refine .p (v := .agg ⟨[.int .i64 0, .int .i64 0]⟩) rfl rfl rfl (by kernel_rfl) ?_
 refine .buildSlice rfl rfl rfl rfl rfl (bs56_1 ..) (fun b133 hb133 => ?_)
 refine .appendSl (R := RSlot) (l0 := o0) (l := [(0, 0)]) (L := (o0 ++ [(0, 0)])) (g := gl) (cs := csl) rfl (.tail (.tail (.over .all))) hF hO (Sl.single (R := RSlot) (x := (0, 0)) (b := b133) (c := 1) (el := 129) (g := false) (md := .plain) (mate := none) rfl rfl) ((InH.sees (by intro p_ hp_; rw [List.mem_singleton.1 hp_]; exact List.mem_cons_self))) RSlot.flats (by simp; omega) rfl rfl rfl rfl underlying56 underlying56 ap129 rfl rfl (fun g1 cs1 hF1 hO1 => ?_)
 refine .P ?_
 refine .nil (.seq (.ret ?_))
 exact .end_ rfl rfl (fun m hm => ⟨⟨y0, g1, cs1, [(0, 0)]⟩, ⟨RunL.plain hx_ (by omega), hM, hF1, hO1, Nat.le_refl _⟩, rfl, (hm.perm sl_perm2).sub (List.sublist_append_left _ _)⟩)

/-! What a run leaves as it was. -/
structure LayX (S S' : Lay) : Prop where
 keys : ∃ K, S'.keys = S.keys ++ K
 mods : ∃ M, S'.mods = S.mods ++ M
 len : S.descs.length ≤ S'.descs.length
 same : ∀ i, i < S.descs.length → S'.descs[i]? = S.descs[i]?
theorem LayX.refl (S : Lay) : LayX S S := ⟨⟨[], (List.append_nil _).symm⟩, ⟨[], (List.append_nil _).symm⟩, Nat.le_refl _, fun _ _ => rfl⟩
theorem LayX.trans {S S1 S2 : Lay} (h : LayX S S1) (k : LayX S1 S2) : LayX S S2 := by
 obtain ⟨K, e⟩ := h.keys
 obtain ⟨K', e'⟩ := k.keys
 obtain ⟨M, f⟩ := h.mods
 obtain ⟨M', f'⟩ := k.mods
 exact ⟨⟨K ++ K', by rw [e', e, List.append_assoc]⟩, ⟨M ++ M', by rw [f', f, List.append_assoc]⟩, Nat.le_trans h.len k.len, fun i hi => (k.same i (Nat.lt_of_lt_of_le hi h.len)).trans (h.same i hi)⟩
theorem LayX.push (S : Lay) (g : Giv) : LayX S (S.push g) := ⟨⟨[g], rfl⟩, ⟨[], (List.append_nil _).symm⟩, by show _ ≤ (S.descs ++ [[]]).length; rw [List.length_append]; omega, fun i hi => List.getElem?_append_left hi⟩
theorem LayX.put {S S' : Lay} (h : LayX S S') {n : Nat} (hn : S.descs.length ≤ n) (d : List SlV) : LayX S (S'.put n d) := ⟨h.keys, h.mods, by show _ ≤ (S'.descs.set n d).length; rw [List.length_set]; exact h.len, fun i hi => by
 show (S'.descs.set n d)[i]? = _
 rw [List.getElem?_set, if_neg (by omega)]
 exact h.same i hi⟩
theorem asSlot_some {k : Int} {a : Option LOut} {x : LOut} (h : asSlot k a = some x) : ∃ o n S, a = some (o, n, S) ∧ x = ([(k, Int.ofNat n)], 0, S) := by
 cases a with
 | none => cases h
 | some y => cases h; exact ⟨_, _, _, rfl, rfl⟩
theorem layF_ext {l : List Ty} : ∀ (f : Nat) (k : LTask) (S : Lay) (x : LOut), layF l f k S = some x → LayX S x.2.2
 | 0, _, _, _, h => by cases h
 | f + 1, .num g, S, x, h => by
  unfold layF at h
  cases hi : givIdx l S.keys g with
  | some i => rw [hi] at h; cases h; exact LayX.refl S
  | none =>
   rw [hi] at h
   simp only at h
   cases hr : layF l f (.slos (givTys l g)) (S.push g) with
   | none => rw [hr] at h; cases h
   | some y =>
    rw [hr] at h
    cases h
    exact ((LayX.push S g).trans (layF_ext f _ _ y hr)).put (Nat.le_refl _) _
 | f + 1, .slo t, S, x, h => by
  unfold layF at h
  cases ht : l[t]? with
  | none => rw [ht] at h; cases h
  | some a =>
   rw [ht] at h
   simp only at h
   split at h
   ·cases h; exact LayX.refl S
   split at h
   ·split at h
    ·obtain ⟨o, n, S', e, rfl⟩ := asSlot_some h
     have h_ := layF_ext f _ _ _ e
     exact h_
    cases h
   split at h
   ·split at h
    ·obtain ⟨o, n, S', e, rfl⟩ := asSlot_some h
     have h_ := layF_ext f _ _ _ e
     exact h_
    cases h
   split at h
   ·split at h
    ·cases h; exact LayX.refl S
    cases h; exact ⟨⟨[], (List.append_nil _).symm⟩, ⟨[t], rfl⟩, Nat.le_refl _, fun _ _ => rfl⟩
   split at h
   ·exact layF_ext f _ _ x h
   split at h
   ·exact layF_ext f _ _ x h
   cases h; exact LayX.refl S
 | f + 1, .slos [], S, x, h => by cases h; exact LayX.refl S
 | f + 1, .slos (p :: ps), S, x, h => by
  unfold layF at h
  cases h1 : layF l f (.slo p.toNat) S with
  | none => rw [h1] at h; cases h
  | some y =>
   rw [h1] at h
   simp only at h
   cases h2 : layF l f (.slos ps) y.2.2 with
   | none => rw [h2] at h; cases h
   | some z => rw [h2] at h; cases h; exact (layF_ext f _ _ y h1).trans (layF_ext f _ _ z h2)
theorem RunL.ext {l : List Ty} {k : LTask} {S : Lay} {x : LOut} (h : RunL l k S x) : LayX S x.2.2 := by
 obtain ⟨f, h⟩ := h
 exact layF_ext f k S x h
theorem Flat.set1 {α : Type} {R : α → List Value → Prop} {L : List α} {cs : List Value} (h : Flat 1 R L cs) {i : Nat} (hi : i < L.length) {x : α} {v : Value} (hx : R x [v]) : Flat 1 R (L.set i x) (cs.set i v) := by
 obtain ⟨h1, h2⟩ := h
 have hlen : cs.length = L.length := by omega
 refine ⟨by rw [List.length_set, List.length_set]; omega, fun j y hy => ?_⟩
 have hj : j < L.length := by
  have := (List.getElem?_eq_some_iff.1 hy).1
  rwa [List.length_set] at this
 have key : ∀ ds : List Value, j < ds.length → (ds.drop (j * 1)).take 1 = [ds[j]?.getD .nilFunc] := fun ds hd => by
  rw [Nat.mul_one, List.drop_eq_getElem_cons hd, List.take_succ_cons, List.take_zero, List.getElem?_eq_getElem hd]
  rfl
 rw [key _ (by rw [List.length_set]; omega)]
 rw [List.getElem?_set] at hy ⊢
 by_cases e : i = j
 ·subst e
  rw [if_pos rfl, if_pos hi] at hy
  cases hy
  rw [if_pos rfl, if_pos (by omega)]
  exact hx
 rw [if_neg e] at hy ⊢
 have := h2 j y hy
 rwa [key _ (by omega)] at this
theorem sl_nilD {K : Kn} : Sl K 2 RSlot [] (.slice none 0 0) := ⟨none, 0, rfl, ⟨Nat.zero_le _, Nat.le_refl _⟩, .inl ⟨rfl, .inl rfl⟩⟩
theorem withL_len {a : Ty} (h : FewT a) {s : ByteArray} {L : List Fld} (hL : withL a s = some L) : L.length ≤ 12 := by
 unfold withL at hL
 have h1 := h.fields
 split at hL
 ·cases hL
  omega
 cases hf : a.arms.find? fun b => decide (b.name = s) with
 | none => rw [hf] at hL; cases hL
 | some b =>
  rw [hf] at hL
  cases hL
  obtain ⟨j, hj⟩ := List.getElem?_of_mem (List.mem_of_find?_eq_some hf)
  have h2 := h.afields j b hj
  rw [List.length_append]
  omega
theorem ly_permU {α : Type} {A B F : List α} {u v x w : α} : (w :: (u :: (v :: (x :: (A ++ (B ++ F)))))).Perm (u :: (v :: (x :: (A ++ (B ++ (w :: F)))))) := by
 refine (List.Perm.swap _ _ _).trans (List.Perm.cons _ ?_)
 refine (List.Perm.swap _ _ _).trans (List.Perm.cons _ ?_)
 refine (List.Perm.swap _ _ _).trans (List.Perm.cons _ ?_)
 rw [← List.append_assoc, ← List.append_assoc]
 exact List.perm_middle.symm
theorem ly_permP {α : Type} {A R : List α} {u v w x : α} : (A ++ (w :: (u :: (v :: (x :: R))))).Perm ((x :: (A ++ R)) ++ [u, v, w]) := by
 have h1 : (A ++ (w :: (u :: (v :: (x :: R))))).Perm (w :: (u :: (v :: (x :: (A ++ R))))) := by
  refine List.perm_middle.trans (List.Perm.cons _ ?_)
  refine List.perm_middle.trans (List.Perm.cons _ ?_)
  refine List.perm_middle.trans (List.Perm.cons _ ?_)
  exact List.perm_middle
 refine h1.trans ?_
 refine List.Perm.trans ?_ List.perm_append_comm
 show (w :: u :: v :: (x :: (A ++ R))).Perm (u :: v :: w :: (x :: (A ++ R)))
 exact (List.Perm.swap _ _ _).trans (List.Perm.cons _ (List.Perm.swap _ _ _))
theorem run_one {l : List Ty} {t : Nat} {S S' : Lay} {o : List SlV} (h : RunL l (.slo t) S (o, 0, S')) : RunL l (.slos [Int.ofNat t]) S (o, 0, S') := by
 have := RunL.cons (p := Int.ofNat t) h RunL.nil
 rwa [List.append_nil] at this
theorem tys_rec {l : List Ty} {t : Nat} {s : ByteArray} {a : Ty} {L : List Fld} (ha : l[t]? = some a) (hL : withL a s = some L) : givTys l ⟨t, s, true⟩ = ftypes L := by
 unfold givTys
 rw [if_pos rfl]
 simp only [ha, hL, Option.getD_some]
theorem tag_yes {l : List Ty} {t : Nat} {s : ByteArray} {a : Ty} (ha : l[t]? = some a) (h : 0 < a.arms.length) : givTag l ⟨t, s, true⟩ = [(0, 0)] := by
 unfold givTag
 rw [if_pos rfl]
 simp only [ha, if_pos h]
theorem tag_no {l : List Ty} {t : Nat} {s : ByteArray} {a : Ty} (ha : l[t]? = some a) (h : ¬ 0 < a.arms.length) : givTag l ⟨t, s, true⟩ = [] := by
 unfold givTag
 rw [if_pos rfl]
 simp only [ha, if_neg h]
/-- What is left behind a new number. -/
theorem NumP.made {l : List Ty} {y0 : LySt} {G : Giv} {yP zi : LySt} {o : List SlV} {gs : Gro} {css : List Value} {v : Value} (hok : LayOk l y0.S) (hn : givIdx l y0.S.keys G = none) (hG : GivV l G) (hP : yP.S = y0.S.push G) (hr : RunL l (.slos (givTys l G)) yP.S (o, 0, zi.S)) (hm : LyM l zi) (hF : Flat 2 RSlot (givTag l G ++ o) css) (hO : gs.Ok (givTag l G ++ o).length) (hs : (givTag l G ++ o).length ≤ 9223372036854775807) (hv : gs.V (givTag l G ++ o).length = v) (hle : unm l zi.S.keys ≤ unm l yP.S.keys) : NumP l G y0 (y0.S.descs.length, ⟨zi.gd.aft, zi.cd.set y0.S.descs.length v, zi.gm, zi.cm, zi.es, zi.c, gs.H 129 css ++ zi.F, zi.S.put y0.S.descs.length (givTag l G ++ o)⟩) := by
 rw [hP] at hr hle
 have hx := hr.ext.len
 have hx : (y0.S.descs ++ [[]]).length ≤ zi.S.descs.length := hx
 rw [List.length_append, List.length_singleton] at hx
 have hu := unm_push (K := y0.S.keys) hG fun hm => givIdx_none hn G hm (GivEq.refl l G)
 refine ⟨RunL.new hn hr, ⟨?_, ?_, hm.mods, hm.okm, hm.map_, hm.ok.put _ _⟩, Nat.le_trans hle (Nat.le_of_lt hu)⟩
 ·refine Flat.set1 (flat_mono hm.descs (RDesc.mono fun b o h => List.mem_append_right _ h)) (by omega) ⟨v, rfl, ?_⟩
  rw [← hv]
  exact (Gro.sl hF hO hs).mono (fun b o h => List.mem_append_left _ h) fun _ _ h => h
 show zi.gd.aft.Ok (zi.S.descs.set _ _).length
 rw [List.length_set]
 exact Dro.aftOk hm.okd
theorem ly_permE {α : Type} {x : α} {A B G R : List α} : ((x :: (A ++ B)) ++ G ++ R).Perm (x :: (A ++ (B ++ G ++ R))) := List.Perm.of_eq (by simp [List.append_assoc])
theorem ly_permF {α : Type} {x m : α} {A B G R F : List α} : (A ++ (x :: ((B ++ (m :: F)) ++ G ++ R))).Perm ((x :: (A ++ (B ++ (m :: (G ++ F))))) ++ R) := by
 refine List.perm_middle.trans (List.Perm.cons _ ?_)
 rw [List.append_assoc, List.append_assoc]
 show (A ++ (B ++ ((m :: F) ++ (G ++ R)))).Perm ((A ++ (B ++ (m :: (G ++ F)))) ++ R)
 rw [List.append_assoc, List.append_assoc]
 refine List.Perm.append_left _ (List.Perm.append_left _ ?_)
 show (m :: F ++ (G ++ R)).Perm (m :: (G ++ F) ++ R)
 refine List.Perm.cons _ ?_
 show (F ++ (G ++ R)).Perm ((G ++ F) ++ R)
 rw [← List.append_assoc]
 exact List.perm_append_comm.append_right _
theorem ly_permN {α : Type} {Z L R : List α} : (Z ++ (L ++ R)).Perm ((L ++ []) ++ (Z ++ R)) := by
 rw [List.append_nil, ← List.append_assoc, ← List.append_assoc]
 exact List.perm_append_comm.append_right _
theorem ly_permT {α : Type} {A Z L R : List α} {w : α} : (A ++ (w :: (Z ++ (L ++ R)))).Perm ((L ++ A) ++ (w :: (Z ++ R))) := by
 have h1 : (Z ++ (L ++ R)).Perm (L ++ (Z ++ R)) := by
  rw [← List.append_assoc, ← List.append_assoc]
  exact List.perm_append_comm.append_right _
 refine (List.Perm.append_left _ (List.Perm.cons _ h1)).trans ?_
 have h2 : (w :: (L ++ (Z ++ R))).Perm (L ++ (w :: (Z ++ R))) := List.perm_middle.symm
 refine (List.Perm.append_left _ h2).trans ?_
 rw [← List.append_assoc]
 exact List.perm_append_comm.append_right _
theorem put_len {S : Lay} {n : Nat} {d : List SlV} : (S.put n d).descs.length = S.descs.length := List.length_set
theorem number_step {l : List Ty} {al : Option Addr} {cl bx bm u gt : Nat} {ga : ByteArray} {gr : Bool} {r : Nat → Nat} {y0 : LySt} {m : AW} (hm : m.lo ≤ m.next) (hk : Knows (LyS bx bm (.slice al l.length cl) y0) m m (LyH bx bm (.slice al l.length cl) y0)) (hM : LyM l y0) (hlS : TabL l (.slice al l.length cl) (LyS bx bm (.slice al l.length cl) y0) m) (hFi : Fine l) (hSm : Sml l) (hwl : ∀ (i : Nat) (a : Ty), l[i]? = some a → FewT a) (hn14 : l.length ≤ 14) (hrk : Ranked l r) (hrn : ∀ u, r u ≤ l.length) (hgv : GivV l ⟨gt, ga, gr⟩) (hu : unm l y0.S.keys ≤ u) (ih : ∀ u2 k, u2 < u → SloC l (.slice al l.length cl) r bx bm u2 k) : Fc prog 119 [ptr bx, givV ⟨gt, ga, gr⟩] m fun v m' => LyQ bx bm (.slice al l.length cl) y0 (NumP l ⟨gt, ga, gr⟩ y0) (fun z => .int .i64 (Int.ofNat z.1)) (fun z => z.2) m v m' := by
 have hWl := hFi.well
 have hlS0 := hlS
 obtain ⟨gd, cd, gm, cm, es, c, F, S0⟩ := y0
 have hM0 := hM
 obtain ⟨hFd, hOd, hFm, hOm, hmap, hok⟩ := hM
 simp only at hFd hOd hFm hOm hmap hok
 obtain ⟨ps, hPs, hMp⟩ := hmap
 have hlt : gt < l.length := by obtain ⟨a_, h_, _⟩ := hgv; exact (List.getElem?_eq_some_iff.1 h_).1
 have hgv0 := hgv
 have hdl := hok.len
 have hkl := hok.keys_few hwl hn14
 simp only at hu
 refine Fc.bodyS (S := LyS bx bm (.slice al l.length cl) ⟨gd, cd, gm, cm, es, c, F, S0⟩) (c := _) func119 rfl rfl rfl rfl (show Knows _ m m (LyX bx bm (.slice al l.length cl) gd cd gm cm es c F S0) from hk) ?_
 refine .seq (.region ?_)
 refine .box rfl rfl rfl rfl rfl (fun b3 hb3 => ?_)
 refine .P ?_
 refine .nil (.seq (.seq (.region (.E ag124 sz124 ?_))))
 refine .alloc rfl rfl rfl rfl zr124 (fun b5 hb5 => ?_)
 refine .S sz124 ?_
 refine .nil (.seq (.seq (.region (.P ?_))))
 refine .F fa124_0 ?_
 refine .L ag3 ?_
 refine .calln _ _ _ rfl rfl rfl rfl rfl rfl (fun m hm => class_ok (t := gt) hm.lole ⟨(hm.has bx _ (.tail _ (.tail _ (.head _)))).2, (hm.has bx _ (.tail _ (.tail _ (.head _)))).1⟩ (hlS0.mono (fun b_ o_ h_ => Off.mem b_ o_ (Off.kr hm b_ o_ h_)) (RTy.mono (fun b_ o_ h_ => Off.mem b_ o_ (Off.kr hm b_ o_ h_)))) hWl hlt hn14) (fun cc hcc => ?_)
 have hget := hMp ⟨gt, ga, gr⟩ cc hcc
 refine .F fa124_0 ?_
 refine .S sz3 ?_
 refine .nil (.seq (.seq (.seq ?_)))
 refine .D [(15, 0), (15, 1), (15, 3), (3, 7), (3, 0), (3, 31), (15, 63), (15, 127), (15, 127), (15, 255), (15, 1023)] (by kernel_rfl) (by kernel_rfl) (fun base hbase hB => ?_)
 iterate 2 refine .P ?_
 refine .F fa120_3 ?_
 refine .J ag118 ?_
 refine .E ag124 sz124 ?_
 refine .as 25 (givV ⟨cc, ga, gr⟩) rfl rfl ?_
 rcases hi_ : givIdx l S0.keys ⟨gt, ga, gr⟩ with _ | i_
 ·refine .lookupOk (K := givV) (l := ps) (kv := ⟨cc, ga, gr⟩) (.tail (.tail (.tail (.over (.over .one))))) hPs KG rfl rfl rfl rfl rfl rfl rfl underlying118 zr3 rfl rfl (v := .tuple ⟨[.int .i64 0, .bool false]⟩) (by rw [hget, hi_]; rfl) ?_
  iterate 5 refine .P ?_
  refine .nil (.seq (.seq (.region (.P ?_))))
  refine .nil (.seq (.cond_false rfl (.skip (.seq (.seq (.region (.P2 ?_)))))))
  refine .F fa120_1 ?_
  refine .L ag52 ?_
  obtain ⟨gda, gdc, hVd⟩ := Dro.len hOd
  refine .as 34 (.slice gda S0.descs.length gdc) rfl hVd ?_
  refine .G (ln52 ..) ?_
  refine .P ?_
  refine .nil (.seq (.seq ?_))
  refine .D [(15, 0), (15, 1), (15, 3), (3, 7), (3, 0), (15, 0), (7, 63)] (by kernel_rfl) (by kernel_rfl) (fun base hbase hB => ?_)
  iterate 2 refine .P ?_
  refine .F fa120_3 ?_
  refine .J ag118 ?_
  refine .E ag124 sz124 ?_
  refine .as 40 (givV ⟨cc, ga, gr⟩) rfl rfl ?_
  refine .P ?_
  refine .mapUpdate (K := givV) (l := ps) (kv := ⟨cc, ga, gr⟩) (.tail (.tail (.tail (.over (.over .one))))) hPs KG rfl rfl (by kernel_rfl) (by kernel_rfl) rfl rfl rfl underlying118 rfl rfl rfl (fun es1 c1 hP1 => ?_)
  refine .nil (.seq (.seq (.region (.P ?_))))
  refine .swap ly_permU (.P2 ?_)
  refine .F fa120_1 ?_
  refine .L ag52 ?_
  refine .p (v := .agg ⟨[.slice none 0 0]⟩) rfl rfl rfl (by kernel_rfl) ?_
  refine .buildSlice rfl rfl rfl rfl rfl (bs52_1 ..) (fun b48 hb48 => ?_)
  refine .appendD (R := RDesc (InH F)) (l0 := S0.descs) (l := [[]]) (L := S0.descs ++ [[]]) (d := gd) (cs := cd) rfl (by decide) (.tail (.tail (.tail (.tail .here)))) hFd hOd (Sl.single (R := RDesc (InH F)) (x := []) (b := b48) (c := 1) (el := 58) (g := false) (md := .plain) (mate := none) ⟨_, rfl, sl_nilD⟩ rfl) (InH.sees (by intro p_ hp_; rw [List.mem_singleton.1 hp_]; exact List.mem_cons_self)) RDesc.flats (by simp; omega) rfl rfl rfl rfl underlying52 underlying52 ap58 rfl rfl (fun g1 cs1 hF1 hO1 => ?_)
  obtain ⟨ga1, gc1, hV1⟩ := Gro.len hO1
  refine .as 49 (.slice ga1 (S0.descs ++ [[]]).length gc1) rfl hV1 ?_
  have hV1 : Dro.V (S0.descs ++ [[]]).length (.gro g1) = _ := hV1
  refine .P ?_
  refine .F fa120_1 ?_
  refine .store rfl rfl rfl rfl rfl sz52 rfl (Upd.app (.tail (.tail (.tail .head)))) rfl ?_
  refine .swap (h' := LyX bx bm (.slice al l.length cl) (.gro g1) cs1 gm cm es1 c1 F (S0.push ⟨gt, ga, gr⟩) ++ [(b5, .cells [.int .i64 (Int.ofNat cc), .string ga, .bool gr] 124 false .plain none), (b3, .cells [.int .i64 (Int.ofNat gt), .string ga, .bool gr] 124 false .plain none), (b48, .cells [.slice none 0 0] 58 false .plain none)]) (by unfold LyX; rw [show (S0.push ⟨gt, ga, gr⟩).descs = S0.descs ++ [[]] from rfl, hV1]; exact ly_permP) ?_
  refine .drop (h' := LyX bx bm (.slice al l.length cl) (.gro g1) cs1 gm cm es1 c1 F (S0.push ⟨gt, ga, gr⟩) ++ [(b5, .cells [.int .i64 (Int.ofNat cc), .string ga, .bool gr] 124 false .plain none), (b3, .cells [.int .i64 (Int.ofNat gt), .string ga, .bool gr] 124 false .plain none)]) ((List.Sublist.refl _).append (.cons_cons _ (.cons_cons _ (List.nil_sublist _)))) ?_
  have hMP : LyM l ⟨.gro g1, cs1, gm, cm, es1, c1, F, S0.push ⟨gt, ga, gr⟩⟩ := ⟨hF1, hO1, hFm, hOm, ⟨_, hP1, by have h_ := hMp.put hWl hcc hi_; rw [← hdl] at h_; exact h_⟩, hok.push hgv hi_⟩
  have hupu : unm l (S0.push ⟨gt, ga, gr⟩).keys < unm l S0.keys := unm_push hgv fun hm => givIdx_none hi_ _ hm (GivEq.refl l _)
  refine .nil (.seq (.seq (.seq (.region (.P2 ?_)))))
  refine .nil (.seq (.cond rfl (fun ht53 => ?_) fun ht53 => ?_))
  ·try simp only [nz] at ht53
   exfalso; omega
  try simp only [nz] at ht53
  refine .skip (.seq (.seq (.region (.P ?_))))
  refine .nil (.seq (.seq (.seq (.region (.F fa124_2 ?_)))))
  refine .L ag4 ?_
  refine .nil (.seq (.cond rfl (fun ht56 => ?_) fun ht56 => ?_))
  ·have hr_ : gr = true := ht56
   subst hr_
   obtain ⟨a, ha, hkw⟩ := hgv0
   rw [if_pos rfl] at hkw
   obtain ⟨hk10, hws⟩ := hkw
   obtain ⟨L, hW⟩ := Option.isSome_iff_exists.1 hws
   simp only at ha hk10 hW
   obtain ⟨b, off, cs, el, g, md, mate, hal, ⟨hb, hh⟩, hle, hc⟩ := sl_open hlS0 (by omega)
   have hrX := hc gt a ha
   obtain ⟨veX, vfX, vaX, hrX, heX, hfX, hgX⟩ := hrX
   obtain ⟨aeX, ceX, rfl, hneX, heX⟩ := heX
   have hfSX := hfX
   obtain ⟨afX, cfX, rfl, hnfX, hfX⟩ := hfX
   obtain ⟨aaX, caX, rfl, hnaX, hgX⟩ := hgX
   have hraS : RTy (Off (LyS bx bm (.slice al l.length cl) ⟨gd, cd, gm, cm, es, c, F, S0⟩) m) a [.int .i64 a.kind, .slice aeX a.elems.length ceX, .string a.name, .slice afX a.fields.length cfX, .slice aaX a.arms.length caX] := ⟨_, _, _, rfl, ⟨aeX, ceX, rfl, hneX, heX⟩, hfSX, ⟨aaX, caX, rfl, hnaX, hgX⟩⟩
   have hL12 := withL_len (hwl gt a ha) hW
   refine .seq ?_
   refine .D [(15, 0), (15, 1), (15, 3), (3, 7), (15, 0), (3, 16), (15, 63), (3, 127), (15, 0), (3, 256), (7, 1023), (15, 2047), (15, 4095), (15, 4095), (15, 8191), (15, 32767)] (by kernel_rfl) (by kernel_rfl) (fun base hbase hB => ?_)
   iterate 2 refine .P ?_
   refine .F fa120_0 ?_
   refine .J ag22 ?_
   refine .as 61 (.slice (some ⟨b, off, none⟩) l.length cl) rfl (congrArg (Value.slice · l.length cl) hal) ?_
   refine .F fa124_0 ?_
   refine .J ag3 ?_
   refine .indexAddr rfl rfl rfl rfl rfl underlying22 sz50 rfl rfl (hlt) ?_
   refine .loadAgg rfl rfl rfl rfl rfl rfl rfl rfl ag50 sz50 (Off.sees rfl rfl _ _ ⟨hb, hh⟩) (by omega) hrX ?_
   refine .F fa124_1 ?_
   refine .J ag9 ?_
   refine .calln _ _ _ rfl rfl rfl rfl rfl rfl rfl rfl rfl (fun m hm => arm_ok (t := a) (s := ga) hm.lole (fun b_ o_ h_ => Off.mem b_ o_ (Off.kr hm b_ o_ h_)) hraS (hwl gt a ha)) (fun z hzw => ?_)
   refine .as 68 (.tuple ⟨[z.2, .bool true]⟩) rfl (WithV.some (x := z) hW).symm ?_
   obtain ⟨hSF, -⟩ := hzw L hW
   obtain ⟨zh, zv⟩ := z
   obtain ⟨aF, cF, hzv, hnF, hF_⟩ := hSF
   simp only at hzv
   subst hzv
   iterate 5 refine .P ?_
   refine .nil (.seq (.seq (.seq ?_)))
   refine .D [(15, 0), (15, 1), (15, 3), (3, 7), (15, 0), (3, 16), (15, 63), (15, 127), (3, 255), (3, 511), (15, 1023)] (by kernel_rfl) (by kernel_rfl) (fun base hbase hB => ?_)
   iterate 2 refine .P ?_
   refine .F fa120_0 ?_
   refine .J ag22 ?_
   refine .as 74 (.slice (some ⟨b, off, none⟩) l.length cl) rfl (congrArg (Value.slice · l.length cl) hal) ?_
   refine .F fa124_0 ?_
   refine .M ag3 (.app (.app (.tail .head))) rfl ?_
   refine .indexAddr rfl rfl rfl rfl rfl underlying22 sz50 rfl rfl (hlt) ?_
   refine .F fa50_4 ?_
   refine .M ag48 (Off.sees rfl rfl _ _ ⟨hb, hh⟩) (cell_of_take hrX (k := 4) rfl) ?_
   refine .len rfl rfl rfl rfl rfl rfl (ln48 ..) ?_
   refine .P ?_
   refine .nil (.seq (.cond rfl (fun ht81 => ?_) fun ht81 => ?_))
   ·try simp only [nz] at ht81
    have htag := tag_yes (s := ga) ha (by omega)
    refine .region (.P ?_)
    refine .p (v := .agg ⟨[.int .i64 0, .int .i64 0]⟩) rfl rfl rfl (by kernel_rfl) ?_
    refine .buildSlice rfl rfl rfl rfl rfl (bs56_1 ..) (fun b84 hb84 => ?_)
    refine .appendSl (R := RSlot) (l0 := []) (l := [(0, 0)]) (L := [(0, 0)]) (g := .no) (cs := []) rfl (.here (l := [])) Flat.nil rfl (Sl.single (R := RSlot) (x := (0, 0)) (b := b84) (c := 1) (el := 129) (g := false) (md := .plain) (mate := none) rfl rfl) ((InH.sees (by intro p_ hp_; rw [List.mem_singleton.1 hp_]; exact List.mem_cons_self))) RSlot.flats (by simp) rfl rfl rfl rfl underlying56 underlying56 ap129 rfl rfl (fun g2 cs2 hF2 hO2 => ?_)
    refine .P ?_
    refine .nil (.seq (.seq (.region (.P ?_))))
    refine .G (ln47 ..) ?_
    refine .P ?_
    refine .nil (.seq (.block ?_))
    refine .as 9 (Gro.V (givTag l ⟨gt, ga, true⟩ ++ []).length (g2)) rfl (by rw [htag]; rfl) ?_
    refine .swap (h' := (SlH bx bm (.slice al l.length cl) ⟨.gro g1, cs1, gm, cm, es1, c1, F, S0.push ⟨gt, ga, true⟩⟩ (g2) cs2) ++ ((b84, .cells [.int .i64 0, .int .i64 0] 129 false .plain none) :: (zh ++ [(b5, .cells [.int .i64 (Int.ofNat cc), .string ga, .bool true] 124 false .plain none), (b3, .cells [.int .i64 (Int.ofNat gt), .string ga, .bool true] 124 false .plain none)]))) ly_permT (.loop (α := Nat × SlSt) (fun q => [(0, ptr bx), (8, .int .i64 (Int.ofNat (S0.descs.length))), (9, q.2.g.V (givTag l ⟨gt, ga, true⟩ ++ q.2.o).length), (86, .slice aF L.length cF), (87, .int .i64 (Int.ofNat (L.length))), (88, .int .i64 (Int.ofNat (q.1)))]) (fun q => (SlH bx bm (.slice al l.length cl) q.2.y q.2.g q.2.cs) ++ ((b84, .cells [.int .i64 0, .int .i64 0] 129 false .plain none) :: (zh ++ [(b5, .cells [.int .i64 (Int.ofNat cc), .string ga, .bool true] 124 false .plain none), (b3, .cells [.int .i64 (Int.ofNat gt), .string ga, .bool true] 124 false .plain none)]))) (fun q => q.1 ≤ L.length ∧ SloP l (.slos ((ftypes L).take q.1)) ⟨.gro g1, cs1, gm, cm, es1, c1, F, S0.push ⟨gt, ga, true⟩⟩ (givTag l ⟨gt, ga, true⟩) q.2) (fun q => L.length - q.1) (0, ⟨⟨.gro g1, cs1, gm, cm, es1, c1, F, S0.push ⟨gt, ga, true⟩⟩, g2, cs2, []⟩) ⟨Nat.zero_le _, RunL.nil, hMP, by rw [htag]; exact hF2, by rw [htag]; exact hO2, Nat.le_refl _⟩ ⟨rfl, rfl, rfl, rfl, rfl, rfl, trivial⟩ (.refl _) (fun q hq0 => ?_))
    obtain ⟨i, zi⟩ := q
    obtain ⟨hi, hP⟩ := hq0
    simp only at hi hP
    refine .seq (.region (.P ?_))
    refine .nil (.seq (.seq (.cond rfl (fun ht89 => ?_) fun ht89 => ?_)))
    ·try simp only [nz] at ht89
     have hltE : i < L.length := by omega
     obtain ⟨f_, hf_⟩ := gx hltE
     obtain ⟨bE, offE, csE, elE, gE, mdE, mateE, rfl, hbE, hleE, hcE⟩ := so hF_ hltE
     have hrf := hcE i f_ hf_
     have hpt : (ftypes L)[i]? = some f_.type := by unfold ftypes; rw [List.getElem?_map, hf_]; rfl
     have hpart : ∀ q, q ∈ ftypes L → ∃ q_ : Nat, q = Int.ofNat q_ ∧ ValT l q_ := fun q hq => by obtain ⟨x_, hx_, rfl⟩ := List.mem_map.1 hq; exact hFi.with_ ha hk10 hW hx_
     obtain ⟨q_, hpe, hvq⟩ := hFi.with_ ha hk10 hW (List.mem_of_getElem? hf_)
     rw [hpe] at hpt
     refine .skip (.seq (.seq (.block (.seq (.region (.K underlying47 sz132 ?_))))))
     refine .A ag132 sz132 (hbE.elim (fun h_ => InH.sees (l := zh) (fun p_ hp_ => by first | exact List.mem_append_right _ (List.mem_append_left _ hp_) | exact List.mem_append_right _ (List.mem_cons_of_mem _ (List.mem_append_left _ hp_))) _ _ h_) (fun h_ => Off.sees rfl rfl _ _ h_)) hrf ?_
     refine .alloc rfl rfl rfl rfl zr132 (fun b13 hb13 => ?_)
     refine .S sz132 ?_
     refine .nil (.seq (.region (.P2 ?_)))
     refine .F fa132_1 ?_
     refine .L ag3 ?_
     refine .as 95 (.int .i64 (Int.ofNat q_)) rfl (congrArg (Value.int .i64) hpe) ?_
     have hrq := hrn q_
     have hsh : zi.o.length ≤ ((ftypes L).take i).length * 256 := RunL.shorts hFi hSm (fun q hq => hpart q (List.mem_of_mem_take hq)) hP.run
     have htl : (givTag l ⟨gt, ga, true⟩).length ≤ 1 := by unfold givTag; simp only [if_pos, ha]; split <;> simp
     have htk : ((ftypes L).take i).length ≤ i := by rw [List.length_take]; exact Nat.min_le_left _ _
     refine .callc (SloP l (.slo q_) zi.y (givTag l ⟨gt, ga, true⟩ ++ zi.o)) (fun z => z.g.V ((givTag l ⟨gt, ga, true⟩ ++ zi.o) ++ z.o).length) (fun z => SlH bx bm (.slice al l.length cl) z.y z.g z.cs) (.tail .here) rfl rfl rfl rfl rfl rfl (fun m2 k1_ g2_ => ih (unm l (S0.push ⟨gt, ga, true⟩).keys) (r q_ + 1) (by omega) q_ zi.y zi.g zi.cs (givTag l ⟨gt, ga, true⟩ ++ zi.o) m2 hvq (Nat.lt_succ_self _) hP.left (by rw [List.length_append]; omega) k1_.lole' g2_ hP.mem hP.flat hP.ok (hlS0.mono (Off.into k1_ (fun b_ h_ => by rw [List.map_append]; exact List.mem_append_left _ h_)) (RTy.mono (Off.into k1_ (fun b_ h_ => by rw [List.map_append]; exact List.mem_append_left _ h_))))) (fun z2 hz2 => ?_)
     refine .P ?_
     refine .as 9 (z2.g.V (givTag l ⟨gt, ga, true⟩ ++ (zi.o ++ z2.o)).length) rfl (by rw [List.append_assoc]) ?_
     refine .nil (.blk (.seq (.region (.P ?_))))
     refine .W 97 i ?_
     refine .P ?_
     refine .nil ?_
     exact .loop (i + 1, ⟨z2.y, z2.g, z2.cs, zi.o ++ z2.o⟩) ⟨by omega, ⟨by rw [take_succ' hpt]; exact hP.run.snoc hz2.run, hz2.mem, by rw [← List.append_assoc]; exact hz2.flat, by rw [← List.append_assoc]; exact hz2.ok, Nat.le_trans hz2.left hP.left⟩⟩ (by show L.length - (i + 1) < L.length - i; omega) ⟨rfl, rfl, rfl, rfl, rfl, rfl, trivial⟩ ((List.Sublist.refl _).append (.cons _ (.refl _)))
    try simp only [nz] at ht89
    have hlen := hP.run.ext.len
    have hlen : (S0.descs ++ [[]]).length ≤ zi.y.S.descs.length := hlen
    rw [List.length_append, List.length_singleton] at hlen
    have hcdl : zi.y.cd.length = zi.y.S.descs.length := by have h_ := hP.mem.descs.1; omega
    have hrun : RunL l (.slos (givTys l ⟨gt, ga, true⟩)) (S0.push ⟨gt, ga, true⟩) (zi.o, 0, zi.y.S) := by rw [tys_rec ha hW]; have h_ := hP.run; rw [List.take_of_length_le (by unfold ftypes; rw [List.length_map]; omega)] at h_; exact h_
    have hsh : zi.o.length ≤ ((ftypes L).take i).length * 256 := RunL.shorts hFi hSm (fun q hq => by obtain ⟨x_, hx_, rfl⟩ := List.mem_map.1 (List.mem_of_mem_take hq); exact hFi.with_ ha hk10 hW hx_) hP.run
    have hft : (ftypes L).length = L.length := by unfold ftypes; rw [List.length_map]
    have htk : ((ftypes L).take i).length ≤ 12 := by rw [List.length_take]; omega
    have htl : (givTag l ⟨gt, ga, true⟩).length ≤ 1 := by unfold givTag; simp only [if_pos, ha]; split <;> simp
    have hbig : (givTag l ⟨gt, ga, true⟩ ++ zi.o).length ≤ 10000 := by rw [List.length_append]; omega
    refine .exit (.seq (.loop (.here (.seq (.seq (.region (.P ?_)))))))
    refine .swap (h' := (bx, .cells [.slice al l.length cl, zi.y.gd.V zi.y.S.descs.length, zi.y.gm.V zi.y.S.mods.length, .map (some bm)] 120 false .plain none) :: (zi.y.gd.H 58 zi.y.cd ++ ((zi.y.gm.H 3 zi.y.cm ++ ((bm, .map zi.y.es zi.y.c) :: zi.y.F)) ++ zi.g.H 129 zi.cs ++ ((b84, .cells [.int .i64 0, .int .i64 0] 129 false .plain none) :: (zh ++ [(b5, .cells [.int .i64 (Int.ofNat cc), .string ga, .bool true] 124 false .plain none), (b3, .cells [.int .i64 (Int.ofNat gt), .string ga, .bool true] 124 false .plain none)]))))) ly_permE ?_
    obtain ⟨bD, cD, hVD, hgbD⟩ := Dro.at_ hP.mem.okd (by omega)
    obtain ⟨gsl, gsc, hVs⟩ := Gro.len hP.ok
    refine .P ?_
    refine .F fa120_1 ?_
    refine .L ag52 ?_
    refine .as 106 (.slice (some ⟨bD, 0, none⟩) zi.y.S.descs.length cD) rfl hVD ?_
    refine .P2 ?_
    refine .as 108 (.slice gsl (givTag l ⟨gt, ga, true⟩ ++ zi.o).length gsc) rfl hVs ?_
    refine .K underlying52 sz58 ?_
    refine .F fa58_0 ?_
    refine .storeD (.tail .here) hgbD (j := 0 + S0.descs.length * 1 + 0) (by rw [hcdl]; omega) rfl rfl rfl rfl rfl sz56 rfl rfl ?_
    refine .swap (h' := LyX bx bm (.slice al l.length cl) zi.y.gd.aft (zi.y.cd.set S0.descs.length (.slice gsl (givTag l ⟨gt, ga, true⟩ ++ zi.o).length gsc)) zi.y.gm zi.y.cm zi.y.es zi.y.c (zi.g.H 129 zi.cs ++ zi.y.F) (zi.y.S.put S0.descs.length (givTag l ⟨gt, ga, true⟩ ++ zi.o)) ++ ((b84, .cells [.int .i64 0, .int .i64 0] 129 false .plain none) :: (zh ++ [(b5, .cells [.int .i64 (Int.ofNat cc), .string ga, .bool true] 124 false .plain none), (b3, .cells [.int .i64 (Int.ofNat gt), .string ga, .bool true] 124 false .plain none)]))) (by rw [show 0 + S0.descs.length * 1 + 0 = S0.descs.length by omega]; unfold LyX; rw [put_len, Dro.aftV]; exact ly_permF) ?_
    refine .nil (.seq (.seq (.region (.P2 ?_))))
    refine .nil (.seq (.ret ?_))
    exact .end_ rfl rfl (fun m hm => ⟨_, NumP.made (G := ⟨gt, ga, true⟩) (yP := ⟨.gro g1, cs1, gm, cm, es1, c1, F, S0.push ⟨gt, ga, true⟩⟩) (zi := zi.y) (o := zi.o) hok hi_ hgv rfl hrun hP.mem hP.flat hP.ok (by omega) hVs hP.left, rfl, hm.sub (List.sublist_append_left _ _)⟩)
   try simp only [nz] at ht81
   have htag := tag_no (s := ga) ha (by omega)
   refine .skip (.seq (.seq (.region (.P ?_))))
   refine .G (ln47 ..) ?_
   refine .P ?_
   refine .nil (.seq (.block ?_))
   refine .as 9 (Gro.V (givTag l ⟨gt, ga, true⟩ ++ []).length (.no)) rfl (by rw [htag]; rfl) ?_
   refine .swap (h' := (SlH bx bm (.slice al l.length cl) ⟨.gro g1, cs1, gm, cm, es1, c1, F, S0.push ⟨gt, ga, true⟩⟩ (.no) []) ++ (zh ++ [(b5, .cells [.int .i64 (Int.ofNat cc), .string ga, .bool true] 124 false .plain none), (b3, .cells [.int .i64 (Int.ofNat gt), .string ga, .bool true] 124 false .plain none)])) ly_permN (.loop (α := Nat × SlSt) (fun q => [(0, ptr bx), (8, .int .i64 (Int.ofNat (S0.descs.length))), (9, q.2.g.V (givTag l ⟨gt, ga, true⟩ ++ q.2.o).length), (86, .slice aF L.length cF), (87, .int .i64 (Int.ofNat (L.length))), (88, .int .i64 (Int.ofNat (q.1)))]) (fun q => (SlH bx bm (.slice al l.length cl) q.2.y q.2.g q.2.cs) ++ (zh ++ [(b5, .cells [.int .i64 (Int.ofNat cc), .string ga, .bool true] 124 false .plain none), (b3, .cells [.int .i64 (Int.ofNat gt), .string ga, .bool true] 124 false .plain none)])) (fun q => q.1 ≤ L.length ∧ SloP l (.slos ((ftypes L).take q.1)) ⟨.gro g1, cs1, gm, cm, es1, c1, F, S0.push ⟨gt, ga, true⟩⟩ (givTag l ⟨gt, ga, true⟩) q.2) (fun q => L.length - q.1) (0, ⟨⟨.gro g1, cs1, gm, cm, es1, c1, F, S0.push ⟨gt, ga, true⟩⟩, .no, [], []⟩) ⟨Nat.zero_le _, RunL.nil, hMP, by rw [htag]; exact Flat.nil, by rw [htag]; exact rfl, Nat.le_refl _⟩ ⟨rfl, rfl, rfl, rfl, rfl, rfl, trivial⟩ (.refl _) (fun q hq0 => ?_))
   obtain ⟨i, zi⟩ := q
   obtain ⟨hi, hP⟩ := hq0
   simp only at hi hP
   refine .seq (.region (.P ?_))
   refine .nil (.seq (.seq (.cond rfl (fun ht89 => ?_) fun ht89 => ?_)))
   ·try simp only [nz] at ht89
    have hltE : i < L.length := by omega
    obtain ⟨f_, hf_⟩ := gx hltE
    obtain ⟨bE, offE, csE, elE, gE, mdE, mateE, rfl, hbE, hleE, hcE⟩ := so hF_ hltE
    have hrf := hcE i f_ hf_
    have hpt : (ftypes L)[i]? = some f_.type := by unfold ftypes; rw [List.getElem?_map, hf_]; rfl
    have hpart : ∀ q, q ∈ ftypes L → ∃ q_ : Nat, q = Int.ofNat q_ ∧ ValT l q_ := fun q hq => by obtain ⟨x_, hx_, rfl⟩ := List.mem_map.1 hq; exact hFi.with_ ha hk10 hW hx_
    obtain ⟨q_, hpe, hvq⟩ := hFi.with_ ha hk10 hW (List.mem_of_getElem? hf_)
    rw [hpe] at hpt
    refine .skip (.seq (.seq (.block (.seq (.region (.K underlying47 sz132 ?_))))))
    refine .A ag132 sz132 (hbE.elim (fun h_ => InH.sees (l := zh) (fun p_ hp_ => by first | exact List.mem_append_right _ (List.mem_append_left _ hp_) | exact List.mem_append_right _ (List.mem_cons_of_mem _ (List.mem_append_left _ hp_))) _ _ h_) (fun h_ => Off.sees rfl rfl _ _ h_)) hrf ?_
    refine .alloc rfl rfl rfl rfl zr132 (fun b13 hb13 => ?_)
    refine .S sz132 ?_
    refine .nil (.seq (.region (.P2 ?_)))
    refine .F fa132_1 ?_
    refine .L ag3 ?_
    refine .as 95 (.int .i64 (Int.ofNat q_)) rfl (congrArg (Value.int .i64) hpe) ?_
    have hrq := hrn q_
    have hsh : zi.o.length ≤ ((ftypes L).take i).length * 256 := RunL.shorts hFi hSm (fun q hq => hpart q (List.mem_of_mem_take hq)) hP.run
    have htl : (givTag l ⟨gt, ga, true⟩).length ≤ 1 := by unfold givTag; simp only [if_pos, ha]; split <;> simp
    have htk : ((ftypes L).take i).length ≤ i := by rw [List.length_take]; exact Nat.min_le_left _ _
    refine .callc (SloP l (.slo q_) zi.y (givTag l ⟨gt, ga, true⟩ ++ zi.o)) (fun z => z.g.V ((givTag l ⟨gt, ga, true⟩ ++ zi.o) ++ z.o).length) (fun z => SlH bx bm (.slice al l.length cl) z.y z.g z.cs) (.tail .here) rfl rfl rfl rfl rfl rfl (fun m2 k1_ g2_ => ih (unm l (S0.push ⟨gt, ga, true⟩).keys) (r q_ + 1) (by omega) q_ zi.y zi.g zi.cs (givTag l ⟨gt, ga, true⟩ ++ zi.o) m2 hvq (Nat.lt_succ_self _) hP.left (by rw [List.length_append]; omega) k1_.lole' g2_ hP.mem hP.flat hP.ok (hlS0.mono (Off.into k1_ (fun b_ h_ => by rw [List.map_append]; exact List.mem_append_left _ h_)) (RTy.mono (Off.into k1_ (fun b_ h_ => by rw [List.map_append]; exact List.mem_append_left _ h_))))) (fun z2 hz2 => ?_)
    refine .P ?_
    refine .as 9 (z2.g.V (givTag l ⟨gt, ga, true⟩ ++ (zi.o ++ z2.o)).length) rfl (by rw [List.append_assoc]) ?_
    refine .nil (.blk (.seq (.region (.P ?_))))
    refine .W 97 i ?_
    refine .P ?_
    refine .nil ?_
    exact .loop (i + 1, ⟨z2.y, z2.g, z2.cs, zi.o ++ z2.o⟩) ⟨by omega, ⟨by rw [take_succ' hpt]; exact hP.run.snoc hz2.run, hz2.mem, by rw [← List.append_assoc]; exact hz2.flat, by rw [← List.append_assoc]; exact hz2.ok, Nat.le_trans hz2.left hP.left⟩⟩ (by show L.length - (i + 1) < L.length - i; omega) ⟨rfl, rfl, rfl, rfl, rfl, rfl, trivial⟩ ((List.Sublist.refl _).append (.cons _ (.refl _)))
   try simp only [nz] at ht89
   have hlen := hP.run.ext.len
   have hlen : (S0.descs ++ [[]]).length ≤ zi.y.S.descs.length := hlen
   rw [List.length_append, List.length_singleton] at hlen
   have hcdl : zi.y.cd.length = zi.y.S.descs.length := by have h_ := hP.mem.descs.1; omega
   have hrun : RunL l (.slos (givTys l ⟨gt, ga, true⟩)) (S0.push ⟨gt, ga, true⟩) (zi.o, 0, zi.y.S) := by rw [tys_rec ha hW]; have h_ := hP.run; rw [List.take_of_length_le (by unfold ftypes; rw [List.length_map]; omega)] at h_; exact h_
   have hsh : zi.o.length ≤ ((ftypes L).take i).length * 256 := RunL.shorts hFi hSm (fun q hq => by obtain ⟨x_, hx_, rfl⟩ := List.mem_map.1 (List.mem_of_mem_take hq); exact hFi.with_ ha hk10 hW hx_) hP.run
   have hft : (ftypes L).length = L.length := by unfold ftypes; rw [List.length_map]
   have htk : ((ftypes L).take i).length ≤ 12 := by rw [List.length_take]; omega
   have htl : (givTag l ⟨gt, ga, true⟩).length ≤ 1 := by unfold givTag; simp only [if_pos, ha]; split <;> simp
   have hbig : (givTag l ⟨gt, ga, true⟩ ++ zi.o).length ≤ 10000 := by rw [List.length_append]; omega
   refine .exit (.seq (.loop (.here (.seq (.seq (.region (.P ?_)))))))
   refine .swap (h' := (bx, .cells [.slice al l.length cl, zi.y.gd.V zi.y.S.descs.length, zi.y.gm.V zi.y.S.mods.length, .map (some bm)] 120 false .plain none) :: (zi.y.gd.H 58 zi.y.cd ++ ((zi.y.gm.H 3 zi.y.cm ++ ((bm, .map zi.y.es zi.y.c) :: zi.y.F)) ++ zi.g.H 129 zi.cs ++ (zh ++ [(b5, .cells [.int .i64 (Int.ofNat cc), .string ga, .bool true] 124 false .plain none), (b3, .cells [.int .i64 (Int.ofNat gt), .string ga, .bool true] 124 false .plain none)])))) ly_permE ?_
   obtain ⟨bD, cD, hVD, hgbD⟩ := Dro.at_ hP.mem.okd (by omega)
   obtain ⟨gsl, gsc, hVs⟩ := Gro.len hP.ok
   refine .P ?_
   refine .F fa120_1 ?_
   refine .L ag52 ?_
   refine .as 106 (.slice (some ⟨bD, 0, none⟩) zi.y.S.descs.length cD) rfl hVD ?_
   refine .P2 ?_
   refine .as 108 (.slice gsl (givTag l ⟨gt, ga, true⟩ ++ zi.o).length gsc) rfl hVs ?_
   refine .K underlying52 sz58 ?_
   refine .F fa58_0 ?_
   refine .storeD (.tail .here) hgbD (j := 0 + S0.descs.length * 1 + 0) (by rw [hcdl]; omega) rfl rfl rfl rfl rfl sz56 rfl rfl ?_
   refine .swap (h' := LyX bx bm (.slice al l.length cl) zi.y.gd.aft (zi.y.cd.set S0.descs.length (.slice gsl (givTag l ⟨gt, ga, true⟩ ++ zi.o).length gsc)) zi.y.gm zi.y.cm zi.y.es zi.y.c (zi.g.H 129 zi.cs ++ zi.y.F) (zi.y.S.put S0.descs.length (givTag l ⟨gt, ga, true⟩ ++ zi.o)) ++ (zh ++ [(b5, .cells [.int .i64 (Int.ofNat cc), .string ga, .bool true] 124 false .plain none), (b3, .cells [.int .i64 (Int.ofNat gt), .string ga, .bool true] 124 false .plain none)])) (by rw [show 0 + S0.descs.length * 1 + 0 = S0.descs.length by omega]; unfold LyX; rw [put_len, Dro.aftV]; exact ly_permF) ?_
   refine .nil (.seq (.seq (.region (.P2 ?_))))
   refine .nil (.seq (.ret ?_))
   exact .end_ rfl rfl (fun m hm => ⟨_, NumP.made (G := ⟨gt, ga, true⟩) (yP := ⟨.gro g1, cs1, gm, cm, es1, c1, F, S0.push ⟨gt, ga, true⟩⟩) (zi := zi.y) (o := zi.o) hok hi_ hgv rfl hrun hP.mem hP.flat hP.ok (by omega) hVs hP.left, rfl, hm.sub (List.sublist_append_left _ _)⟩)
  have hr_ : gr = false := ht56
  subst hr_
  obtain ⟨a_, ha_, hkw⟩ := hgv0
  rw [if_neg Bool.false_ne_true] at hkw
  have hvt : ValT l gt := ⟨a_, ha_, hkw.2⟩
  have htag : givTag l ⟨gt, ga, false⟩ = [] := if_neg Bool.false_ne_true
  refine .region (.P ?_)
  refine .swap (h' := (SlH bx bm (.slice al l.length cl) ⟨.gro g1, cs1, gm, cm, es1, c1, F, S0.push ⟨gt, ga, false⟩⟩ .no []) ++ [(b5, .cells [.int .i64 (Int.ofNat cc), .string ga, .bool false] 124 false .plain none), (b3, .cells [.int .i64 (Int.ofNat gt), .string ga, .bool false] 124 false .plain none)]) (List.Perm.of_eq (by simp [Gro.H])) ?_
  refine .P ?_
  refine .F fa124_0 ?_
  refine .L ag3 ?_
  refine .callc (SloP l (.slo gt) ⟨.gro g1, cs1, gm, cm, es1, c1, F, S0.push ⟨gt, ga, false⟩⟩ []) (fun z => z.g.V z.o.length) (fun z => SlH bx bm (.slice al l.length cl) z.y z.g z.cs) .here rfl rfl rfl rfl rfl rfl (fun m2 k1_ g2_ => ih (unm l (S0.push ⟨gt, ga, false⟩).keys) (r gt + 1) (by omega) gt ⟨.gro g1, cs1, gm, cm, es1, c1, F, S0.push ⟨gt, ga, false⟩⟩ .no [] [] m2 hvt (Nat.lt_succ_self _) (Nat.le_refl _) (by have h_ := hrn gt; simp only [List.length_nil]; omega) k1_.lole' g2_ hMP Flat.nil rfl (hlS0.mono (Off.into k1_ (fun b_ h_ => by rw [List.map_append]; exact List.mem_append_left _ h_)) (RTy.mono (Off.into k1_ (fun b_ h_ => by rw [List.map_append]; exact List.mem_append_left _ h_))))) (fun zi hP => ?_)
  have hP : SloP l (.slo gt) ⟨.gro g1, cs1, gm, cm, es1, c1, F, S0.push ⟨gt, ga, false⟩⟩ (givTag l ⟨gt, ga, false⟩) zi := by rw [htag]; exact hP
  have hlen := hP.run.ext.len
  have hlen : (S0.descs ++ [[]]).length ≤ zi.y.S.descs.length := hlen
  rw [List.length_append, List.length_singleton] at hlen
  have hcdl : zi.y.cd.length = zi.y.S.descs.length := by have h_ := hP.mem.descs.1; omega
  have hrun : RunL l (.slos (givTys l ⟨gt, ga, false⟩)) (S0.push ⟨gt, ga, false⟩) (zi.o, 0, zi.y.S) := by rw [show givTys l ⟨gt, ga, false⟩ = [Int.ofNat gt] from if_neg Bool.false_ne_true]; exact run_one hP.run
  have hsh : zi.o.length ≤ 256 := RunL.short hFi hSm hvt hP.run
  have hbig : (givTag l ⟨gt, ga, false⟩ ++ zi.o).length ≤ 10000 := by rw [htag, List.nil_append]; omega
  refine .P ?_
  refine .as 9 (zi.g.V (givTag l ⟨gt, ga, false⟩ ++ zi.o).length) rfl (by rw [htag]; rfl) ?_
  refine .nil (.seq (.seq (.region (.P ?_))))
  refine .swap (h' := (bx, .cells [.slice al l.length cl, zi.y.gd.V zi.y.S.descs.length, zi.y.gm.V zi.y.S.mods.length, .map (some bm)] 120 false .plain none) :: (zi.y.gd.H 58 zi.y.cd ++ ((zi.y.gm.H 3 zi.y.cm ++ ((bm, .map zi.y.es zi.y.c) :: zi.y.F)) ++ zi.g.H 129 zi.cs ++ ([(b5, .cells [.int .i64 (Int.ofNat cc), .string ga, .bool false] 124 false .plain none), (b3, .cells [.int .i64 (Int.ofNat gt), .string ga, .bool false] 124 false .plain none)])))) ly_permE ?_
  obtain ⟨bD, cD, hVD, hgbD⟩ := Dro.at_ hP.mem.okd (by omega)
  obtain ⟨gsl, gsc, hVs⟩ := Gro.len hP.ok
  refine .P ?_
  refine .F fa120_1 ?_
  refine .L ag52 ?_
  refine .as 106 (.slice (some ⟨bD, 0, none⟩) zi.y.S.descs.length cD) rfl hVD ?_
  refine .P2 ?_
  refine .as 108 (.slice gsl (givTag l ⟨gt, ga, false⟩ ++ zi.o).length gsc) rfl hVs ?_
  refine .K underlying52 sz58 ?_
  refine .F fa58_0 ?_
  refine .storeD (.tail .here) hgbD (j := 0 + S0.descs.length * 1 + 0) (by rw [hcdl]; omega) rfl rfl rfl rfl rfl sz56 rfl rfl ?_
  refine .swap (h' := LyX bx bm (.slice al l.length cl) zi.y.gd.aft (zi.y.cd.set S0.descs.length (.slice gsl (givTag l ⟨gt, ga, false⟩ ++ zi.o).length gsc)) zi.y.gm zi.y.cm zi.y.es zi.y.c (zi.g.H 129 zi.cs ++ zi.y.F) (zi.y.S.put S0.descs.length (givTag l ⟨gt, ga, false⟩ ++ zi.o)) ++ ([(b5, .cells [.int .i64 (Int.ofNat cc), .string ga, .bool false] 124 false .plain none), (b3, .cells [.int .i64 (Int.ofNat gt), .string ga, .bool false] 124 false .plain none)])) (by rw [show 0 + S0.descs.length * 1 + 0 = S0.descs.length by omega]; unfold LyX; rw [put_len, Dro.aftV]; exact ly_permF) ?_
  refine .nil (.seq (.seq (.region (.P2 ?_))))
  refine .nil (.seq (.ret ?_))
  exact .end_ rfl rfl (fun m hm => ⟨_, NumP.made (G := ⟨gt, ga, false⟩) (yP := ⟨.gro g1, cs1, gm, cm, es1, c1, F, S0.push ⟨gt, ga, false⟩⟩) (zi := zi.y) (o := zi.o) hok hi_ hgv rfl hrun hP.mem hP.flat hP.ok (by omega) hVs hP.left, rfl, hm.sub (List.sublist_append_left _ _)⟩)
 refine .lookupOk (K := givV) (l := ps) (kv := ⟨cc, ga, gr⟩) (.tail (.tail (.tail (.over (.over .one))))) hPs KG rfl rfl rfl rfl rfl rfl rfl underlying118 zr3 rfl rfl (v := .tuple ⟨[.int .i64 (Int.ofNat (i_ + 1)), .bool true]⟩) (by rw [hget, hi_]; rfl) ?_
 iterate 5 refine .P ?_
 refine .nil (.seq (.seq (.region (.P ?_))))
 refine .nil (.seq (.cond_true rfl (.seq (.region (.P2 ?_)))))
 refine .nil (.seq (.ret (.seq ?_)))
 exact .end_ rfl rfl (fun m hm => ⟨(i_ + 1, ⟨gd, cd, gm, cm, es, c, F, S0⟩), ⟨RunL.old hi_, hM0, Nat.le_refl _⟩, rfl, hm.sub (.cons _ (.cons _ (.refl _)))⟩)
theorem lay_all {l : List Ty} {al : Option Addr} {cl bx bm : Nat} {r : Nat → Nat} (hFi : Fine l) (hSm : Sml l) (hwl : ∀ (i : Nat) (a : Ty), l[i]? = some a → FewT a) (hn14 : l.length ≤ 14) (hrk : Ranked l r) (hrn : ∀ u, r u ≤ l.length) : ∀ n u, u < n → NumC l (.slice al l.length cl) bx bm u ∧ ∀ k, SloC l (.slice al l.length cl) r bx bm u k
 | 0, _, h => absurd h (Nat.not_lt_zero _)
 | n + 1, u, h => by
  have ih : ∀ u2 k, u2 < u → SloC l (.slice al l.length cl) r bx bm u2 k := fun u2 k h2 => (lay_all hFi hSm hwl hn14 hrk hrn n u2 (by omega)).2 k
  have hN : NumC l (.slice al l.length cl) bx bm u := fun g y m hg hu hm hk hM hlS => by
   obtain ⟨gt, ga, gr⟩ := g
   exact number_step hm hk hM hlS hFi hSm hwl hn14 hrk hrn hg hu ih
  refine ⟨hN, fun k => ?_⟩
  induction k with
  | zero => exact fun t y g cs o m _ hr => absurd hr (Nat.not_lt_zero _)
  | succ k ihk => exact fun t y g cs o m ht hr hu hroom hm hk hM hF hO hlS => slots_step hm hk hM hF hO hlS hFi hSm hwl hn14 hrk ht hr hu hroom hN ihk
theorem number_ok {l : List Ty} {al : Option Addr} {cl bx bm : Nat} {y : LySt} {g : Giv} {m : AW} (hm : m.lo ≤ m.next) (hk : Knows (LyS bx bm (.slice al l.length cl) y) m m (LyH bx bm (.slice al l.length cl) y)) (hM : LyM l y) (hlS : TabL l (.slice al l.length cl) (LyS bx bm (.slice al l.length cl) y) m) (hFi : Fine l) (hSm : Sml l) (hwl : ∀ (i : Nat) (a : Ty), l[i]? = some a → FewT a) (hn14 : l.length ≤ 14) (hg : GivV l g) : Fc prog 119 [ptr bx, givV g] m fun v m' => LyQ bx bm (.slice al l.length cl) y (NumP l g y) (fun z => .int .i64 (Int.ofNat z.1)) (fun z => z.2) m v m' := by
 obtain ⟨r, sz, hr, hrn, _⟩ := hFi.rank
 exact (lay_all hFi hSm hwl hn14 hr hrn _ _ (Nat.lt_succ_self _)).1 g y m hg (Nat.le_refl _) hm hk hM hlS
abbrev GvH (bx bm : Nat) (lv : Value) (y : LySt) (b : Nat) (v : Value) (t : TypeId) : Hp := LyH bx bm lv y ++ [(b, .cells [v] t false .plain none)]
theorem gv_perm {α : Type} {u v w : α} {L : List α} : (u :: (v :: (w :: L))).Perm ((L ++ [u]) ++ [v, w]) := by
 rw [List.append_assoc]
 exact (List.perm_append_comm (l₁ := [u, v, w]) (l₂ := L))
theorem gv_permL {α : Type} {u : α} {L R : List α} : (L ++ (u :: R)).Perm ((L ++ [u]) ++ R) := by
 rw [List.append_assoc]
 exact List.Perm.refl _
def EleP (l : List Ty) (t : Int) (y0 : LySt) (z : (Nat × Int) × LySt) : Prop := (¬ (0 ≤ t ∧ t < l.length) ∧ z = ((0, 11), y0)) ∨ ∃ q a, t = Int.ofNat q ∧ l[q]? = some a ∧ ((valueB a = false ∧ z = ((0, 7), y0)) ∨ (valueB a = true ∧ z.1.2 = 0 ∧ NumP l ⟨q, ⟨#[]⟩, false⟩ y0 (z.1.1, z.2)))
def RecP (l : List Ty) (t : Int) (s : ByteArray) (y0 : LySt) (z : (Nat × Int) × LySt) : Prop := (¬ (0 ≤ t ∧ t < l.length) ∧ z = ((0, 11), y0)) ∨ ∃ q a, t = Int.ofNat q ∧ l[q]? = some a ∧ ((a.kind ≠ 10 ∧ z = ((0, 13), y0)) ∨ (a.kind = 10 ∧ withL a s = none ∧ z = ((0, 4), y0)) ∨ (a.kind = 10 ∧ (withL a s).isSome = true ∧ z.1.2 = 0 ∧ NumP l ⟨q, s, true⟩ y0 (z.1.1, z.2)))
def ynV (z : (Nat × Int) × LySt) : Value := .tuple ⟨[.int .i64 (Int.ofNat z.1.1), .int .i64 z.1.2]⟩
theorem give1_ok {l : List Ty} {al : Option Addr} {cl bx bm b2 b3 b6 : Nat} {y0 : LySt} {G : Giv} {w0 : Value} {m : AW} (hm : m.lo ≤ m.next) (hk : Knows ((GvH bx bm (.slice al l.length cl) y0 b6 w0 3).map Prod.fst) m m (GvH bx bm (.slice al l.length cl) y0 b6 w0 3)) (hM : LyM l y0) (hlS : TabL l (.slice al l.length cl) ((GvH bx bm (.slice al l.length cl) y0 b6 w0 3).map Prod.fst) m) (hFi : Fine l) (hSm : Sml l) (hwl : ∀ (i : Nat) (a : Ty), l[i]? = some a → FewT a) (hn14 : l.length ≤ 14) (h2 : Off ((GvH bx bm (.slice al l.length cl) y0 b6 w0 3).map Prod.fst) m b2 (.cells [ptr bx] 42 false .plain none)) (h3 : Off ((GvH bx bm (.slice al l.length cl) y0 b6 w0 3).map Prod.fst) m b3 (.cells [.int .i64 (Int.ofNat G.t), .string G.arm, .bool G.rcd] 124 false .plain none)) (hG : GivV l G) : Fc prog 118 [ptr b2, ptr b3, ptr b6] m fun v m' => ∃ z : Nat × LySt, NumP l G y0 z ∧ v = .tuple ⟨[]⟩ ∧ Knows ((GvH bx bm (.slice al l.length cl) y0 b6 w0 3).map Prod.fst) m m' (GvH bx bm (.slice al l.length cl) z.2 b6 (.int .i64 (Int.ofNat z.1)) 3) := by
 refine Fc.bodyS (S := (GvH bx bm (.slice al l.length cl) y0 b6 w0 3).map Prod.fst) (c := _) func118 rfl rfl rfl rfl hk ?_
 refine .region ?_
 refine .M ag42 (Off.sees rfl rfl _ _ h2) rfl ?_
 refine .loadAgg rfl rfl rfl rfl rfl ag124 sz124 (Off.sees rfl rfl _ _ h3) (Nat.le_of_ble_eq_true rfl) rfl ?_
 refine .as 4 (givV G) rfl rfl ?_
 refine .callc (NumP l G y0) (fun z => .int .i64 (Int.ofNat z.1)) (fun z => LyH bx bm (.slice al l.length cl) z.2) .here rfl rfl rfl rfl rfl rfl (fun m2 k1_ g2_ => number_ok k1_.lole' g2_ hM (hlS.mono (Off.into k1_ (fun b_ h_ => by rw [List.map_append]; exact List.mem_append_left _ h_)) (RTy.mono (Off.into k1_ (fun b_ h_ => by rw [List.map_append]; exact List.mem_append_left _ h_)))) hFi hSm hwl hn14 hG) (fun z hz => ?_)
 refine .store rfl rfl rfl rfl rfl sz3 rfl (Upd.app .head) rfl ?_
 refine .nil ?_
 exact .end_ rfl rfl (fun m hm => ⟨z, hz, rfl, hm⟩)
theorem tryG_ok {l : List Ty} {al : Option Addr} {cl bx bm b2 b3 b6 : Nat} {y0 : LySt} {G : Giv} {w0 : Value} {m : AW} (hm : m.lo ≤ m.next) (hk : Knows ((GvH bx bm (.slice al l.length cl) y0 b6 w0 3).map Prod.fst) m m (GvH bx bm (.slice al l.length cl) y0 b6 w0 3)) (hM : LyM l y0) (hlS : TabL l (.slice al l.length cl) ((GvH bx bm (.slice al l.length cl) y0 b6 w0 3).map Prod.fst) m) (hFi : Fine l) (hSm : Sml l) (hwl : ∀ (i : Nat) (a : Ty), l[i]? = some a → FewT a) (hn14 : l.length ≤ 14) (h2 : Off ((GvH bx bm (.slice al l.length cl) y0 b6 w0 3).map Prod.fst) m b2 (.cells [ptr bx] 42 false .plain none)) (h3 : Off ((GvH bx bm (.slice al l.length cl) y0 b6 w0 3).map Prod.fst) m b3 (.cells [.int .i64 (Int.ofNat G.t), .string G.arm, .bool G.rcd] 124 false .plain none)) (hG : GivV l G) : Fc prog 83 [ptr bx, .func (.func 118) ⟨[]⟩ ⟨[ptr b2, ptr b3, ptr b6]⟩] m fun v m' => ∃ z : Nat × LySt, NumP l G y0 z ∧ v = .int .i64 0 ∧ Knows ((GvH bx bm (.slice al l.length cl) y0 b6 w0 3).map Prod.fst) m m' (GvH bx bm (.slice al l.length cl) z.2 b6 (.int .i64 (Int.ofNat z.1)) 3) := by
 obtain ⟨gda, gdc, hVd⟩ := Dro.len hM.okd
 obtain ⟨gma, gmc, hVm⟩ := Gro.len hM.okm
 refine Fc.bodyS (S := (GvH bx bm (.slice al l.length cl) y0 b6 w0 3).map Prod.fst) (c := _) func83 rfl rfl rfl rfl hk ?_
 refine .seq (.region (.P ?_))
 refine .nil (.seq (.seq ?_))
 refine .D [(15, 0), (15, 1), (15, 3), (3, 7), (3, 15), (15, 0), (15, 32), (15, 96), (3, 224), (3, 480), (15, 31), (15, 2047)] (by kernel_rfl) (by kernel_rfl) (fun base hbase hB => ?_)
 iterate 2 refine .P ?_
 refine .F fa120_1 ?_
 refine .J ag52 ?_
 refine .as 12 (.slice gda y0.S.descs.length gdc) rfl hVd ?_
 refine .len rfl rfl rfl rfl rfl rfl (ln52 ..) ?_
 iterate 2 refine .P ?_
 refine .F fa120_2 ?_
 refine .J ag32 ?_
 refine .as 17 (.slice gma y0.S.mods.length gmc) rfl hVm ?_
 refine .len rfl rfl rfl rfl rfl rfl (ln32 ..) ?_
 iterate 2 refine .P ?_
 refine .nil (.seq (.seq (.region (.P ?_))))
 refine .callc (NumP l G y0) (fun _ => .tuple ⟨[]⟩) (fun z => GvH bx bm (.slice al l.length cl) z.2 b6 (.int .i64 (Int.ofNat z.1)) 3) .all rfl rfl rfl rfl rfl rfl (fun m2 k1_ g2_ => give1_ok k1_.lole' g2_ hM (hlS.mono (Off.into k1_ (fun b_ h_ => by rw [List.map_append]; exact List.mem_append_left _ h_)) (RTy.mono (Off.into k1_ (fun b_ h_ => by rw [List.map_append]; exact List.mem_append_left _ h_)))) hFi hSm hwl hn14 ((Off.into k1_ (fun b_ h_ => by rw [List.map_append]; exact List.mem_append_left _ h_)) _ _ h2) ((Off.into k1_ (fun b_ h_ => by rw [List.map_append]; exact List.mem_append_left _ h_)) _ _ h3) hG) (fun z hz => ?_)
 refine .nil (.seq (.seq (.seq (.region (.P2 ?_)))))
 refine .F fa120_1 ?_
 refine .L ag52 ?_
 obtain ⟨gea, gec, hVe⟩ := Dro.len hz.mem.okd
 refine .as 24 (.slice gea z.2.S.descs.length gec) rfl hVe ?_
 have hde := hz.mem.ok.len
 have hke := hz.mem.ok.keys_few hwl hn14
 refine .G (ln52 ..) ?_
 refine .P ?_
 refine .nil (.seq (.cond rfl (fun ht26 => ?_) fun ht26 => ?_))
 ·try simp only [nz] at ht26
  refine .seq (.region (.P ?_))
  refine .nil (.seq (.ret (.seq ?_)))
  exact .end_ rfl rfl (fun m hm => ⟨z, hz, rfl, (by rw [List.append_nil] at hm; exact hm)⟩)
 try simp only [nz] at ht26
 exfalso; omega
theorem give_ok {l : List Ty} {al : Option Addr} {cl bx bm : Nat} {y0 : LySt} {G : Giv} {m : AW} (hm : m.lo ≤ m.next) (hk : Knows (LyS bx bm (.slice al l.length cl) y0) m m (LyH bx bm (.slice al l.length cl) y0)) (hM : LyM l y0) (hlS : TabL l (.slice al l.length cl) (LyS bx bm (.slice al l.length cl) y0) m) (hFi : Fine l) (hSm : Sml l) (hwl : ∀ (i : Nat) (a : Ty), l[i]? = some a → FewT a) (hn14 : l.length ≤ 14) (hG : GivV l G) : Fc prog 71 [ptr bx, givV G] m fun v m' => LyQ bx bm (.slice al l.length cl) y0 (NumP l G y0) (fun z => .tuple ⟨[.int .i64 (Int.ofNat z.1), .int .i64 0]⟩) (fun z => z.2) m v m' := by
 refine Fc.bodyS (S := LyS bx bm (.slice al l.length cl) y0) (c := _) func71 rfl rfl rfl rfl hk ?_
 refine .seq (.region ?_)
 refine .box rfl rfl rfl rfl rfl (fun b2 hb2 => ?_)
 refine .box rfl rfl rfl rfl rfl (fun b3 hb3 => ?_)
 refine .P2 ?_
 refine .nil (.seq (.seq (.region ?_)))
 refine .alloc rfl rfl rfl rfl zr3 (fun b6 hb6 => ?_)
 refine .S sz3 ?_
 refine .nil (.seq (.seq (.seq (.region (.L ag42 ?_)))))
 refine .swap gv_perm (.P ?_)
 refine .callc (NumP l G y0) (fun _ => .int .i64 0) (fun z => GvH bx bm (.slice al l.length cl) z.2 b6 (.int .i64 (Int.ofNat z.1)) 3) .here rfl rfl rfl rfl rfl rfl (fun m2 k1_ g2_ => tryG_ok k1_.lole' g2_ hM (hlS.mono (Off.into k1_ (fun b_ h_ => by rw [List.map_append]; exact List.mem_append_left _ h_)) (RTy.mono (Off.into k1_ (fun b_ h_ => by rw [List.map_append]; exact List.mem_append_left _ h_)))) hFi hSm hwl hn14 (Off.known k1_ (.tail _ (.head _))) (Off.known k1_ (.head _)) hG) (fun z hz => ?_)
 refine .swap gv_permL.symm (.P ?_)
 refine .nil (.seq (.seq (.region (.P2 ?_))))
 refine .nil (.seq ?_)
 refine .cond_false (rfl) ?_
 refine .skip (.seq (.seq (.region ?_)))
 refine .M ag3 (.app .head) rfl ?_
 refine .P2 ?_
 refine .nil (.seq (.ret ?_))
 exact .end_ rfl rfl (fun m hm => ⟨z, hz, rfl, hm.sub (List.sublist_append_left _ _)⟩)
theorem lasked_ok {l : List Ty} {al : Option Addr} {cl bx : Nat} {w1 w2 w3 : Value} {t : Int} {m : AW} (hm : m.lo ≤ m.next) (hx : Mem m bx (.cells [.slice al l.length cl, w1, w2, w3] 120 false .plain none)) : Fc prog 70 [ptr bx, .int .i64 t] m fun v m' => v = .int .i64 (if 0 ≤ t ∧ t < l.length then 0 else 11) ∧ Ext m m' := by
 refine Fc.body (c := _) func70 rfl rfl rfl rfl hm ?_
 refine .seq (.region (.P ?_))
 refine .nil (.seq (.seq (.block (.seq (.region (.P ?_))))))
 refine .p (v := .bool false) rfl rfl rfl (by kernel_rfl) ?_
 refine .P ?_
 refine .nil (.seq (.cond_false rfl (.seq (.region (.P3 ?_)))))
 refine .splitB 11 rfl (fun hs_11 => ?_) (fun hs_11 => ?_)
 ·try simp only [nz] at hs_11
  iterate 7 refine .O ?_
  refine .P2 ?_
  refine .nil (.seq (.cond_true rfl (.seq (.region (.P ?_)))))
  refine .nil (.seq (.ret (.blk (.seq ?_))))
  exact .end_ rfl rfl (fun m hm => ⟨congrArg (Value.int .i64) (by first | (rw [if_neg (by omega)]) | (rw [if_pos (by omega)])), hm.ext⟩)
 try simp only [nz] at hs_11
 refine .P3 ?_
 refine .F fa120_0 ?_
 refine .M ag22 (Mem.sees rfl rfl _ _ hx) rfl ?_
 refine .G (ln22 ..) ?_
 refine .P3 ?_
 refine .nil (.seq (.cond rfl (fun ht8 => ?_) fun ht8 => ?_))
 ·try simp only [nz] at ht8
  refine .seq (.region (.P ?_))
  refine .nil (.seq (.ret (.blk (.seq ?_))))
  exact .end_ rfl rfl (fun m hm => ⟨congrArg (Value.int .i64) (by first | (rw [if_neg (by omega)]) | (rw [if_pos (by omega)])), hm.ext⟩)
 try simp only [nz] at ht8
 refine .skip (.blk (.seq (.seq (.region (.P ?_)))))
 refine .nil (.seq (.ret ?_))
 exact .end_ rfl rfl (fun m hm => ⟨congrArg (Value.int .i64) (by first | (rw [if_neg (by omega)]) | (rw [if_pos (by omega)])), hm.ext⟩)
theorem Elem_ok {l : List Ty} {al : Option Addr} {cl bx bm : Nat} {y0 : LySt} {t : Int} {m : AW} (hm : m.lo ≤ m.next) (hk : Knows (LyS bx bm (.slice al l.length cl) y0) m m (LyH bx bm (.slice al l.length cl) y0)) (hM : LyM l y0) (hlS : TabL l (.slice al l.length cl) (LyS bx bm (.slice al l.length cl) y0) m) (hFi : Fine l) (hSm : Sml l) (hwl : ∀ (i : Nat) (a : Ty), l[i]? = some a → FewT a) (hn14 : l.length ≤ 14) : Fc prog 29 [ptr bx, .int .i64 t] m fun v m' => LyQ bx bm (.slice al l.length cl) y0 (EleP l t y0) ynV (fun z => z.2) m v m' := by
 refine Fc.bodyS (S := LyS bx bm (.slice al l.length cl) y0) (c := _) func29 rfl rfl rfl rfl hk ?_
 refine .seq (.region (.P2 ?_))
 refine .nil (.seq (.seq (.seq (.region (.P2 ?_)))))
 refine .call _ rfl rfl rfl rfl rfl rfl (fun m hm => lasked_ok (l := l) hm.lole ⟨(hm.has bx _ (.head _)).2, (hm.has bx _ (.head _)).1⟩) ?_
 refine .P ?_
 refine .nil (.seq (.seq (.region (.P2 ?_))))
 refine .nil (.seq (.cond rfl (fun ht11 => ?_) fun ht11 => ?_))
 ·try simp only [nz] at ht11
  have hin : ¬ (0 ≤ t ∧ t < l.length) := fun h => by simp only [if_pos h] at ht11; exact ht11 rfl
  refine .seq (.region (.P ?_))
  refine .as 12 (.int .i64 11) rfl (by rw [if_neg hin]) ?_
  refine .P2 ?_
  refine .nil (.seq (.ret (.seq ?_)))
  exact .end_ rfl rfl (fun m hm => ⟨((0, 11), y0), .inl ⟨hin, rfl⟩, rfl, hm⟩)
 try simp only [nz] at ht11
 have hin : 0 ≤ t ∧ t < l.length := Classical.byContradiction fun h => by simp only [if_neg h] at ht11; omega
 obtain ⟨q, rfl⟩ := Int.eq_ofNat_of_zero_le hin.1
 obtain ⟨a, ha⟩ : ∃ w_, l[q]? = some w_ := ⟨_, List.getElem?_eq_getElem (by omega)⟩
 refine .skip (.seq (.seq (.seq (.region (.P2 ?_)))))
 refine .F fa120_0 ?_
 refine .L ag22 ?_
 refine .P ?_
 refine .call _ rfl rfl rfl rfl rfl rfl (fun m hm => value_ok hm.lole (hlS.mono (fun b_ o_ h_ => Off.mem b_ o_ (Off.kr hm b_ o_ h_)) (RTy.mono (fun b_ o_ h_ => Off.mem b_ o_ (Off.kr hm b_ o_ h_)))) ha) ?_
 refine .P ?_
 refine .nil (.seq (.cond rfl (fun ht19 => ?_) fun ht19 => ?_))
 ·try simp only [nz] at ht19
  refine .seq (.region (.P2 ?_))
  refine .nil (.seq (.ret (.seq ?_)))
  exact .end_ rfl rfl (fun m hm => ⟨((0, 7), y0), .inr ⟨q, a, rfl, ha, .inl ⟨by assumption, rfl⟩⟩, rfl, hm⟩)
 try simp only [nz] at ht19
 refine .skip (.seq (.seq (.region (.P2 ?_))))
 refine .p (v := givV ⟨q, ⟨#[]⟩, false⟩) rfl rfl rfl (by kernel_rfl) ?_
 refine .callc (NumP l ⟨q, ⟨#[]⟩, false⟩ y0) (fun z => .tuple ⟨[.int .i64 (Int.ofNat z.1), .int .i64 0]⟩) (fun z => LyH bx bm (.slice al l.length cl) z.2) .all rfl rfl rfl rfl rfl rfl (fun m2 k1_ g2_ => give_ok k1_.lole' g2_ hM (hlS.mono (Off.into k1_ (fun b_ h_ => by rw [List.map_append]; exact List.mem_append_left _ h_)) (RTy.mono (Off.into k1_ (fun b_ h_ => by rw [List.map_append]; exact List.mem_append_left _ h_)))) hFi hSm hwl hn14 ⟨a, ha, by rw [if_neg Bool.false_ne_true]; exact ⟨rfl, by assumption⟩⟩) (fun z hz => ?_)
 iterate 4 refine .P ?_
 refine .nil (.seq (.ret ?_))
 exact .end_ rfl rfl (fun m hm => ⟨((z.1, 0), z.2), .inr ⟨q, a, rfl, ha, .inr ⟨by assumption, rfl, hz⟩⟩, rfl, (by rw [List.append_nil] at hm; exact hm)⟩)
theorem Record_ok {l : List Ty} {al : Option Addr} {cl bx bm : Nat} {y0 : LySt} {t : Int} {s : ByteArray} {m : AW} (hm : m.lo ≤ m.next) (hk : Knows (LyS bx bm (.slice al l.length cl) y0) m m (LyH bx bm (.slice al l.length cl) y0)) (hM : LyM l y0) (hlS : TabL l (.slice al l.length cl) (LyS bx bm (.slice al l.length cl) y0) m) (hFi : Fine l) (hSm : Sml l) (hwl : ∀ (i : Nat) (a : Ty), l[i]? = some a → FewT a) (hn14 : l.length ≤ 14) : Fc prog 30 [ptr bx, .int .i64 t, .string s] m fun v m' => LyQ bx bm (.slice al l.length cl) y0 (RecP l t s y0) ynV (fun z => z.2) m v m' := by
 refine Fc.bodyS (S := LyS bx bm (.slice al l.length cl) y0) (c := _) func30 rfl rfl rfl rfl hk ?_
 refine .seq (.region (.P2 ?_))
 refine .nil (.seq (.seq (.seq (.region (.P2 ?_)))))
 refine .call _ rfl rfl rfl rfl rfl rfl (fun m hm => lasked_ok (l := l) hm.lole ⟨(hm.has bx _ (.head _)).2, (hm.has bx _ (.head _)).1⟩) ?_
 refine .P ?_
 refine .nil (.seq (.seq (.region (.P2 ?_))))
 refine .nil (.seq (.cond rfl (fun ht15 => ?_) fun ht15 => ?_))
 ·try simp only [nz] at ht15
  have hin : ¬ (0 ≤ t ∧ t < l.length) := fun h => by simp only [if_pos h] at ht15; exact ht15 rfl
  refine .seq (.region (.P ?_))
  refine .as 16 (.int .i64 11) rfl (by rw [if_neg hin]) ?_
  refine .P2 ?_
  refine .nil (.seq (.ret (.seq ?_)))
  exact .end_ rfl rfl (fun m hm => ⟨((0, 11), y0), .inl ⟨hin, rfl⟩, rfl, hm⟩)
 try simp only [nz] at ht15
 have hin : 0 ≤ t ∧ t < l.length := Classical.byContradiction fun h => by simp only [if_neg h] at ht15; omega
 obtain ⟨q, rfl⟩ := Int.eq_ofNat_of_zero_le hin.1
 obtain ⟨a, ha⟩ : ∃ w_, l[q]? = some w_ := ⟨_, List.getElem?_eq_getElem (by omega)⟩
 obtain ⟨b, off, cs, el, g, md, mate, hal, ⟨hb, hh⟩, hle, hc⟩ := sl_open hlS (by omega)
 have hrX := hc q a ha
 obtain ⟨veX, vfX, vaX, hrX, heX, hfX, hgX⟩ := hrX
 obtain ⟨aeX, ceX, rfl, hneX, heX⟩ := heX
 have hfSX := hfX
 obtain ⟨afX, cfX, rfl, hnfX, hfX⟩ := hfX
 obtain ⟨aaX, caX, rfl, hnaX, hgX⟩ := hgX
 have hraS : RTy (Off (LyS bx bm (.slice al l.length cl) y0) m) a [.int .i64 a.kind, .slice aeX a.elems.length ceX, .string a.name, .slice afX a.fields.length cfX, .slice aaX a.arms.length caX] := ⟨_, _, _, rfl, ⟨aeX, ceX, rfl, hneX, heX⟩, hfSX, ⟨aaX, caX, rfl, hnaX, hgX⟩⟩
 refine .skip (.seq (.seq (.seq (.region (.P2 ?_)))))
 refine .F fa120_0 ?_
 refine .L ag22 ?_
 refine .as 20 (.slice (some ⟨b, off, none⟩) l.length cl) rfl (congrArg (Value.slice · l.length cl) hal) ?_
 refine .P ?_
 refine .K underlying22 sz50 ?_
 refine .F fa50_0 ?_
 refine .M ag3 (Off.sees rfl rfl _ _ ⟨hb, hh⟩) (cell_of_take hrX (k := 0) rfl) ?_
 refine .P ?_
 refine .nil (.seq (.cond rfl (fun ht25 => ?_) fun ht25 => ?_))
 ·try simp only [nz] at ht25
  refine .seq (.region (.P2 ?_))
  refine .nil (.seq (.ret (.seq ?_)))
  exact .end_ rfl rfl (fun m hm => ⟨((0, 13), y0), .inr ⟨q, a, rfl, ha, .inl ⟨by assumption, rfl⟩⟩, rfl, hm⟩)
 try simp only [nz] at ht25
 refine .skip (.seq (.seq (.seq (.region (.P2 ?_)))))
 refine .F fa120_0 ?_
 refine .L ag22 ?_
 refine .as 30 (.slice (some ⟨b, off, none⟩) l.length cl) rfl (congrArg (Value.slice · l.length cl) hal) ?_
 refine .P ?_
 refine .K underlying22 sz50 ?_
 refine .A ag50 sz50 (Off.sees rfl rfl _ _ ⟨hb, hh⟩) hrX ?_
 refine .P ?_
 refine .calln _ _ _ rfl rfl rfl rfl rfl rfl (fun m hm => arm_ok (t := a) (s := s) hm.lole (fun b_ o_ h_ => Off.mem b_ o_ (Off.kr hm b_ o_ h_)) hraS (hwl q a ha)) (fun zw hzw => ?_)
 refine .drop (h' := LyH bx bm (.slice al l.length cl) y0) (List.sublist_append_right _ _) ?_
 iterate 5 refine .P ?_
 refine .nil (.seq (.seq (.region (.P2 ?_))))
 refine .nil (.seq (.cond rfl (fun ht39 => ?_) fun ht39 => ?_))
 ·try simp only [nz] at ht39
  refine .seq (.region (.P2 ?_))
  refine .nil (.seq (.ret (.seq ?_)))
  exact .end_ rfl rfl (fun m hm => ⟨((0, 4), y0), .inr ⟨q, a, rfl, ha, .inr (.inl ⟨by omega, by cases hw_ : withL a s with | none => rfl | some _ => (rw [hw_] at ht39; cases ht39), rfl⟩)⟩, rfl, hm⟩)
 try simp only [nz] at ht39
 refine .skip (.seq (.seq (.region (.P3 ?_))))
 refine .p (v := givV ⟨q, s, true⟩) rfl rfl rfl (by kernel_rfl) ?_
 refine .callc (NumP l ⟨q, s, true⟩ y0) (fun z => .tuple ⟨[.int .i64 (Int.ofNat z.1), .int .i64 0]⟩) (fun z => LyH bx bm (.slice al l.length cl) z.2) .all rfl rfl rfl rfl rfl rfl (fun m2 k1_ g2_ => give_ok k1_.lole' g2_ hM (hlS.mono (Off.into k1_ (fun b_ h_ => by rw [List.map_append]; exact List.mem_append_left _ h_)) (RTy.mono (Off.into k1_ (fun b_ h_ => by rw [List.map_append]; exact List.mem_append_left _ h_)))) hFi hSm hwl hn14 ⟨a, ha, by rw [if_pos rfl]; exact ⟨by omega, by assumption⟩⟩) (fun z hz => ?_)
 iterate 4 refine .P ?_
 refine .nil (.seq (.ret ?_))
 exact .end_ rfl rfl (fun m hm => ⟨((z.1, 0), z.2), .inr ⟨q, a, rfl, ha, .inr (.inr ⟨by omega, by assumption, rfl, hz⟩)⟩, rfl, (by rw [List.append_nil] at hm; exact hm)⟩)

/-! A new layout. -/
structure NlSt where
 e : Int
 bx : Nat
 bm : Nat
 al : Option Addr
 cl : Nat
 y : LySt
 T : Hp
abbrev NlSt.lv (l : List Ty) (z : NlSt) : Value := .slice z.al l.length z.cl
structure NlP (l : List Ty) (z : NlSt) : Prop where
 chk : ChkP l z.e
 tab : z.e = 0 → Sl (InH z.T) 5 (RTy (InH z.T)) l (z.lv l)
 mem : z.e = 0 → LyM l z.y
 new_ : z.e = 0 → z.y.S = ⟨[], [[]], []⟩
def nlV (z : NlSt) : Value := if z.e = 0 then .tuple ⟨[ptr z.bx, .int .i64 0]⟩ else .tuple ⟨[.pointer none, .int .i64 z.e]⟩
def nlH (l : List Ty) (z : NlSt) : Hp := if z.e = 0 then LyH z.bx z.bm (z.lv l) z.y ++ z.T else []
theorem nl_bad {l : List Ty} {e : Int} (h : ChkP l e) (he : e ≠ 0) (z : NlSt) (hz : z.e = e) : NlP l z := ⟨by rw [hz]; exact h, fun h0 => absurd (hz.symm.trans h0) he, fun h0 => absurd (hz.symm.trans h0) he, fun h0 => absurd (hz.symm.trans h0) he⟩
theorem LyM.start (l : List Ty) (b : Nat) : LyM l ⟨.tig b, [.slice none 0 0], .no, [], [], 0, [], ⟨[], [[]], []⟩⟩ := ⟨Flat.one ⟨_, rfl, sl_nilD⟩ rfl, ⟨(show 0 < 1 by decide), (show 1 ≤ 4294967296 by decide)⟩, Flat.nil, rfl, ⟨[], trivial, MapL.nil l⟩, LayOk.start l⟩
theorem nl_perm {α : Type} {x m d : α} {R : List α} : (x :: (m :: (d :: R))).Perm ((x :: ([d] ++ ([] ++ (m :: [])))) ++ R) := List.Perm.cons _ (List.Perm.swap _ _ _)
theorem NewLayout_ok {l : List Ty} {vl : Value} {m : AW} (hm : m.lo ≤ m.next) (hlS : Sl (Mem m) 5 (RTy (Mem m)) l vl) (hwl : ∀ (i : Nat) (a : Ty), l[i]? = some a → FewT a) (hn14 : l.length ≤ 14) : Fc prog 28 [vl] m fun v m' => ∃ z : NlSt, NlP l z ∧ v = nlV z ∧ Ext m m' ∧ News m m' (nlH l z) := by
 have hlS0 := hlS
 obtain ⟨al, cl, rfl, hnl, hl⟩ := hlS
 refine Fc.body (c := _) func28 rfl rfl rfl rfl hm ?_
 refine .seq (.region (.P2 ?_))
 refine .nil (.seq (.seq (.seq (.region (.P ?_)))))
 refine .calln _ _ _ rfl rfl rfl rfl rfl rfl (fun m hm => check_ok hm.lole (hlS0.mono (Mem.kr hm) (RTy.mono (Mem.kr hm))) hwl hn14) (fun e0 he0 => ?_)
 refine .P ?_
 refine .nil (.seq (.seq (.region (.P2 ?_))))
 refine .nil (.seq (.cond rfl (fun ht11 => ?_) fun ht11 => ?_))
 ·try simp only [nz] at ht11
  have hne : e0 ≠ 0 := by omega
  refine .seq (.region (.P3 ?_))
  refine .nil (.seq (.ret (.seq ?_)))
  exact .end_ rfl rfl (fun m hm => ⟨⟨e0, 0, 0, none, 0, ⟨.tig 0, [], .no, [], [], 0, [], ⟨[], [], []⟩⟩, []⟩, nl_bad he0 hne _ rfl, by unfold nlV; rw [if_neg hne]; rfl, hm.ext, by unfold nlH; rw [if_neg hne]; exact News.nil _ _⟩)
 try simp only [nz] at ht11
 have he00 : e0 = 0 := by omega
 subst he00
 have hFi := he0.fine
 refine .skip (.seq (.seq (.region (.P ?_))))
 refine .nil (.seq (.seq (.seq (.region (.P ?_)))))
 refine .G (ln22 ..) ?_
 refine .P ?_
 refine .nil (.seq (.block ?_))
 refine .loop (α := Nat × Gro × List Value × List Ty × Hp) (fun q => [(5, q.2.1.V q.2.2.2.1.length), (13, .slice al l.length cl), (14, .int .i64 (Int.ofNat (l.length))), (15, .int .i64 (Int.ofNat (q.1)))]) (fun q => q.2.1.H 50 q.2.2.1 ++ q.2.2.2.2) (fun q => q.1 ≤ l.length ∧ q.2.2.2.1 = l.take q.1 ∧ Flat 5 (RTy (InH q.2.2.2.2)) q.2.2.2.1 q.2.2.1 ∧ q.2.1.Ok q.2.2.2.1.length) (fun q => l.length - q.1) (0, .no, [], [], []) ⟨Nat.zero_le _, rfl, Flat.nil, rfl⟩ ⟨rfl, rfl, rfl, rfl, trivial⟩ (List.nil_sublist _) (fun q hq0 => ?_)
 obtain ⟨i, g_, cs_, out, F⟩ := q
 obtain ⟨hi, hout, hF, hO⟩ := hq0
 simp only at hi hout hF hO
 have hlo : out.length = i := by rw [hout, List.length_take]; omega
 refine .seq (.region (.P ?_))
 refine .nil (.seq (.seq (.cond rfl (fun ht16 => ?_) fun ht16 => ?_)))
 ·try simp only [nz] at ht16
  have hlt : i < l.length := by omega
  obtain ⟨a, ha⟩ := gx hlt
  obtain ⟨b, off, cs, el, g, md, mate, hal, ⟨hb, hh⟩, hle, hc⟩ := sl_open hlS0 (by omega)
  subst hal
  have hrX := hc i a ha
  obtain ⟨veX, vfX, vaX, hrX, heX, hfX, hgX⟩ := hrX
  obtain ⟨aeX, ceX, rfl, hneX, heX⟩ := heX
  have hfSX := hfX
  obtain ⟨afX, cfX, rfl, hnfX, hfX⟩ := hfX
  obtain ⟨aaX, caX, rfl, hnaX, hgX⟩ := hgX
  have hraS : RTy (Mem m) a [.int .i64 a.kind, .slice aeX a.elems.length ceX, .string a.name, .slice afX a.fields.length cfX, .slice aaX a.arms.length caX] := ⟨_, _, _, rfl, ⟨aeX, ceX, rfl, hneX, heX⟩, hfSX, ⟨aaX, caX, rfl, hnaX, hgX⟩⟩
  refine .skip (.seq (.seq (.block (.seq (.region ?_)))))
  refine .indexAddr rfl rfl rfl rfl underlying22 sz50 rfl rfl (hlt) ?_
  refine .A ag50 sz50 (.base hh hb (by simp)) hrX ?_
  refine .alloc rfl rfl rfl rfl zr50 (fun b7 hb7 => ?_)
  refine .S sz50 ?_
  refine .nil (.seq (.region (.P ?_)))
  refine .E ag50 sz50 ?_
  refine .calln _ _ _ rfl rfl rfl rfl rfl rfl (fun m hm => mvd_ok (t := a) (n := 0) (N := l.length) hm.lole (RTy.mono (Mem.kr hm) _ _ hraS) (hwl i a ha) (hFi.well.sound i a ha) (by omega) (by decide)) (fun z hz => ?_)
  obtain ⟨zh, zc⟩ := z
  obtain ⟨ve_, vf_, va_, hzc, hz1, hz2, hz3⟩ := hz
  simp only at hzc
  subst hzc
  refine .buildSlice rfl rfl rfl rfl rfl (bs22_1 ..) (fun b22 hb22 => ?_)
  refine .appendSl (R := RTy (InH (zh ++ F))) (l0 := out) (l := [mvT 0 a]) (L := (out ++ [mvT 0 a])) (g := g_) (cs := cs_) rfl (.tail (.over (.tail .here))) (flat_mono hF (RTy.mono inB)) hO (Sl.single (R := RTy (InH (zh ++ F))) (x := mvT 0 a) (b := b22) (c := 1) (el := 50) (g := false) (md := .plain) (mate := none) (RTy.mono inA _ _ ⟨ve_, vf_, va_, rfl, hz1, hz2, hz3⟩) rfl) ((InH.sees (by intro p_ hp_; rw [List.mem_singleton.1 hp_]; exact List.mem_cons_self))) RTy.flats (by simp; omega) rfl rfl rfl rfl underlying22 underlying22 ap50 rfl rfl (fun g1 cs1 hF1 hO1 => ?_)
  refine .P ?_
  refine .nil (.blk (.seq (.region (.P ?_))))
  refine .W 24 i ?_
  refine .P ?_
  refine .nil ?_
  exact .loop (i + 1, g1, cs1, out ++ [mvT 0 a], zh ++ F) ⟨by omega, by rw [hout, mvT_zero]; exact (take_succ' ha).symm, hF1, hO1⟩ (by show l.length - (i + 1) < l.length - i; omega) ⟨rfl, rfl, rfl, rfl, trivial⟩ (List.Sublist.append_left (.cons _ (List.Sublist.append_left (.cons _ (.refl _)) _)) _)
 try simp only [nz] at ht16
 have hie : i = l.length := by omega
 subst hie
 rw [List.take_length] at hout
 subst hout
 obtain ⟨ao, co, hVo⟩ := Gro.len hO
 have hSo := Gro.sl (el := 50) hF hO (by omega)
 rw [hVo] at hSo
 refine .exit (.seq (.loop (.here (.seq (.seq (.region (.P ?_)))))))
 refine .as 25 (.slice ao out.length co) rfl hVo ?_
 refine .p (v := .agg ⟨[.slice none 0 0]⟩) rfl rfl rfl (by kernel_rfl) ?_
 refine .buildSlice rfl rfl rfl rfl rfl (bs52_1 ..) (fun b27 hb27 => ?_)
 refine .makeMap rfl rfl rfl rfl (fun b28 hb28 => ?_)
 refine .p (v := .agg ⟨[.slice ao out.length co, .slice (some ⟨b27, 0, none⟩) 1 1, .slice none 0 0, .map (some b28)]⟩) rfl rfl rfl (by kernel_rfl) ?_
 refine .box rfl rfl rfl rfl rfl (fun b30 hb30 => ?_)
 refine .P2 ?_
 refine .nil (.seq (.ret ?_))
 exact .end_ rfl rfl (fun m hm => ⟨⟨0, b30, b28, ao, co, ⟨.tig b27, [.slice none 0 0], .no, [], [], 0, [], ⟨[], [[]], []⟩⟩, g_.H 50 cs_ ++ F⟩, ⟨he0, fun _ => hSo.mono inA (RTy.mono inB), fun _ => LyM.start _ _, fun _ => rfl⟩, by unfold nlV; rw [if_pos rfl]; rfl, hm.ext, by unfold nlH; rw [if_pos rfl]; exact (hm.perm nl_perm).news (.refl _)⟩)
theorem clone_slot {α : Type} {R : α → List Value → Prop} {L : List α} {vl : Value} {m : AW} (hm : m.lo ≤ m.next) (hlS : Sl (Mem m) 2 R L vl) (hL : L.length ≤ 100000) (hR : ∀ x cs, R x cs → flats cs = true) : Fc prog 73 [vl] m fun v m' => ∃ z : Hp × Value, Sl (InH z.1) 2 R L z.2 ∧ v = z.2 ∧ Ext m m' ∧ News m m' z.1 := by
 have hlS0 := hlS
 obtain ⟨al, cl, rfl, hnl, hl⟩ := hlS
 refine Fc.body (c := _) func73 rfl rfl rfl rfl hm ?_
 refine .seq (.region (.P ?_))
 refine .nil (.seq (.seq (.seq (.region (.P ?_)))))
 rcases al with _ | ad
 ·refine .p (v := .bool true) rfl rfl rfl (by kernel_rfl) ?_
  have hL0 : L = [] := hl.elim (fun h => h.1) (fun ⟨_, _, _, _, _, _, _, h, _⟩ => by cases h)
  subst hL0
  refine .nil (.seq (.cond_true rfl (.seq (.region (.P ?_)))))
  refine .nil (.seq (.ret (.seq ?_)))
  exact .end_ rfl rfl (fun m hm => ⟨([], .slice none 0 0), ⟨none, 0, rfl, ⟨Nat.zero_le _, Nat.le_refl _⟩, .inl ⟨rfl, .inl rfl⟩⟩, rfl, hm.ext, News.nil _ _⟩)
 refine .p (v := .bool false) rfl rfl rfl (by kernel_rfl) ?_
 refine .nil (.seq (.cond_false rfl (.skip (.seq (.seq (.region ?_))))))
 refine .buildSlice rfl rfl rfl rfl rfl (bs56_0) (fun b5 hb5 => ?_)
 refine .P ?_
 refine .appendSl (R := R) (l0 := []) (l := L) (L := L) (g := .emp b5) (cs := []) rfl .one Flat.nil rfl (hlS0) ((fun b_ o_ h_ => Mem.sees rfl rfl _ _ h_)) hR (by simp only [List.length_nil]; omega) rfl rfl rfl rfl underlying56 underlying56 ap129 rfl rfl (fun g1 cs1 hF1 hO1 => ?_)
 refine .P ?_
 refine .nil (.seq (.ret ?_))
 exact .end_ rfl rfl (fun m hm => ⟨(g1.H 129 cs1, g1.V L.length), Gro.sl hF1 hO1 (by omega), rfl, hm.ext, hm.news (List.sublist_append_left _ _)⟩)
theorem Descs_ok {l : List Ty} {al : Option Addr} {cl bx bm : Nat} {y0 : LySt} {m : AW} (hm : m.lo ≤ m.next) (hH : ∀ b o, (b, o) ∈ LyH bx bm (.slice al l.length cl) y0 → Mem m b o) (hM : LyM l y0) (hkf : y0.S.keys.length ≤ 112) (hml : y0.S.mods.length ≤ 112) (hsh : ∀ d, d ∈ y0.S.descs → d.length ≤ 100000) : Fc prog 31 [ptr bx] m fun v m' => ∃ z : Hp × Value, Sl (InH z.1) 1 (RDesc (InH z.1)) y0.S.descs z.2 ∧ v = z.2 ∧ Ext m m' ∧ News m m' z.1 := by
 have hlen := hM.ok.len
 obtain ⟨gda, gdc, hVd⟩ := Dro.len hM.okd
 have hSd := Dro.sl (el := 58) hM.descs hM.okd (by omega)
 rw [hVd] at hSd
 refine Fc.body (c := _) func31 rfl rfl rfl rfl hm ?_
 refine .seq (.region (.P ?_))
 refine .nil (.seq (.seq (.seq (.region (.P ?_)))))
 refine .p (v := .bool false) rfl rfl rfl (by kernel_rfl) ?_
 refine .nil (.seq (.cond_false rfl (.skip (.seq (.seq (.region (.P ?_)))))))
 refine .nil (.seq (.seq (.seq (.region (.P2 ?_)))))
 refine .F fa120_1 ?_
 refine .M ag52 (Mem.sees rfl rfl _ _ (hH _ _ (.head _))) rfl ?_
 refine .as 11 (.slice gda y0.S.descs.length gdc) rfl hVd ?_
 refine .G (ln52 ..) ?_
 refine .P ?_
 refine .nil (.seq (.block ?_))
 refine .loop (α := Nat × Gro × List Value × List (List SlV) × Hp) (fun q => [(3, q.2.1.V q.2.2.2.1.length), (11, .slice gda y0.S.descs.length gdc), (12, .int .i64 (Int.ofNat (y0.S.descs.length))), (13, .int .i64 (Int.ofNat (q.1)))]) (fun q => q.2.1.H 58 q.2.2.1 ++ q.2.2.2.2) (fun q => q.1 ≤ y0.S.descs.length ∧ q.2.2.2.1 = y0.S.descs.take q.1 ∧ Flat 1 (RDesc (InH q.2.2.2.2)) q.2.2.2.1 q.2.2.1 ∧ q.2.1.Ok q.2.2.2.1.length) (fun q => y0.S.descs.length - q.1) (0, .no, [], [], []) ⟨Nat.zero_le _, rfl, Flat.nil, rfl⟩ ⟨rfl, rfl, rfl, rfl, trivial⟩ (List.nil_sublist _) (fun q hq0 => ?_)
 obtain ⟨i, g_, cs_, out, F⟩ := q
 obtain ⟨hi, hout, hF, hO⟩ := hq0
 simp only at hi hout hF hO
 have hlo : out.length = i := by rw [hout, List.length_take]; omega
 refine .seq (.region (.P ?_))
 refine .nil (.seq (.seq (.cond rfl (fun ht14 => ?_) fun ht14 => ?_)))
 ·try simp only [nz] at ht14
  obtain ⟨d_, hd_⟩ : ∃ w_, y0.S.descs[i]? = some w_ := ⟨_, List.getElem?_eq_getElem (by omega)⟩
  obtain ⟨bG, offG, csG, elG, gG, mdG, mateG, hgal, hbG, hleG, hcG⟩ := sl_open hSd (by omega)
  subst hgal
  obtain ⟨v_, hrG, hsd⟩ := hcG i d_ hd_
  have hsd0 := hsd
  obtain ⟨av, cv, hvv, hnv, -⟩ := hsd
  subst hvv
  have hsd := hsd0
  refine .skip (.seq (.seq (.block (.seq (.region (.K underlying52 sz58 ?_))))))
  refine .A ag58 sz58 (Mem.sees rfl rfl _ _ (hH _ _ (List.mem_cons_of_mem _ (List.mem_append_left _ hbG)))) hrG ?_
  refine .alloc rfl rfl rfl rfl zr58 (fun b5 hb5 => ?_)
  refine .S sz58 ?_
  refine .nil (.seq (.region (.P ?_)))
  refine .F fa58_0 ?_
  refine .L ag56 ?_
  refine .calln _ _ _ rfl rfl rfl rfl rfl rfl (fun m hm => clone_slot (R := RSlot) (L := d_) hm.lole (hsd.mono (fun b_ o_ h_ => Mem.kr hm b_ o_ (hH _ _ (List.mem_cons_of_mem _ (List.mem_append_right _ (List.mem_append_right _ (List.mem_cons_of_mem _ h_)))))) fun _ _ h => h) (hsh d_ (List.mem_of_getElem? hd_)) RSlot.flats) (fun z hz => ?_)
  obtain ⟨zh, zv⟩ := z
  have hz0 := hz
  obtain ⟨az, cz, hzv, hnz, -⟩ := hz
  simp only at hzv
  subst hzv
  refine .p (v := .agg ⟨[.slice az d_.length cz]⟩) rfl rfl rfl (by kernel_rfl) ?_
  refine .buildSlice rfl rfl rfl rfl rfl (bs52_1 ..) (fun b22 hb22 => ?_)
  refine .appendSl (R := RDesc (InH (zh ++ F))) (l0 := out) (l := [d_]) (L := (out ++ [d_])) (g := g_) (cs := cs_) rfl (.tail (.over (.tail .here))) (flat_mono hF (RDesc.mono inB)) hO (Sl.single (R := RDesc (InH (zh ++ F))) (x := d_) (b := b22) (c := 1) (el := 58) (g := false) (md := .plain) (mate := none) ⟨_, rfl, hz0.mono inA fun _ _ h => h⟩ rfl) ((InH.sees (by intro p_ hp_; rw [List.mem_singleton.1 hp_]; exact List.mem_cons_self))) RDesc.flats (by simp; omega) rfl rfl rfl rfl underlying52 underlying52 ap58 rfl rfl (fun g1 cs1 hF1 hO1 => ?_)
  refine .P ?_
  refine .nil (.blk (.seq (.region (.P ?_))))
  refine .W 24 i ?_
  refine .P ?_
  refine .nil ?_
  exact .loop (i + 1, g1, cs1, out ++ [d_], zh ++ F) ⟨by omega, by rw [hout]; exact (take_succ' hd_).symm, hF1, hO1⟩ (by show y0.S.descs.length - (i + 1) < y0.S.descs.length - i; omega) ⟨rfl, rfl, rfl, rfl, trivial⟩ (List.Sublist.append_left (.cons _ (List.Sublist.append_left (.cons _ (.refl _)) _)) _)
 try simp only [nz] at ht14
 refine .exit (.seq (.loop (.here (.seq (.seq (.region (.P2 ?_)))))))
 refine .nil (.seq (.ret ?_))
 exact .end_ rfl rfl (fun m hm => ⟨(g_.H 58 cs_ ++ F, g_.V out.length), by have hie : y0.S.descs.take i = y0.S.descs := List.take_of_length_le (by omega); rw [hie] at hout; rw [← hout]; exact (Gro.sl hF hO (by omega)).mono inA (RDesc.mono inB), rfl, hm.ext, hm.news (.refl _)⟩)

/-! What a layout holds. -/
theorem RunL.zero {l : List Ty} {ps : List Int} {S : Lay} {o : List SlV} {n : Nat} {S' : Lay} (h : RunL l (.slos ps) S (o, n, S')) : n = 0 := by
 cases ps with
 | nil => have := h.uniq RunL.nil; cases this; rfl
 | cons p ps => obtain ⟨_, _, _, _, _, _, _, _, e⟩ := h.uncons; cases e; rfl
structure Pre (S S' : Lay) : Prop where
 keys : ∃ K, S'.keys = S.keys ++ K
 mods : ∃ M, S'.mods = S.mods ++ M
theorem LayX.pre {S S' : Lay} (h : LayX S S') : Pre S S' := ⟨h.keys, h.mods⟩
theorem Pre.trans {S S1 S2 : Lay} (h : Pre S S1) (k : Pre S1 S2) : Pre S S2 := by
 obtain ⟨K, e⟩ := h.keys
 obtain ⟨K', e'⟩ := k.keys
 obtain ⟨M, f⟩ := h.mods
 obtain ⟨M', f'⟩ := k.mods
 exact ⟨⟨K ++ K', by rw [e', e, List.append_assoc]⟩, ⟨M ++ M', by rw [f', f, List.append_assoc]⟩⟩
def LayL (S : Lay) : Prop := S.descs.length = S.keys.length + 1
theorem LayL.push {S : Lay} (h : LayL S) (g : Giv) : LayL (S.push g) := by
 show (S.descs ++ [[]]).length = (S.keys ++ [g]).length + 1
 unfold LayL at h
 simp only [List.length_append, List.length_singleton]
 omega
theorem LayL.put {S : Lay} (h : LayL S) (n : Nat) (d : List SlV) : LayL (S.put n d) := by
 show (S.descs.set n d).length = _
 rw [List.length_set]
 exact h
theorem layF_again {l : List Ty} : ∀ (f : Nat) (k : LTask) (S : Lay) (x : LOut), LayL S → layF l f k S = some x → LayL x.2.2 ∧ ∀ Sf, Pre x.2.2 Sf → RunL l k Sf (x.1, x.2.1, Sf)
 | 0, _, _, _, _, h => by cases h
 | f + 1, .num g, S, x, hl, h => by
  unfold layF at h
  cases hi : givIdx l S.keys g with
  | some i =>
   rw [hi] at h
   cases h
   refine ⟨hl, fun Sf hp => ?_⟩
   obtain ⟨K, e⟩ := hp.keys
   exact RunL.old (by rw [e]; exact givIdx_app hi)
  | none =>
   rw [hi] at h
   simp only at h
   cases hr : layF l f (.slos (givTys l g)) (S.push g) with
   | none => rw [hr] at h; cases h
   | some y =>
    rw [hr] at h
    cases h
    obtain ⟨h1, _⟩ := layF_again f _ _ y (hl.push g) hr
    refine ⟨h1.put _ _, fun Sf hp => ?_⟩
    obtain ⟨K, e⟩ := hp.keys
    obtain ⟨K', e'⟩ := (layF_ext f _ _ y hr).keys
    have e : Sf.keys = y.2.2.keys ++ K := e
    have e' : y.2.2.keys = (S.keys ++ [g]) ++ K' := e'
    have := RunL.old (l := l) (S := Sf) (g := g) (i := S.keys.length) (by rw [e, e']; exact givIdx_app (givIdx_app (givIdx_new hi)))
    rw [show S.descs.length = S.keys.length + 1 from hl]
    exact this
 | f + 1, .slo t, S, x, hl, h => by
  unfold layF at h
  cases ht : l[t]? with
  | none => rw [ht] at h; cases h
  | some a =>
   rw [ht] at h
   simp only at h
   split at h
   ·cases h; exact ⟨hl, fun Sf _ => RunL.str ht (by assumption)⟩
   split at h
   ·split at h
    ·obtain ⟨o, n, S', e, rfl⟩ := asSlot_some h
     obtain ⟨h1, h2⟩ := layF_again f _ _ _ hl e
     exact ⟨h1, fun Sf hp => RunL.elem ht (by assumption) (by assumption) (h2 Sf hp)⟩
    cases h
   split at h
   ·split at h
    ·obtain ⟨o, n, S', e, rfl⟩ := asSlot_some h
     obtain ⟨h1, h2⟩ := layF_again f _ _ _ hl e
     exact ⟨h1, fun Sf hp => RunL.ref ht (by assumption) (by assumption) (h2 Sf hp)⟩
    cases h
   split at h
   ·split at h
    ·rename_i i hi
     cases h
     refine ⟨hl, fun Sf hp => ?_⟩
     obtain ⟨M, e⟩ := hp.mods
     exact RunL.modO ht (by assumption) (by rw [e]; exact modIdx_app hi)
    rename_i hi
    cases h
    refine ⟨hl, fun Sf hp => ?_⟩
    obtain ⟨M, e⟩ := hp.mods
    have e : Sf.mods = (S.mods ++ [t]) ++ M := e
    exact RunL.modO ht (by assumption) (by rw [e]; exact modIdx_app (modIdx_new hi))
   split at h
   ·obtain ⟨h1, h2⟩ := layF_again f _ _ x hl h
    exact ⟨h1, fun Sf hp => RunL.tup ht (by assumption) (h2 Sf hp)⟩
   split at h
   ·obtain ⟨h1, h2⟩ := layF_again f _ _ x hl h
    exact ⟨h1, fun Sf hp => RunL.adt ht (by assumption) (h2 Sf hp)⟩
   cases h
   exact ⟨hl, fun Sf _ => RunL.plain ht (by omega)⟩
 | f + 1, .slos [], S, x, hl, h => by cases h; exact ⟨hl, fun Sf _ => RunL.nil⟩
 | f + 1, .slos (p :: ps), S, x, hl, h => by
  unfold layF at h
  cases h1 : layF l f (.slo p.toNat) S with
  | none => rw [h1] at h; cases h
  | some y =>
   rw [h1] at h
   simp only at h
   cases h2 : layF l f (.slos ps) y.2.2 with
   | none => rw [h2] at h; cases h
   | some z =>
    rw [h2] at h
    cases h
    obtain ⟨e1, e2⟩ := layF_again f _ _ y hl h1
    obtain ⟨e3, e4⟩ := layF_again f _ _ z e1 h2
    exact ⟨e3, fun Sf hp => RunL.cons (e2 Sf ((layF_ext f _ _ z h2).pre.trans hp)) (e4 Sf hp)⟩
theorem RunL.again {l : List Ty} {k : LTask} {S : Lay} {x : LOut} (h : RunL l k S x) (hl : LayL S) {Sf : Lay} (hp : Pre x.2.2 Sf) : RunL l k Sf (x.1, x.2.1, Sf) := by
 obtain ⟨f, h⟩ := h
 exact (layF_again f k S x hl h).2 Sf hp
theorem RunL.layL {l : List Ty} {k : LTask} {S : Lay} {x : LOut} (h : RunL l k S x) (hl : LayL S) : LayL x.2.2 := by
 obtain ⟨f, h⟩ := h
 exact (layF_again f k S x hl h).1
def Good (l : List Ty) (S : Lay) (i : Nat) : Prop := ∀ k, S.keys[i]? = some k → ∃ o, RunL l (.slos (givTys l k)) S (o, 0, S) ∧ S.descs[i + 1]? = some (givTag l k ++ o)
theorem Good.ext {l : List Ty} {S S' : Lay} {i : Nat} (h : Good l S i) (hl : LayL S) (hx : LayX S S') (hi : i < S.keys.length) : Good l S' i := fun k hk => by
 obtain ⟨K, e⟩ := hx.keys
 rw [e, List.getElem?_append_left hi] at hk
 obtain ⟨o, h1, h2⟩ := h k hk
 exact ⟨o, h1.again hl hx.pre, by rw [hx.same _ (by unfold LayL at hl; omega)]; exact h2⟩
theorem Pre.put (S : Lay) (n : Nat) (d : List SlV) : Pre S (S.put n d) := ⟨⟨[], (List.append_nil _).symm⟩, ⟨[], (List.append_nil _).symm⟩⟩
theorem layF_good {l : List Ty} : ∀ (f : Nat) (k : LTask) (S : Lay) (x : LOut), LayL S → layF l f k S = some x → ∀ i, S.keys.length ≤ i → i < x.2.2.keys.length → Good l x.2.2 i
 | 0, _, _, _, _, h => by cases h
 | f + 1, .num g, S, x, hl, h => by
  unfold layF at h
  cases hi : givIdx l S.keys g with
  | some i => rw [hi] at h; cases h; exact fun i h1 h2 => absurd h2 (by simp only; omega)
  | none =>
   rw [hi] at h
   simp only at h
   cases hr : layF l f (.slos (givTys l g)) (S.push g) with
   | none => rw [hr] at h; cases h
   | some y =>
    rw [hr] at h
    cases h
    have hy := (layF_again f _ _ y (hl.push g) hr).1
    have hx := layF_ext f _ _ y hr
    have ih := layF_good f _ _ y (hl.push g) hr
    have hpl : (S.push g).keys.length = S.keys.length + 1 := by show (S.keys ++ [g]).length = _; simp
    intro i h1 h2 k hk
    have hk : y.2.2.keys[i]? = some k := hk
    have h2 : i < y.2.2.keys.length := h2
    unfold LayL at hl hy
    by_cases e : i = S.keys.length
    ·subst e
     obtain ⟨K, ek⟩ := hx.keys
     rw [ek, List.getElem?_append_left (by omega)] at hk
     have hk : (S.keys ++ [g])[S.keys.length]? = some k := hk
     rw [List.getElem?_append_right (Nat.le_refl _), Nat.sub_self] at hk
     cases hk
     have hr2 : RunL l (.slos (givTys l g)) (S.push g) y := ⟨f, hr⟩
     have h3 := hr2.again (LayL.push hl g) (Pre.put y.2.2 S.descs.length (givTag l g ++ y.1))
     have hz : y.2.1 = 0 := hr2.zero
     rw [hz] at h3
     refine ⟨y.1, h3, ?_⟩
     show (y.2.2.descs.set S.descs.length _)[_]? = _
     rw [← hl, List.getElem?_set, if_pos rfl, if_pos (by omega)]
    obtain ⟨o, h3, h4⟩ := ih i (by omega) h2 k hk
    refine ⟨o, h3.again hy (Pre.put _ _ _), ?_⟩
    show (y.2.2.descs.set S.descs.length _)[_]? = _
    rw [List.getElem?_set, if_neg (by omega)]
    exact h4
 | f + 1, .slo t, S, x, hl, h => by
  unfold layF at h
  cases ht : l[t]? with
  | none => rw [ht] at h; cases h
  | some a =>
   rw [ht] at h
   simp only at h
   have none_ : ∀ i, S.keys.length ≤ i → i < S.keys.length → Good l S i := fun i h1 h2 => absurd h2 (by omega)
   split at h
   ·cases h; exact none_
   split at h
   ·split at h
    ·obtain ⟨o, n, S', e, rfl⟩ := asSlot_some h
     have h_ := layF_good f _ _ _ hl e
     exact h_
    cases h
   split at h
   ·split at h
    ·obtain ⟨o, n, S', e, rfl⟩ := asSlot_some h
     have h_ := layF_good f _ _ _ hl e
     exact h_
    cases h
   split at h
   ·split at h
    ·cases h; exact none_
    cases h; exact fun i h1 h2 => absurd h2 (by simp only; omega)
   split at h
   ·exact layF_good f _ _ x hl h
   split at h
   ·exact layF_good f _ _ x hl h
   cases h; exact none_
 | f + 1, .slos [], S, x, hl, h => by cases h; exact fun i h1 h2 => absurd h2 (by simp only; omega)
 | f + 1, .slos (p :: ps), S, x, hl, h => by
  unfold layF at h
  cases h1 : layF l f (.slo p.toNat) S with
  | none => rw [h1] at h; cases h
  | some y =>
   rw [h1] at h
   simp only at h
   cases h2 : layF l f (.slos ps) y.2.2 with
   | none => rw [h2] at h; cases h
   | some z =>
    rw [h2] at h
    cases h
    have e1 := (layF_again f _ _ y hl h1).1
    intro i hi hi2
    by_cases e : i < y.2.2.keys.length
    ·exact (layF_good f _ _ y hl h1 i hi e).ext e1 (layF_ext f _ _ z h2) e
    exact layF_good f _ _ z e1 h2 i (by omega) hi2
structure GoodL (l : List Ty) (S : Lay) : Prop where
 len : LayL S
 all : ∀ i, i < S.keys.length → Good l S i
theorem GoodL.start (l : List Ty) : GoodL l ⟨[], [[]], []⟩ := ⟨rfl, fun i hi => absurd hi (Nat.not_lt_zero _)⟩
theorem GoodL.run {l : List Ty} {k : LTask} {S : Lay} {x : LOut} (h : GoodL l S) (hr : RunL l k S x) : GoodL l x.2.2 := ⟨hr.layL h.len, fun i hi => by
 by_cases e : i < S.keys.length
 ·exact (h.all i e).ext h.len hr.ext e
 obtain ⟨f, hf⟩ := hr
 exact layF_good f k S x h.len hf i (by omega) hi⟩
/-- The number of what is given. -/
def HasN (l : List Ty) (S : Lay) (g : Giv) (n : Nat) : Prop := ∃ i, n = i + 1 ∧ givIdx l S.keys g = some i
theorem HasN.pre {l : List Ty} {S S' : Lay} {g : Giv} {n : Nat} (h : HasN l S g n) (hp : Pre S S') : HasN l S' g n := by
 obtain ⟨i, h1, h2⟩ := h
 obtain ⟨K, e⟩ := hp.keys
 exact ⟨i, h1, by rw [e]; exact givIdx_app h2⟩
theorem RunL.has {l : List Ty} {g : Giv} {S S' : Lay} {o : List SlV} {n : Nat} (h : RunL l (.num g) S (o, n, S')) (hl : LayL S) : HasN l S' g n := by
 have h2 := h.again hl (Sf := S') ⟨⟨[], (List.append_nil _).symm⟩, ⟨[], (List.append_nil _).symm⟩⟩
 obtain ⟨f, h3⟩ := h2
 cases f with
 | zero => cases h3
 | succ f =>
  unfold layF at h3
  cases hi : givIdx l S'.keys g with
  | some i => rw [hi] at h3; cases h3; exact ⟨i, rfl, hi⟩
  | none =>
   rw [hi] at h3
   simp only at h3
   cases hr : layF l f (.slos (givTys l g)) (S'.push g) with
   | none => rw [hr] at h3; cases h3
   | some y =>
    rw [hr] at h3
    have h4 := Option.some.inj h3
    have h5 : (y.2.2.put S'.descs.length (givTag l g ++ y.1)).keys = S'.keys := by rw [show y.2.2.put S'.descs.length (givTag l g ++ y.1) = S' from congrArg (·.2.2) h4]
    have h5 : y.2.2.keys = S'.keys := h5
    obtain ⟨K, e⟩ := (layF_ext f _ _ y hr).keys
    have e : y.2.2.keys = (S'.keys ++ [g]) ++ K := e
    have := congrArg List.length (h5.symm.trans e)
    simp only [List.length_append, List.length_singleton] at this
    omega

/-! Equal types have the same slots. -/
theorem LayX.anti {S S1 : Lay} (h : LayX S S1) (k : LayX S1 S) : S1 = S := by
 obtain ⟨K, e⟩ := h.keys
 obtain ⟨K', e'⟩ := k.keys
 obtain ⟨M, f⟩ := h.mods
 obtain ⟨M', f'⟩ := k.mods
 have hK : K = [] := by
  have := congrArg List.length e
  have h2 := congrArg List.length e'
  simp only [List.length_append] at this h2
  exact List.eq_nil_of_length_eq_zero (by omega)
 have hM : M = [] := by
  have := congrArg List.length f
  have h2 := congrArg List.length f'
  simp only [List.length_append] at this h2
  exact List.eq_nil_of_length_eq_zero (by omega)
 have hd : S1.descs = S.descs := by
  refine List.ext_getElem? fun i => ?_
  by_cases hi : i < S.descs.length
  ·exact h.same i hi
  have := k.len
  rw [List.getElem?_eq_none (by omega), List.getElem?_eq_none (by omega)]
 obtain ⟨a, b, c⟩ := S
 obtain ⟨a', b', c'⟩ := S1
 simp only at e f hd
 rw [hK, List.append_nil] at e
 rw [hM, List.append_nil] at f
 rw [e, f, hd]
theorem RunL.still {l : List Ty} {p : Int} {ps : List Int} {S : Lay} {o : List SlV} {n : Nat} (h : RunL l (.slos (p :: ps)) S (o, n, S)) : ∃ oa na ob, RunL l (.slo p.toNat) S (oa, na, S) ∧ RunL l (.slos ps) S (ob, 0, S) ∧ o = oa ++ ob := by
 obtain ⟨oa, na, S1, ob, nb, S2, h1, h2, e⟩ := h.uncons
 cases e
 have e1 := h1.ext.anti h2.ext
 have e1 : S1 = S := e1
 subst e1
 have := h2.zero
 subst this
 exact ⟨oa, na, ob, h1, h2, rfl⟩
theorem RunL.split {l : List Ty} {qs : List Int} {S : Lay} : ∀ {ps : List Int} {o : List SlV} {n : Nat}, RunL l (.slos (ps ++ qs)) S (o, n, S) → ∃ oa ob, RunL l (.slos ps) S (oa, 0, S) ∧ RunL l (.slos qs) S (ob, 0, S) ∧ o = oa ++ ob
 | [], o, n, h => by
  have := h.zero
  subst this
  exact ⟨[], o, RunL.nil, h, rfl⟩
 | p :: ps, o, n, h => by
  obtain ⟨oa, na, ob, h1, h2, rfl⟩ := RunL.still (ps := ps ++ qs) h
  obtain ⟨oc, od, h3, h4, rfl⟩ := RunL.split h2
  exact ⟨oa ++ oc, od, RunL.cons h1 h3, h4, by rw [List.append_assoc]⟩
theorem GivEq.iff {l : List Ty} (hW : Well l) {p q : Nat} {s : ByteArray} {b : Bool} (h : EqT l p q) (k : Giv) : GivEq l ⟨p, s, b⟩ k ↔ GivEq l ⟨q, s, b⟩ k := ⟨fun ⟨a, c, d⟩ => ⟨a, c, d.trans hW h⟩, fun ⟨a, c, d⟩ => ⟨a, c, d.trans hW (h.symm hW)⟩⟩
theorem num_still {l : List Ty} {g : Giv} {S : Lay} {o : List SlV} {n f : Nat} (h : layF l f (.num g) S = some (o, n, S)) (hl : LayL S) : ∃ i, n = i + 1 ∧ givIdx l S.keys g = some i := RunL.has ⟨f, h⟩ hl
theorem FldsR.els {R : Nat → Nat → Prop} {L L2 : List Fld} (h : FldsR R L L2) : ElsR R (ftypes L) (ftypes L2) := ⟨by unfold ftypes; rw [List.length_map, List.length_map]; exact h.1, fun i p q hp hq => by
 unfold ftypes at hp hq
 rw [List.getElem?_map] at hp hq
 cases hf : L[i]? with
 | none => rw [hf] at hp; cases hp
 | some f =>
  cases hg : L2[i]? with
  | none => rw [hg] at hq; cases hq
  | some g =>
   rw [hf] at hp
   rw [hg] at hq
   cases hp
   cases hq
   exact (h.2 i f g hf hg).2⟩
theorem eq_slots {l : List Ty} (hF : Fine l) {S : Lay} (hl : LayL S) : ∀ f, (∀ p q o n, layF l f (.slo p) S = some (o, n, S) → ValT l p → EqT l p q → RunL l (.slo q) S (o, n, S)) ∧ (∀ ps qs o n, layF l f (.slos ps) S = some (o, n, S) → (∀ x, x ∈ ps → ∃ q : Nat, x = Int.ofNat q ∧ ValT l q) → ElsR (EqT l) ps qs → RunL l (.slos qs) S (o, n, S))
 | 0 => ⟨fun _ _ _ _ h => (by cases h), fun _ _ _ _ h => (by cases h)⟩
 | f + 1 => by
  have hW := hF.well
  obtain ⟨h1, h2⟩ := eq_slots hF hl f
  refine ⟨fun p q o n h hv he => ?_, fun ps qs o n h hv he => ?_⟩
  ·obtain ⟨a, ha, hv⟩ := hv
   obtain ⟨a', b, ha', hb, hr⟩ := he.step hW.sound (List.getElem?_eq_some_iff.1 ha).1
   rw [ha] at ha'
   cases ha'
   have hk := hr.head.1
   unfold layF at h
   rw [ha] at h
   simp only at h
   split at h
   ·cases h; exact RunL.str hb (by omega)
   split at h
   ·rename_i h6
    split at h
    ·rename_i p0 ps0 hel
     obtain ⟨q0, hq0⟩ := at_same hr.els.1 (i := 0) (x := p0) (by rw [hel]; rfl)
     obtain ⟨u, w, rfl, rfl, huw⟩ := hr.els.2 0 p0 q0 (by rw [hel]; rfl) hq0
     obtain ⟨qs0, hbe⟩ : ∃ qs0, b.elems = Int.ofNat w :: qs0 := by
      cases hc : b.elems with
      | nil => rw [hc] at hq0; cases hq0
      | cons x xs => rw [hc] at hq0; cases hq0; exact ⟨xs, rfl⟩
     obtain ⟨o2, n2, S2, e, e2⟩ := asSlot_some h
     have e3 : S2 = S := (congrArg (·.2.2) e2).symm
     subst e3
     obtain ⟨i, rfl, hi⟩ := num_still e hl
     cases e2
     have := RunL.elem (l := l) (S := S2) (S' := S2) (o := []) (n := i + 1) hb (by omega) hbe (RunL.old (by rw [← hi]; exact (givIdx_congr (GivEq.iff hW huw) _).symm))
     rw [← hk] at this
     exact this
    cases h
   split at h
   ·rename_i h9
    split at h
    ·rename_i p0 ps0 hel
     obtain ⟨q0, hq0⟩ := at_same hr.els.1 (i := 0) (x := p0) (by rw [hel]; rfl)
     obtain ⟨u, w, rfl, rfl, huw⟩ := hr.els.2 0 p0 q0 (by rw [hel]; rfl) hq0
     obtain ⟨qs0, hbe⟩ : ∃ qs0, b.elems = Int.ofNat w :: qs0 := by
      cases hc : b.elems with
      | nil => rw [hc] at hq0; cases hq0
      | cons x xs => rw [hc] at hq0; cases hq0; exact ⟨xs, rfl⟩
     obtain ⟨o2, n2, S2, e, e2⟩ := asSlot_some h
     have e3 : S2 = S := (congrArg (·.2.2) e2).symm
     subst e3
     obtain ⟨i, rfl, hi⟩ := num_still e hl
     cases e2
     have hn := hr.head.2.2.2 h9
     exact RunL.ref (l := l) (S := S2) (S' := S2) (o := []) (n := i + 1) hb (by omega) hbe (RunL.old (by rw [← hn, ← hi]; exact (givIdx_congr (GivEq.iff hW huw) _).symm))
    cases h
   split at h
   ·rename_i h13
    have hm : modIdx l S.mods q = modIdx l S.mods p := modIdx_congr (fun k => ⟨fun x => x.trans hW (he.symm hW), fun x => x.trans hW he⟩) _
    split at h
    ·rename_i i hi
     cases h
     exact RunL.modO hb (by omega) (by rw [hm, hi])
    have := congrArg (fun x : LOut => x.2.2.mods.length) (Option.some.inj h)
    simp only [List.length_append, List.length_singleton] at this
    omega
   split at h
   ·exact RunL.tup hb (by omega) (h2 _ _ _ _ h (fun x hx => hF.part ha (by omega) (by omega) (by omega) (parts_elems hx)) hr.els)
   split at h
   ·rename_i h10
    refine RunL.adt hb (by omega) (h2 _ _ _ _ h (fun x hx => hF.part ha (by omega) (by omega) (by omega) (parts_fields hx)) ?_)
    have := hr.flds
    rw [if_neg (by omega)] at this
    exact this.els
   cases h; exact RunL.plain hb (by omega)
  cases ps with
  | nil =>
   have : qs = [] := List.eq_nil_of_length_eq_zero he.1.symm
   subst this
   cases h
   exact RunL.nil
  | cons p ps =>
   cases qs with
   | nil => exact absurd he.1 (by simp)
   | cons q qs =>
    obtain ⟨u, w, rfl, rfl, huw⟩ := he.2 0 p q rfl rfl
    unfold layF at h
    cases h3 : layF l f (.slo (Int.ofNat u).toNat) S with
    | none => rw [h3] at h; cases h
    | some y =>
     rw [h3] at h
     simp only at h
     cases h4 : layF l f (.slos ps) y.2.2 with
     | none => rw [h4] at h; cases h
     | some z =>
      rw [h4] at h
      have hz : z.2.2 = S := congrArg (·.2.2) (Option.some.inj h)
      have hy : y.2.2 = S := (layF_ext f _ _ y h3).anti (by have := layF_ext f _ _ z h4; rw [hz] at this; exact this)
      cases h
      rw [hy] at h4
      have r1 := h1 u w y.1 y.2.1 (by rw [show (u : Nat) = (Int.ofNat u).toNat from rfl, h3]; rw [← hy]) (by obtain ⟨q', e, hq'⟩ := hv _ (.head _); cases e; exact hq') huw
      have r2 := h2 ps qs z.1 z.2.1 (by rw [h4, ← hz]) (fun x hx => hv x (List.mem_cons_of_mem _ hx)) ⟨by simpa using he.1, fun i x y hx hy => he.2 (i + 1) x y hx hy⟩
      have := RunL.cons (p := Int.ofNat w) r1 r2
      rw [← hz] at this ⊢
      exact this

/-! The record of an arm begins with the record of the adt. -/
theorem FldsR.app {R : Nat → Nat → Prop} {A A' B B' : List Fld} (h : FldsR R A A') (k : FldsR R B B') : FldsR R (A ++ B) (A' ++ B') := ⟨by rw [List.length_append, List.length_append, h.1, k.1], fun i f g hf hg => by
 by_cases hi : i < A.length
 ·rw [List.getElem?_append_left hi] at hf
  rw [List.getElem?_append_left (by rw [← h.1]; exact hi)] at hg
  exact h.2 i f g hf hg
 rw [List.getElem?_append_right (by omega)] at hf
 rw [List.getElem?_append_right (by rw [← h.1]; omega), ← h.1] at hg
 exact k.2 _ f g hf hg⟩
theorem arms_find {R : Nat → Nat → Prop} {s : ByteArray} : ∀ {A B : List Arm}, ArmsR R A B → ∀ {u : Arm}, A.find? (fun a => decide (a.name = s)) = some u → ∃ w, B.find? (fun a => decide (a.name = s)) = some w ∧ FldsR R u.fields w.fields
 | [], _, _, u, h => by cases h
 | a :: A, B, hr, u, h => by
  cases B with
  | nil => exact absurd hr.1 (by simp)
  | cons b B =>
   obtain ⟨e1, e2⟩ := hr.2 0 a b rfl rfl
   rw [List.find?_cons] at h ⊢
   rw [e1] at h
   by_cases hn : b.name = s
   ·rw [decide_eq_true hn] at h ⊢
    cases h
    exact ⟨b, rfl, e2⟩
   rw [decide_eq_false hn] at h ⊢
   exact arms_find ⟨by simpa using hr.1, fun i f g hf hg => hr.2 (i + 1) f g hf hg⟩ h
theorem withL_rel {R : Nat → Nat → Prop} {x y : Ty} {s : ByteArray} {L : List Fld} (h : TyR R x y) (hk : x.kind ≠ 13) (hL : withL x s = some L) : ∃ L', withL y s = some L' ∧ FldsR R L L' := by
 have hf := h.flds
 rw [if_neg hk] at hf
 unfold withL at hL ⊢
 split at hL
 ·rename_i hs
  rw [if_pos hs]
  cases hL
  exact ⟨_, rfl, hf⟩
 rename_i hs
 rw [if_neg hs]
 cases hu : x.arms.find? fun a => decide (a.name = s) with
 | none => rw [hu] at hL; cases hL
 | some u =>
  rw [hu] at hL
  cases hL
  obtain ⟨w, hw, e⟩ := arms_find h.arms hu
  rw [hw]
  exact ⟨_, rfl, hf.app e⟩
def tagOf (x : Ty) : List SlV := if 0 < x.arms.length then [(0, 0)] else []
theorem desc_of {l : List Ty} {S : Lay} {p n : Nat} {s : ByteArray} {x : Ty} {L : List Fld} (hF : Fine l) (hok : LayOk l S) (hG : GoodL l S) (hn : HasN l S ⟨p, s, true⟩ n) (hx : l[p]? = some x) (hL : withL x s = some L) : ∃ o, RunL l (.slos (ftypes L)) S (o, 0, S) ∧ S.descs[n]? = some (tagOf x ++ o) := by
 obtain ⟨i, rfl, hi⟩ := hn
 obtain ⟨k, hk, e1, e2, e3⟩ := givIdx_some hi
 obtain ⟨kt, ks, kb⟩ := k
 simp only at e1 e2 e3
 subst e1
 subst e2
 obtain ⟨o, h1, h2⟩ := hG.all i (List.getElem?_eq_some_iff.1 hk).1 _ hk
 obtain ⟨b, hb, hv⟩ := hok.vals _ (List.mem_of_getElem? hk)
 simp only at hb
 rw [if_pos rfl] at hv
 obtain ⟨hk10, hws⟩ := hv
 obtain ⟨L0, hL0⟩ := Option.isSome_iff_exists.1 hws
 simp only at hL0
 have hr := e3.ty hF.well.sound hb hx
 obtain ⟨L', hL', hfl⟩ := withL_rel hr (by omega) hL0
 rw [hL] at hL'
 cases hL'
 rw [tys_rec hb hL0] at h1
 obtain ⟨f, h1⟩ := h1
 refine ⟨o, (eq_slots hF hG.len f).2 _ _ _ _ h1 (fun y hy => ?_) hfl.els, ?_⟩
 ·obtain ⟨z, hz, rfl⟩ := List.mem_map.1 hy
  exact hF.with_ hb hk10 hL0 hz
 rw [h2]
 unfold givTag tagOf
 rw [if_pos rfl]
 simp only [hb, hr.head.2.2.1]
theorem desc_arm {l : List Ty} {S : Lay} {p n n2 : Nat} {s : ByteArray} {x : Ty} {L : List Fld} (hF : Fine l) (hok : LayOk l S) (hG : GoodL l S) (hn : HasN l S ⟨p, ⟨#[]⟩, true⟩ n) (hn2 : HasN l S ⟨p, s, true⟩ n2) (hx : l[p]? = some x) (hL : withL x s = some L) : ∃ d d2, S.descs[n]? = some d ∧ S.descs[n2]? = some (d ++ d2) ∧ (0 < x.arms.length → 0 < d.length) := by
 obtain ⟨o, h1, h2⟩ := desc_of hF hok hG hn hx (L := x.fields) rfl
 obtain ⟨o2, h3, h4⟩ := desc_of hF hok hG hn2 hx hL
 obtain ⟨F, rfl⟩ : ∃ F, L = x.fields ++ F := by
  unfold withL at hL
  split at hL
  ·cases hL
   exact ⟨[], (List.append_nil _).symm⟩
  cases hu : x.arms.find? fun a => decide (a.name = s) with
  | none => rw [hu] at hL; cases hL
  | some u => rw [hu] at hL; cases hL; exact ⟨_, rfl⟩
 have e : ftypes (x.fields ++ F) = ftypes x.fields ++ ftypes F := List.map_append
 rw [e] at h3
 obtain ⟨oa, ob, h5, _, rfl⟩ := h3.split
 have := h1.uniq h5
 cases this
 refine ⟨_, ob, h2, by rw [h4, List.append_assoc], fun h => ?_⟩
 unfold tagOf
 rw [if_pos h]
 simp
theorem has_eq {l : List Ty} {S : Lay} {p q n n2 : Nat} (hF : Fine l) (h : HasN l S ⟨p, ⟨#[]⟩, false⟩ n) (h2 : HasN l S ⟨q, ⟨#[]⟩, false⟩ n2) : n = n2 ↔ EqT l p q := by
 have hW := hF.well
 obtain ⟨i, rfl, hi⟩ := h
 obtain ⟨j, rfl, hj⟩ := h2
 constructor
 ·intro e
  have e : i = j := by omega
  subst e
  obtain ⟨k, hk, _, _, e3⟩ := givIdx_some hi
  obtain ⟨k', hk', _, _, e3'⟩ := givIdx_some hj
  rw [hk] at hk'
  cases hk'
  exact (e3.symm hW).trans hW e3'
 intro e
 rw [givIdx_congr (GivEq.iff hW e) S.keys, hj] at hi
 cases hi
 rfl
theorem has_lt {l : List Ty} {S : Lay} {g : Giv} {n : Nat} (hl : LayL S) (h : HasN l S g n) : n < S.descs.length := by
 obtain ⟨i, rfl, hi⟩ := h
 obtain ⟨k, hk, _⟩ := givIdx_some hi
 have := (List.getElem?_eq_some_iff.1 hk).1
 unfold LayL at hl
 omega
theorem GoodL.short {l : List Ty} {S : Lay} (hF : Fine l) (hSm : Sml l) (hw : ∀ (i : Nat) (a : Ty), l[i]? = some a → FewT a) (hok : LayOk l S) (hG : GoodL l S) (h0 : ∀ d, S.descs[0]? = some d → d.length ≤ 100000) : ∀ d, d ∈ S.descs → d.length ≤ 100000 := fun d hd => by
 obtain ⟨j, hj⟩ := List.getElem?_of_mem hd
 cases j with
 | zero => exact h0 d hj
 | succ i =>
  have hi := (List.getElem?_eq_some_iff.1 hj).1
  have hl := hG.len
  unfold LayL at hl
  have hk := List.getElem?_eq_getElem (show i < S.keys.length by omega)
  obtain ⟨o, h1, h2⟩ := hG.all i (by omega) _ hk
  rw [hj] at h2
  cases h2
  obtain ⟨b, hb, hv⟩ := hok.vals _ (List.mem_of_getElem? hk)
  have hty : (∀ p, p ∈ givTys l S.keys[i] → ∃ q : Nat, p = Int.ofNat q ∧ ValT l q) ∧ (givTys l S.keys[i]).length ≤ 12 := by
   unfold givTys
   split
   ·rename_i hr
    rw [if_pos hr] at hv
    obtain ⟨hk10, hws⟩ := hv
    obtain ⟨L, hL⟩ := Option.isSome_iff_exists.1 hws
    simp only [hb, hL, Option.getD_some]
    refine ⟨fun p hp => ?_, by unfold ftypes; rw [List.length_map]; exact withL_len (hw _ _ hb) hL⟩
    obtain ⟨z, hz, rfl⟩ := List.mem_map.1 hp
    exact hF.with_ hb hk10 hL hz
   rename_i hr
   rw [if_neg hr] at hv
   exact ⟨fun p hp => by rw [List.mem_singleton.1 hp]; exact ⟨_, rfl, b, hb, hv.2⟩, by simp⟩
  have h3 := RunL.shorts hF hSm hty.1 h1
  have h4 : (givTag l S.keys[i]).length ≤ 1 := by
   unfold givTag
   split
   ·split
    ·split <;> simp
    simp
   simp
  simp only at h3
  rw [List.length_append]
  have := hty.2
  generalize (givTys l S.keys[i]).length = w at *
  omega
theorem idx_ex (a : Int) {n : Nat} (h0 : 0 < n) (hn : n ≤ 1000) : ∃ p : Nat, p < n ∧ wr .i64 ((wr .u64 a).tmod (Int.ofNat n)) = Int.ofNat p := by
 have hr := (wr_range .u64 a).1
 simp [IntKind.min, IntKind.signed] at hr
 obtain ⟨u, hu⟩ := Int.eq_ofNat_of_zero_le hr
 refine ⟨u % n, Nat.mod_lt _ h0, ?_⟩
 rw [hu]
 have e : (Int.ofNat u).tmod (Int.ofNat n) = Int.ofNat (u % n) := rfl
 have hlt := Nat.mod_lt u h0
 show wr .i64 ((Int.ofNat u).tmod (Int.ofNat n)) = _
 rw [e, wr_in]
 all_goals simp [IntKind.min, IntKind.max, IntKind.signed, IntKind.bits]
 all_goals omega
theorem EleP.val {l : List Ty} {p : Nat} {y0 : LySt} {z : (Nat × Int) × LySt} (h : EleP l (Int.ofNat p) y0 z) (hv : ValT l p) : ∃ n y, z = ((n, 0), y) ∧ NumP l ⟨p, ⟨#[]⟩, false⟩ y0 (n, y) := by
 obtain ⟨a, ha, hv⟩ := hv
 rcases h with ⟨h, _⟩ | ⟨q, b, e, hb, h⟩
 ·exact absurd ⟨Int.natCast_nonneg _, Int.ofNat_lt.2 (List.getElem?_eq_some_iff.1 ha).1⟩ h
 cases e
 rw [ha] at hb
 cases hb
 rcases h with ⟨h, _⟩ | ⟨_, h1, h2⟩
 ·rw [hv] at h
  cases h
 obtain ⟨⟨n, e⟩, y⟩ := z
 simp only at h1
 subst h1
 exact ⟨n, y, rfl, h2⟩
theorem RecP.good {l : List Ty} {p : Nat} {s : ByteArray} {y0 : LySt} {z : (Nat × Int) × LySt} {x : Ty} (h : RecP l (Int.ofNat p) s y0 z) (hx : l[p]? = some x) (hk : x.kind = 10) (hw : (withL x s).isSome = true) : ∃ n y, z = ((n, 0), y) ∧ NumP l ⟨p, s, true⟩ y0 (n, y) := by
 rcases h with ⟨h, _⟩ | ⟨q, b, e, hb, h⟩
 ·exact absurd ⟨Int.natCast_nonneg _, Int.ofNat_lt.2 (List.getElem?_eq_some_iff.1 hx).1⟩ h
 cases e
 rw [hx] at hb
 cases hb
 rcases h with ⟨h, _⟩ | ⟨_, h, _⟩ | ⟨_, _, h1, h2⟩
 ·exact absurd hk h
 ·rw [h] at hw
  cases hw
 obtain ⟨⟨n, e⟩, y⟩ := z
 simp only at h1
 subst h1
 exact ⟨n, y, rfl, h2⟩
theorem ValP.yes {l : List Ty} {p : Nat} (h0 : ChkP l 0) (hp : p < l.length) (h : ValP l (Int.ofNat p) true) : ValT l p := by
 obtain ⟨e, he, h⟩ := h
 have := he.uniq (AskP.oneE h0 hp)
 subst this
 rcases h with ⟨h, _⟩ | ⟨_, h⟩
 ·exact absurd rfl h
 exact valAt_T h.symm
theorem wid_case {l : List Ty} {p q : Nat} {x1 x2 : Bool × Int} (h0 : ChkP l 0) (hp : p < l.length) (hq : q < l.length) (hv1 : ValT l p) (hv2 : ValT l q) (h1 : TwoP (EqT l) l (Int.ofNat p) (Int.ofNat q) x1) (h2 : TwoP (AsgT l) l (Int.ofNat p) (Int.ofNat q) x2) : (x1.1 = true ↔ EqT l p q) ∧ ((x1 = (true, 0) ∧ x2 = (true, 0)) ∨ (x1 = (false, 0) ∧ x2 = (false, 0)) ∨ (x1 = (false, 0) ∧ x2 = (true, 0) ∧ ∃ y, l[q]? = some y ∧ y.kind = 9 ∧ y.name.size ≠ 0)) := by
 have ask := AskP.twoE h0 hp hq
 have e1 := h1.err ask
 have e2 := h2.err ask
 obtain ⟨x, hx, hvx⟩ := hv1
 obtain ⟨y, hy, hvy⟩ := hv2
 have f1 : x1.1 = true ↔ EqT l p q := by
  obtain ⟨p', q', a1, a2, a3⟩ := h1.2.2 e1
  cases a1
  cases a2
  exact a3
 have f2 : x2.1 = true ↔ AsgT l p q := by
  obtain ⟨p', q', a1, a2, a3⟩ := h2.2.2 e2
  cases a1
  cases a2
  exact a3
 refine ⟨f1, ?_⟩
 obtain ⟨b1, c1⟩ := x1
 obtain ⟨b2, c2⟩ := x2
 simp only at e1 e2 f1 f2
 subst e1
 subst e2
 cases b1 with
 | true => exact .inl ⟨rfl, by rw [f2.2 ⟨x, y, hx, hy, AsgX.vals ⟨hvx, hvy, f1.1 rfl⟩⟩]⟩
 | false =>
  cases b2 with
  | false => exact .inr (.inl ⟨rfl, rfl⟩)
  | true =>
   refine .inr (.inr ⟨rfl, rfl, y, hy, ?_⟩)
   obtain ⟨x', y', g1, g2, g3⟩ := f2.1 rfl
   rw [hx] at g1
   rw [hy] at g2
   cases g1
   cases g2
   rcases g3 with g | g | g
   ·exact absurd (f1.2 g.2.2) (by decide)
   ·have := of_decide_eq_true hvy
    omega
   exact ⟨g.2.1.2.1, g.2.1.2.2.2⟩
theorem sl_cut {K : Kn} {d d2 : List SlV} {b off c : Nat} {cs : List Value} {el : TypeId} {g : Bool} {md : CMode} {mate : Option Nat} (hb : K b (.cells cs el g md mate)) (hle : off + (d ++ d2).length * 2 ≤ cs.length) (hc : ∀ i x, (d ++ d2)[i]? = some x → RSlot x ((cs.drop (off + i * 2)).take 2)) (hn : (d ++ d2).length ≤ 9223372036854775807) (hcap : (d ++ d2).length ≤ c) : Sl K 2 RSlot d (.slice (some ⟨b, off, none⟩) d.length c) := by
 rw [List.length_append] at hle hn hcap
 exact ⟨some ⟨b, off, none⟩, c, rfl, ⟨by omega, by omega⟩, .inr ⟨b, off, cs, el, g, md, mate, rfl, hb, by omega, fun i x hx => hc i x (by rw [List.getElem?_append_left (List.getElem?_eq_some_iff.1 hx).1]; exact hx)⟩⟩
theorem slot_part (a b : Int) : partA prog 3 [.int .i64 a, .int .i64 b] 0 = some (.int .i64 a) ∧ partA prog 3 [.int .i64 a, .int .i64 b] 1 = some (.int .i64 b) := ⟨by kernel_rfl, by kernel_rfl⟩
theorem slot_held : prog.stoodInHeld 129 = false := by kernel_rfl
theorem slot_eqA (x y : SlV) : eqA prog 10000 129 (.agg ⟨[.int .i64 x.1, .int .i64 x.2]⟩) (.agg ⟨[.int .i64 y.1, .int .i64 y.2]⟩) = some (decide (x = y)) := by
 obtain ⟨x1, x2⟩ := x
 obtain ⟨y1, y2⟩ := y
 obtain ⟨p0, p1⟩ := slot_part x1 x2
 obtain ⟨q0, q1⟩ := slot_part y1 y2
 rw [show (10000 : Nat) = 9998 + 1 + 1 from rfl]
 unfold eqA
 simp only [underlying129, slot_held, cond_false]
 simp only [eqFields, p0, p1, q0, q1, giv_int]
 by_cases e1 : x1 = y1
 ·by_cases e2 : x2 = y2
  ·simp [e1, e2]
  simp [e1, e2]
 simp [e1]
theorem slot_neq (xo yo : Operand) (x y : SlV) : binS prog .neq 129 xo yo (.agg ⟨[.int .i64 x.1, .int .i64 x.2]⟩) (.agg ⟨[.int .i64 y.1, .int .i64 y.2]⟩) = some (.bool (!decide (x = y))) := by
 have h : binA prog .neq 129 xo yo (.agg ⟨[.int .i64 x.1, .int .i64 x.2]⟩) (.agg ⟨[.int .i64 y.1, .int .i64 y.2]⟩) = some (.bool (!decide (x = y))) := by
  unfold binA
  simp only
  unfold binEq
  have hg : (guardOk prog 129 xo yo (.agg ⟨[.int .i64 x.1, .int .i64 x.2]⟩) (.agg ⟨[.int .i64 y.1, .int .i64 y.2]⟩) && (notSym (.agg ⟨[.int .i64 x.1, .int .i64 x.2]⟩) && notSym (.agg ⟨[.int .i64 y.1, .int .i64 y.2]⟩))) = true := by kernel_rfl
  rw [hg]
  simp only [cond_true, slot_eqA]
  rfl
 unfold binS
 rw [h]
theorem sameSlots_ok {A B : List SlV} {va vb : Value} {m : AW} (hm : m.lo ≤ m.next) (hA : Sl (Mem m) 2 RSlot A va) (hB : Sl (Mem m) 2 RSlot B vb) : Fc prog 32 [va, vb] m fun v m' => v = .bool (decide (A = B)) ∧ Ext m m' := by
 obtain ⟨aa, ca, rfl, hna, hfa⟩ := hA
 obtain ⟨ab, cb, rfl, hnb, hfb⟩ := hB
 refine Fc.body (c := _) func32 rfl rfl rfl rfl hm ?_
 refine .seq (.region (.P ?_))
 refine .nil (.seq (.seq (.seq (.region (.P ?_)))))
 refine .G (ln56 ..) ?_
 refine .P ?_
 refine .G (ln56 ..) ?_
 refine .P ?_
 refine .nil (.seq (.cond rfl (fun ht10 => ?_) fun ht10 => ?_))
 ·try simp only [nz] at ht10
  refine .seq (.region (.P ?_))
  refine .nil (.seq (.ret (.seq ?_)))
  exact .end_ rfl rfl (fun m hm => ⟨congrArg Value.bool (decide_eq_false fun h => by have h_ := congrArg List.length h; omega).symm, hm.ext⟩)
 try simp only [nz] at ht10
 have hll : A.length = B.length := by omega
 refine .skip (.seq (.seq (.seq (.region (.P ?_)))))
 refine .nil (.seq (.block ?_))
 refine .loop (α := Nat) (fun i => [(0, .slice aa A.length ca), (1, .slice ab B.length cb), (5, .int .i64 (Int.ofNat (i)))]) (fun i => []) (fun i => i ≤ A.length ∧ ∀ j, j < i → A[j]? = B[j]?) (fun i => A.length - i) 0 ⟨Nat.zero_le _, fun _ h => absurd h (Nat.not_lt_zero _)⟩ ⟨rfl, rfl, rfl, trivial⟩ (List.nil_sublist _) (fun i hi => ?_)
 refine .seq (.seq (.region (.P2 ?_)))
 refine .G (ln56 ..) ?_
 refine .P ?_
 refine .nil (.seq (.cond rfl (fun ht14 => ?_) fun ht14 => ?_))
 ·try simp only [nz] at ht14
  have hltA : i < A.length := by omega
  obtain ⟨x, hx⟩ := gx hltA
  obtain ⟨bA, offA, csA, elA, gA, mdA, mateA, rfl, ⟨hbA, hhA⟩, hleA, hcA⟩ := so hfa hltA
  have hrx := hcA i x hx
  have hltB : i < B.length := by omega
  obtain ⟨y, hy⟩ := gx hltB
  obtain ⟨bB, offB, csB, elB, gB, mdB, mateB, rfl, ⟨hbB, hhB⟩, hleB, hcB⟩ := so hfb hltB
  have hry := hcB i y hy
  refine .skip (.seq (.seq (.block (.seq ?_))))
  refine .D [(15, 0), (15, 0), (15, 3), (3, 7), (15, 0), (15, 0), (15, 48), (3, 112), (15, 255)] (by kernel_rfl) (by kernel_rfl) (fun base hbase hB => ?_)
  iterate 2 refine .P ?_
  refine .K underlying56 sz129 ?_
  refine .loadAgg rfl rfl rfl rfl rfl rfl rfl rfl ag129 sz129 (.base hhA hbA (by simp)) (by omega) hrx ?_
  iterate 2 refine .P ?_
  refine .K underlying56 sz129 ?_
  refine .loadAgg rfl rfl rfl rfl rfl rfl rfl rfl ag129 sz129 (.base hhB hbB (by simp)) (by omega) hry ?_
  refine .p (v := .bool (!decide (x = y))) rfl rfl rfl rfl (by simp only [opE, evE, look]; exact slot_neq _ _ _ _) ?_
  refine .nil (.seq (.cond rfl (fun ht25 => ?_) fun ht25 => ?_))
  ·try simp only [nz] at ht25
   refine .seq (.region (.P ?_))
   refine .nil (.seq (.ret (.blk (.seq (.loop (.blk (.seq ?_)))))))
   exact .end_ rfl rfl (fun m hm => ⟨congrArg Value.bool (decide_eq_false fun h => by rw [h, hy] at hx; cases hx; exact absurd rfl (by assumption)).symm, hm.ext⟩)
  try simp only [nz] at ht25
  refine .skip (.blk (.seq (.region (.P2 ?_))))
  refine .W 16 i ?_
  refine .P ?_
  refine .nil ?_
  exact .loop (i + 1) ⟨hltA, fun j hj => by by_cases e : j = i; (subst e; rw [hx, hy, (by assumption : x = y)]); exact hi.2 j (by omega)⟩ (by omega) ⟨rfl, rfl, rfl, trivial⟩ (List.nil_sublist _)
 try simp only [nz] at ht14
 refine .exit (.seq (.loop (.here (.seq (.seq (.region (.P ?_)))))))
 refine .nil (.seq (.ret ?_))
 exact .end_ rfl rfl (fun m hm => ⟨congrArg Value.bool (decide_eq_true (List.ext_getElem? fun j => by by_cases e : j < A.length; (exact hi.2 j (by omega)); rw [List.getElem?_eq_none (by omega), List.getElem?_eq_none (by omega)])).symm, hm.ext⟩)
set_option maxRecDepth 100000 in
theorem widens_ok {l : List Ty} {vl : Value} {t u : Int} {m : AW} (hm : m.lo ≤ m.next) (hlS : Sl (Mem m) 5 (RTy (Mem m)) l vl) : Fc prog 7 [vl, .int .i64 t, .int .i64 u] m fun v m' => v = .bool true ∧ Ext m m' := by
 have hlA := hlS
 obtain ⟨aA, cA, rfl, hnA, -⟩ := hlS
 refine Fc.body (c := _) func7 rfl rfl rfl rfl hm ?_
 refine .seq (.region (.P ?_))
 refine .nil (.seq (.seq (.seq (.region ?_))))
 refine .call _ rfl rfl rfl rfl rfl rfl (fun m hm => awake_ok) ?_
 refine .P3 ?_
 refine .call _ rfl rfl rfl rfl rfl rfl (fun m hm => few_ok hm.lole (hlA.mono (Mem.kr hm) (RTy.mono (Mem.kr hm)))) ?_
 refine .P3 ?_
 refine .splitB 30 rfl (fun hs_30 => ?_) (fun hs_30 => ?_)
 ·try simp only [nz] at hs_30
  iterate 4 refine .O ?_
  refine .P2 ?_
  iterate 3 refine .O ?_
  refine .P ?_
  refine .nil (.seq (.cond_true rfl (.seq (.region ?_))))
  refine .call _ rfl rfl rfl rfl rfl rfl (fun m hm => awake_ok) ?_
  refine .P ?_
  refine .nil (.seq (.ret (.seq ?_)))
  exact .end_ rfl rfl (fun m hm => ⟨rfl, hm.ext⟩)
 try simp only [nz] at hs_30
 obtain ⟨hn14, hwl⟩ := few_all hs_30
 refine .P ?_
 refine .calln _ _ _ rfl rfl rfl rfl rfl rfl (fun m hm => own_ok hm.lole (hlA.mono (Mem.kr hm) (RTy.mono (Mem.kr hm))) hwl hn14) (fun z0 hz0 => ?_)
 refine .calln _ _ _ rfl rfl rfl rfl rfl rfl (fun m hm => check_ok hm.lole (hz0.mono (InH.kr hm fun p_ hp_ => (List.mem_append_left _ hp_)) fun x_ cs_ h_ => RTy.mono (InH.kr hm fun p_ hp_ => (List.mem_append_left _ hp_)) x_ cs_ h_.1) hwl hn14) (fun e0 he0 => ?_)
 refine .drop (h' := []) (List.nil_sublist _) ?_
 refine .P3 ?_
 refine .splitB 36 rfl (fun hs_36 => ?_) (fun hs_36 => ?_)
 ·try simp only [nz] at hs_36
  iterate 3 refine .O ?_
  refine .P ?_
  refine .nil (.seq (.cond_true rfl (.seq (.region ?_))))
  refine .call _ rfl rfl rfl rfl rfl rfl (fun m hm => awake_ok) ?_
  refine .P ?_
  refine .nil (.seq (.ret (.seq ?_)))
  exact .end_ rfl rfl (fun m hm => ⟨rfl, hm.ext⟩)
 try simp only [nz] at hs_36
 have he00 : e0 = 0 := by omega
 subst he00
 have hFi := he0.fine
 have hSm := he0.sml
 refine .P ?_
 refine .G (ln22 ..) ?_
 refine .P2 ?_
 refine .nil (.seq (.cond rfl (fun ht40 => ?_) fun ht40 => ?_))
 ·try simp only [nz] at ht40
  refine .seq (.region ?_)
  refine .call _ rfl rfl rfl rfl rfl rfl (fun m hm => awake_ok) ?_
  refine .P ?_
  refine .nil (.seq (.ret (.seq ?_)))
  exact .end_ rfl rfl (fun m hm => ⟨rfl, hm.ext⟩)
 try simp only [nz] at ht40
 have h0 : 0 < l.length := by omega
 obtain ⟨p, hp, hpe⟩ := idx_ex t h0 (by omega)
 obtain ⟨q, hq, hqe⟩ := idx_ex u h0 (by omega)
 obtain ⟨b, off, cs, el, g, md, mate, hal, ⟨hb, hh⟩, hle, hc⟩ := sl_open hlA (by omega)
 obtain ⟨x_, hx_⟩ := gx hp
 have hrX := hc p x_ hx_
 obtain ⟨veX, vfX, vaX, hrX, heX, hfX, hgX⟩ := hrX
 obtain ⟨aeX, ceX, rfl, hneX, heX⟩ := heX
 have hfSX := hfX
 obtain ⟨afX, cfX, rfl, hnfX, hfX⟩ := hfX
 obtain ⟨aaX, caX, rfl, hnaX, hgX⟩ := hgX
 refine .skip (.seq (.seq ?_))
 refine .D [(15, 0), (15, 1), (15, 0), (3, 4), (15, 12), (15, 31), (15, 63), (15, 0), (15, 128), (15, 0), (3, 512), (15, 1536), (15, 3968), (15, 8064), (15, 127), (15, 32767)] (by kernel_rfl) (by kernel_rfl) (fun base hbase hB => ?_)
 refine .P ?_
 refine .convInt rfl rfl rfl rfl rfl underlying3 underlying34 rfl (.P ?_)
 refine .len rfl rfl rfl rfl rfl rfl (ln22 ..) ?_
 refine .convInt rfl rfl rfl rfl rfl underlying3 underlying34 rfl ?_
 refine .as 46 (.int .u64 (Int.ofNat l.length)) rfl (congrArg (Value.int .u64) (by rw [wr_in] <;> simp [IntKind.min, IntKind.max, IntKind.signed, IntKind.bits] <;> omega)) ?_
 refine .bin rfl rfl rfl rfl rfl rfl rfl (binS_rem (b := Int.ofNat l.length) (by simp only [Int.ofNat_eq_natCast]; omega)) ?_
 refine .convInt rfl rfl rfl rfl rfl underlying34 underlying3 rfl ?_
 refine .as 48 (.int .i64 (Int.ofNat p)) rfl (congrArg (Value.int .i64) hpe) ?_
 refine .P ?_
 refine .convInt rfl rfl rfl rfl rfl underlying3 underlying34 rfl (.P ?_)
 refine .len rfl rfl rfl rfl rfl rfl (ln22 ..) ?_
 refine .convInt rfl rfl rfl rfl rfl underlying3 underlying34 rfl ?_
 refine .as 53 (.int .u64 (Int.ofNat l.length)) rfl (congrArg (Value.int .u64) (by rw [wr_in] <;> simp [IntKind.min, IntKind.max, IntKind.signed, IntKind.bits] <;> omega)) ?_
 refine .bin rfl rfl rfl rfl rfl rfl rfl (binS_rem (b := Int.ofNat l.length) (by simp only [Int.ofNat_eq_natCast]; omega)) ?_
 refine .convInt rfl rfl rfl rfl rfl underlying34 underlying3 rfl ?_
 refine .as 55 (.int .i64 (Int.ofNat q)) rfl (congrArg (Value.int .i64) hqe) ?_
 iterate 2 refine .P ?_
 refine .nil (.seq (.seq (.region (.P ?_))))
 refine .calln _ _ _ rfl rfl rfl rfl rfl rfl (fun m hm => own_ok hm.lole (hlA.mono (Mem.kr hm) (RTy.mono (Mem.kr hm))) hwl hn14) (fun z0 hz0 => ?_)
 refine .calln _ _ _ rfl rfl rfl rfl rfl rfl (fun m hm => NewLayout_ok hm.lole (hz0.mono (InH.kr hm fun p_ hp_ => (List.mem_append_left _ hp_)) fun x_ cs_ h_ => RTy.mono (InH.kr hm fun p_ hp_ => (List.mem_append_left _ hp_)) x_ cs_ h_.1) hwl hn14) (fun z hz => ?_)
 have hze : z.e = 0 := hz.chk.uniq he0
 obtain ⟨e_, bx, bm, alx, clx, yx, Tx⟩ := z
 simp only at hze
 subst hze
 have hTab := hz.tab rfl
 have hMyx := hz.mem rfl
 have hnew := hz.new_ rfl
 simp only at hTab hMyx hnew
 have hGyx : GoodL l yx.S := by rw [hnew]; exact GoodL.start l
 have hzyx : ∀ d, yx.S.descs[0]? = some d → d.length ≤ 100000 := fun d h_ => by rw [hnew] at h_; cases h_; exact Nat.zero_le _
 refine .swap (h' := (LyH bx bm (.slice alx l.length clx) yx ++ Tx) ++ (z0.1 ++ [])) (List.Perm.of_eq (by unfold nlH; rw [if_pos rfl])) ?_
 refine .drop (h' := LyH bx bm (.slice alx l.length clx) yx ++ Tx) (List.sublist_append_left _ _) ?_
 iterate 5 refine .P ?_
 refine .nil (.seq (.seq (.seq (.region (.P2 ?_)))))
 refine .as 63 (.bool false) rfl (congrArg Value.bool (rfl)) ?_
 refine .P2 ?_
 refine .p (v := .bool false) rfl rfl rfl (by kernel_rfl) ?_
 refine .P ?_
 refine .nil (.seq (.cond_false rfl (.skip (.seq ?_))))
 refine .joinG (β := LySt) (fun yc => LyM l yc ∧ GoodL l yc.S ∧ ∀ d, yc.S.descs[0]? = some d → d.length ≤ 100000) (fun yc => [(0, .slice aA l.length cA), (1, .int .i64 (Int.ofNat (p))), (7, ptr bx)]) (fun yc => LyH bx bm (.slice alx l.length clx) yc ++ Tx) ?_ (fun yc ⟨hMyc, hGyc, hzyc⟩ => ?_)
 ·refine .seq (.region (.P ?_))
  refine .calln _ _ _ rfl rfl rfl rfl rfl rfl (fun m hm => own_ok hm.lole (hlA.mono (Mem.kr hm) (RTy.mono (Mem.kr hm))) hwl hn14) (fun z0 hz0 => ?_)
  refine .P ?_
  refine .calln _ _ _ rfl rfl rfl rfl rfl rfl (fun m hm => Value_ok (t := Int.ofNat p) hm.lole (hz0.mono (InH.kr hm fun p_ hp_ => (List.mem_append_left _ hp_)) fun x_ cs_ h_ => RTy.mono (InH.kr hm fun p_ hp_ => (List.mem_append_left _ hp_)) x_ cs_ h_.1) hwl hn14) (fun c1 hc1 => ?_)
  refine .drop (h' := LyH bx bm (.slice alx l.length clx) yx ++ Tx) (List.sublist_append_right _ _) ?_
  refine .P ?_
  refine .splitB 72 rfl (fun hs_72 => ?_) (fun hs_72 => ?_)
  ·try simp only [nz] at hs_72
   subst hs_72
   have hvp := ValP.yes he0 hp hc1
   refine .P ?_
   refine .calln _ _ _ rfl rfl rfl rfl rfl rfl (fun m hm => own_ok hm.lole (hlA.mono (Mem.kr hm) (RTy.mono (Mem.kr hm))) hwl hn14) (fun z0 hz0 => ?_)
   refine .P ?_
   refine .calln _ _ _ rfl rfl rfl rfl rfl rfl (fun m hm => Value_ok (t := Int.ofNat q) hm.lole (hz0.mono (InH.kr hm fun p_ hp_ => (List.mem_append_left _ hp_)) fun x_ cs_ h_ => RTy.mono (InH.kr hm fun p_ hp_ => (List.mem_append_left _ hp_)) x_ cs_ h_.1) hwl hn14) (fun c2 hc2 => ?_)
   refine .drop (h' := LyH bx bm (.slice alx l.length clx) yx ++ Tx) (List.sublist_append_right _ _) ?_
   refine .P ?_
   refine .nil (.seq (.cond rfl (fun ht77 => ?_) fun ht77 => ?_))
   ·subst ht77
    have hvq := ValP.yes he0 hq hc2
    refine .seq (.region (.P ?_))
    refine .calln _ _ _ rfl rfl rfl rfl rfl rfl (fun m hm => own_ok hm.lole (hlA.mono (Mem.kr hm) (RTy.mono (Mem.kr hm))) hwl hn14) (fun z0 hz0 => ?_)
    refine .P2 ?_
    refine .calln _ _ _ rfl rfl rfl rfl rfl rfl (fun m hm => Equal_ok (t := Int.ofNat p) (u := Int.ofNat q) hm.lole (hz0.mono (InH.kr hm fun p_ hp_ => (List.mem_append_left _ hp_)) fun x_ cs_ h_ => RTy.mono (InH.kr hm fun p_ hp_ => (List.mem_append_left _ hp_)) x_ cs_ h_.1) hwl hn14) (fun x1 hx1 => ?_)
    refine .drop (h' := LyH bx bm (.slice alx l.length clx) yx ++ Tx) (List.sublist_append_right _ _) ?_
    iterate 5 refine .P ?_
    refine .nil (.seq (.seq (.region (.P ?_))))
    refine .calln _ _ _ rfl rfl rfl rfl rfl rfl (fun m hm => own_ok hm.lole (hlA.mono (Mem.kr hm) (RTy.mono (Mem.kr hm))) hwl hn14) (fun z0 hz0 => ?_)
    refine .P2 ?_
    refine .calln _ _ _ rfl rfl rfl rfl rfl rfl (fun m hm => Assignable_ok (t := Int.ofNat p) (u := Int.ofNat q) hm.lole (hz0.mono (InH.kr hm fun p_ hp_ => (List.mem_append_left _ hp_)) fun x_ cs_ h_ => RTy.mono (InH.kr hm fun p_ hp_ => (List.mem_append_left _ hp_)) x_ cs_ h_.1) hwl hn14) (fun x2 hx2 => ?_)
    refine .drop (h' := LyH bx bm (.slice alx l.length clx) yx ++ Tx) (List.sublist_append_right _ _) ?_
    iterate 5 refine .P ?_
    refine .nil (.seq (.seq (.region (.P2 ?_))))
    refine .callc (EleP l (Int.ofNat p) yx) ynV (fun z => LyH bx bm (.slice alx l.length clx) z.2) .here rfl rfl rfl rfl rfl rfl (fun m2 k1_ g2_ => Elem_ok k1_.lole' g2_ hMyx (hTab.mono (fun b_ o_ h_ => Off.known k1_ h_) (RTy.mono (fun b_ o_ h_ => Off.known k1_ h_))) hFi hSm hwl hn14) (fun w hw => ?_)
    obtain ⟨n, y1, hwe, hNn⟩ := hw.val hvp
    subst hwe
    have hMy1 : LyM l y1 := hNn.mem
    have hGy1 : GoodL l y1.S := hGyx.run hNn.run
    have hzy1 : ∀ d, y1.S.descs[0]? = some d → d.length ≤ 100000 := fun d h_ => hzyx d (by rw [← hNn.run.ext.same 0 (by have h1_ := hMyx.ok.len; omega)]; exact h_)
    iterate 5 refine .P ?_
    refine .nil (.seq (.seq (.region (.P2 ?_))))
    refine .callc (EleP l (Int.ofNat q) y1) ynV (fun z => LyH bx bm (.slice alx l.length clx) z.2) .here rfl rfl rfl rfl rfl rfl (fun m2 k1_ g2_ => Elem_ok k1_.lole' g2_ hMy1 (hTab.mono (fun b_ o_ h_ => Off.known k1_ h_) (RTy.mono (fun b_ o_ h_ => Off.known k1_ h_))) hFi hSm hwl hn14) (fun w hw => ?_)
    obtain ⟨k, yc, hwe, hNk⟩ := hw.val hvq
    subst hwe
    have hMyc : LyM l yc := hNk.mem
    have hGyc : GoodL l yc.S := hGy1.run hNk.run
    have hzyc : ∀ d, yc.S.descs[0]? = some d → d.length ≤ 100000 := fun d h_ => hzy1 d (by rw [← hNk.run.ext.same 0 (by have h1_ := hMy1.ok.len; omega)]; exact h_)
    iterate 5 refine .P ?_
    refine .nil (.seq (.seq (.region ?_)))
    obtain ⟨hx1e, hcase⟩ := wid_case he0 hp hq hvp hvq hx1 hx2
    have hnm := has_eq hFi ((hNn.run.has hGyx.len).pre hNk.run.ext.pre) (hNk.run.has hGy1.len)
    rcases hcase with ⟨rfl, rfl⟩ | ⟨rfl, rfl⟩ | ⟨rfl, rfl, yq, hyq, hk9, hnq⟩
    ·refine .P ?_
     iterate 18 refine .P ?_
     refine .as 124 (.bool true) rfl (congrArg Value.bool (by rw [eqI_eq]; exact decide_eq_true (congrArg Int.ofNat (hnm.2 (hx1e.1 rfl))))) ?_
     refine .neqBool rfl rfl rfl rfl underlying4 rfl rfl ?_
     iterate 15 refine .P ?_
     iterate 14 refine .O ?_
     refine .P2 ?_
     refine .nil (.seq (.cond_false rfl (.skip ?_)))
     exact .jng yc ⟨hMyc, hGyc, hzyc⟩ ⟨rfl, rfl, rfl, trivial⟩ (.refl _)
    ·refine .P ?_
     iterate 18 refine .P ?_
     refine .as 124 (.bool false) rfl (congrArg Value.bool (by rw [eqI_eq]; exact decide_eq_false fun h_ => absurd (hx1e.2 (hnm.1 (Int.ofNat.inj h_))) (by decide))) ?_
     refine .neqBool rfl rfl rfl rfl underlying4 rfl rfl ?_
     iterate 4 refine .P ?_
     iterate 2 refine .O ?_
     iterate 5 refine .P ?_
     iterate 2 refine .O ?_
     refine .P2 ?_
     iterate 14 refine .O ?_
     refine .P2 ?_
     refine .nil (.seq (.cond_false rfl (.skip ?_)))
     exact .jng yc ⟨hMyc, hGyc, hzyc⟩ ⟨rfl, rfl, rfl, trivial⟩ (.refl _)
    refine .P ?_
    have hrY := hc q yq hyq
    obtain ⟨veY, vfY, vaY, hrY, heY, hfY, hgY⟩ := hrY
    obtain ⟨aeY, ceY, rfl, hneY, heY⟩ := heY
    have hfSY := hfY
    obtain ⟨afY, cfY, rfl, hnfY, hfY⟩ := hfY
    obtain ⟨aaY, caY, rfl, hnaY, hgY⟩ := hgY
    iterate 18 refine .P ?_
    refine .as 124 (.bool false) rfl (congrArg Value.bool (by rw [eqI_eq]; exact decide_eq_false fun h_ => absurd (hx1e.2 (hnm.1 (Int.ofNat.inj h_))) (by decide))) ?_
    refine .neqBool rfl rfl rfl rfl underlying4 rfl rfl ?_
    iterate 4 refine .P ?_
    iterate 2 refine .O ?_
    iterate 10 refine .P ?_
    refine .as 141 (.slice (some ⟨b, off, none⟩) l.length cA) rfl (congrArg (Value.slice · l.length cA) hal) ?_
    refine .P ?_
    refine .indexAddr rfl rfl rfl rfl underlying22 sz50 rfl rfl (hq) ?_
    refine .F fa50_0 ?_
    refine .M ag3 (.base hh hb (by simp)) (cell_of_take hrY (k := 0) rfl) ?_
    refine .P ?_
    refine .as 146 (.bool false) rfl (congrArg Value.bool (by rw [hk9]; rfl)) ?_
    refine .P2 ?_
    refine .as 148 (.slice (some ⟨b, off, none⟩) l.length cA) rfl (congrArg (Value.slice · l.length cA) hal) ?_
    refine .P ?_
    refine .indexAddr rfl rfl rfl rfl underlying22 sz50 rfl rfl (hq) ?_
    refine .F fa50_2 ?_
    refine .M ag9 (.base hh hb (by simp)) (cell_of_take hrY (k := 2) rfl) ?_
    refine .P ?_
    refine .as 153 (.bool false) rfl (congrArg Value.bool (by cases h_ : eqBytes yq.name.data.toList [] with | false => rfl | true => (rw [nrm_sempty] at h_; exact absurd h_ hnq))) ?_
    refine .P3 ?_
    refine .nil (.seq (.cond_false rfl (.skip ?_)))
    exact .jng yc ⟨hMyc, hGyc, hzyc⟩ ⟨rfl, rfl, rfl, trivial⟩ (.refl _)
   refine .skip ?_
   exact .jng yx ⟨hMyx, hGyx, hzyx⟩ ⟨rfl, rfl, rfl, trivial⟩ (.refl _)
  try simp only [nz] at hs_72
  iterate 4 refine .O ?_
  refine .P ?_
  refine .nil (.seq (.cond_false rfl (.skip ?_)))
  exact .jng yx ⟨hMyx, hGyx, hzyx⟩ ⟨rfl, rfl, rfl, trivial⟩ (.refl _)
 refine .seq (.seq (.region (.P ?_)))
 refine .as 157 (.slice (some ⟨b, off, none⟩) l.length cA) rfl (congrArg (Value.slice · l.length cA) hal) ?_
 refine .P ?_
 refine .indexAddr rfl rfl rfl rfl underlying22 sz50 rfl rfl (hp) ?_
 refine .F fa50_0 ?_
 refine .M ag3 (.base hh hb (by simp)) (cell_of_take hrX (k := 0) rfl) ?_
 refine .P ?_
 refine .nil (.seq (.cond rfl (fun ht162 => ?_) fun ht162 => ?_))
 ·try simp only [nz] at ht162
  refine .seq (.region (.P ?_))
  refine .nil (.seq (.ret (.seq ?_)))
  exact .end_ rfl rfl (fun m hm => ⟨rfl, hm.ext⟩)
 try simp only [nz] at ht162
 have hk10 : x_.kind = 10 := by omega
 refine .skip (.seq (.seq (.region (.P2 ?_))))
 refine .callc (RecP l (Int.ofNat p) ⟨#[]⟩ yc) ynV (fun z => LyH bx bm (.slice alx l.length clx) z.2) .here rfl rfl rfl rfl rfl rfl (fun m2 k1_ g2_ => Record_ok k1_.lole' g2_ hMyc (hTab.mono (fun b_ o_ h_ => Off.known k1_ h_) (RTy.mono (fun b_ o_ h_ => Off.known k1_ h_))) hFi hSm hwl hn14) (fun w hw => ?_)
 obtain ⟨n0, y3, hwe, hNn0⟩ := hw.good hx_ hk10 rfl
 subst hwe
 have hMy3 : LyM l y3 := hNn0.mem
 have hGy3 : GoodL l y3.S := hGyc.run hNn0.run
 have hzy3 : ∀ d, y3.S.descs[0]? = some d → d.length ≤ 100000 := fun d h_ => hzyc d (by rw [← hNn0.run.ext.same 0 (by have h1_ := hMyc.ok.len; omega)]; exact h_)
 iterate 5 refine .P ?_
 refine .nil (.seq (.seq (.seq (.region (.P2 ?_)))))
 refine .as 170 (.bool false) rfl (congrArg Value.bool (rfl)) ?_
 refine .P3 ?_
 refine .as 173 (.bool false) rfl (congrArg Value.bool (by rw [ltI_eq]; exact decide_eq_false (Int.not_lt.2 (Int.natCast_nonneg _)))) ?_
 iterate 4 refine .P ?_
 refine .calln _ _ _ rfl rfl rfl rfl rfl rfl (fun m hm => Descs_ok (l := l) (bx := bx) (bm := bm) (al := alx) (cl := clx) (y0 := y3) hm.lole (fun b_ o_ h_ => ⟨(hm.has b_ o_ (List.mem_append_left _ h_)).2, (hm.has b_ o_ (List.mem_append_left _ h_)).1⟩) hMy3 (hMy3.ok.keys_few hwl hn14) (by have h_ := hMy3.ok.mods_few; omega) (hGy3.short hFi hSm hwl hMy3.ok hzy3)) (fun ze hze => ?_)
 obtain ⟨zeh, zev⟩ := ze
 have hze0 := hze
 obtain ⟨adze, cdze, hdvze, hdnze, -⟩ := hze
 simp only at hdvze
 subst hdvze
 refine .G (ln52 ..) ?_
 refine .P2 ?_
 refine .nil (.seq (.cond rfl (fun ht181 => ?_) fun ht181 => ?_))
 ·try simp only [nz] at ht181
  have hlt_ := has_lt hGy3.len (hNn0.run.has hGyc.len); omega
 try simp only [nz] at ht181
 refine .skip (.seq (.seq (.seq (.region (.P ?_)))))
 refine .nil (.seq (.block ?_))
 refine .loop (α := Nat × LySt) (fun q => [(0, .slice aA l.length cA), (1, .int .i64 (Int.ofNat (p))), (7, ptr bx), (17, .int .i64 (Int.ofNat (n0))), (19, .int .i64 (Int.ofNat (q.1)))]) (fun q => LyH bx bm (.slice alx l.length clx) q.2 ++ Tx) (fun q => q.1 ≤ x_.arms.length ∧ LyM l q.2 ∧ GoodL l q.2.S ∧ HasN l q.2.S ⟨p, ⟨#[]⟩, true⟩ n0 ∧ ∀ d, q.2.S.descs[0]? = some d → d.length ≤ 100000) (fun q => x_.arms.length - q.1) (0, y3) ⟨Nat.zero_le _, hMy3, hGy3, hNn0.run.has hGyc.len, hzy3⟩ ⟨rfl, rfl, rfl, rfl, rfl, trivial⟩ (List.sublist_append_right _ _) (fun q hq0 => ?_)
 obtain ⟨i, yi⟩ := q
 obtain ⟨hi, hMyi, hGyi, hHi, hzyi⟩ := hq0
 simp only at hi hMyi hGyi hHi hzyi
 refine .seq (.seq (.region (.P2 ?_)))
 refine .as 183 (.slice (some ⟨b, off, none⟩) l.length cA) rfl (congrArg (Value.slice · l.length cA) hal) ?_
 refine .P ?_
 refine .indexAddr rfl rfl rfl rfl underlying22 sz50 rfl rfl (hp) ?_
 refine .F fa50_4 ?_
 refine .M ag48 (.base hh hb (by simp)) (cell_of_take hrX (k := 4) rfl) ?_
 refine .G (ln48 ..) ?_
 refine .P ?_
 refine .nil (.seq (.cond rfl (fun ht189 => ?_) fun ht189 => ?_))
 ·try simp only [nz] at ht189
  have hltU : i < x_.arms.length := by omega
  obtain ⟨u_, hu_⟩ := gx hltU
  obtain ⟨bU, offU, csU, elU, gU, mdU, mateU, rfl, ⟨hbU, hhU⟩, hleU, hcU⟩ := so hgX hltU
  have hru := hcU i u_ hu_
  obtain ⟨vu, hru, hfu⟩ := hru
  obtain ⟨LW, hW⟩ := withL_some (List.mem_of_getElem? hu_)
  refine .skip (.seq (.seq (.block (.seq (.region (.P3 ?_))))))
  refine .as 195 (.slice (some ⟨b, off, none⟩) l.length cA) rfl (congrArg (Value.slice · l.length cA) hal) ?_
  refine .P ?_
  refine .indexAddr rfl rfl rfl rfl underlying22 sz50 rfl rfl (hp) ?_
  refine .F fa50_4 ?_
  refine .M ag48 (.base hh hb (by simp)) (cell_of_take hrX (k := 4) rfl) ?_
  refine .P ?_
  refine .indexAddr rfl rfl rfl rfl underlying48 sz55 rfl rfl (hltU) ?_
  refine .F fa55_0 ?_
  refine .M ag9 (.base hhU hbU (by simp)) (cell_of_take hru (k := 0) rfl) ?_
  refine .callc (RecP l (Int.ofNat p) u_.name yi) ynV (fun z => LyH bx bm (.slice alx l.length clx) z.2) .here rfl rfl rfl rfl rfl rfl (fun m2 k1_ g2_ => Record_ok k1_.lole' g2_ hMyi (hTab.mono (fun b_ o_ h_ => Off.known k1_ h_) (RTy.mono (fun b_ o_ h_ => Off.known k1_ h_))) hFi hSm hwl hn14) (fun w hw => ?_)
  obtain ⟨n2, y4, hwe, hNn2⟩ := hw.good hx_ hk10 (by rw [hW]; rfl)
  subst hwe
  have hMy4 : LyM l y4 := hNn2.mem
  have hGy4 : GoodL l y4.S := hGyi.run hNn2.run
  have hzy4 : ∀ d, y4.S.descs[0]? = some d → d.length ≤ 100000 := fun d h_ => hzyi d (by rw [← hNn2.run.ext.same 0 (by have h1_ := hMyi.ok.len; omega)]; exact h_)
  iterate 5 refine .P ?_
  refine .nil (.seq (.seq (.region (.P ?_))))
  refine .calln _ _ _ rfl rfl rfl rfl rfl rfl (fun m hm => Descs_ok (l := l) (bx := bx) (bm := bm) (al := alx) (cl := clx) (y0 := y4) hm.lole (fun b_ o_ h_ => ⟨(hm.has b_ o_ (List.mem_append_left _ h_)).2, (hm.has b_ o_ (List.mem_append_left _ h_)).1⟩) hMy4 (hMy4.ok.keys_few hwl hn14) (by have h_ := hMy4.ok.mods_few; omega) (hGy4.short hFi hSm hwl hMy4.ok hzy4)) (fun zd hzd => ?_)
  obtain ⟨zdh, zdv⟩ := zd
  have hzd0 := hzd
  obtain ⟨adzd, cdzd, hdvzd, hdnzd, -⟩ := hzd
  simp only at hdvzd
  subst hdvzd
  obtain ⟨d_, d2_, hd1, hd2, hdpos⟩ := desc_arm hFi hMy4.ok hGy4 (hHi.pre hNn2.run.ext.pre) (hNn2.run.has hGyi.len) hx_ hW
  have hdpos := hdpos (by omega)
  have hl1 := (List.getElem?_eq_some_iff.1 hd1).1
  have hl2 := (List.getElem?_eq_some_iff.1 hd2).1
  obtain ⟨bG, offG, csG, elG, gG, mdG, mateG, hgal, hbG, hleG, hcG⟩ := sl_open hzd0 (by omega)
  subst hgal
  obtain ⟨v1, hr1, hs1⟩ := hcG n0 d_ hd1
  obtain ⟨v2, hr2, hs2⟩ := hcG n2 (d_ ++ d2_) hd2
  have hs10 := hs1
  obtain ⟨a1, c1_, rfl, hn1, -⟩ := hs1
  have hs20 := hs2
  obtain ⟨a2, c2_, rfl, hn2_, -⟩ := hs2
  obtain ⟨bS, offS, csS, elS, gS, mdS, mateS, hal2, hbS, hleS, hcS⟩ := sl_open hs20 (by rw [List.length_append]; omega)
  subst hal2
  refine .P ?_
  refine .nil (.seq (.seq ?_))
  refine .D [(15, 0), (15, 1), (15, 3), (15, 7), (15, 15), (15, 31), (15, 63), (15, 127), (15, 127), (3, 383), (15, 1023), (15, 2047), (15, 4095), (15, 8191), (15, 8191), (15, 32767), (15, 65535), (3, 131071), (3, 262143), (15, 8191), (15, 8191), (15, 1581055), (15, 3678207), (3, 7872511), (3, 16261119), (15, 33554431), (15, 67108863), (15, 134217727), (15, 268435455), (15, 268435455), (15, 1073741823), (15, 2147483647), (3, 4294967295), (15, 268435455), (15, 268435455), (15, 26038239231), (15, 60397977599), (3, 129117454335), (3, 266556407807), (15, 549755813887), (15, 268435455), (15, 268435455), (15, 3298803318783), (15, 7696849829887), (3, 16492942852095), (7, 35184372088831), (15, 70368744177663), (15, 140737488355327)] (by kernel_rfl) (by kernel_rfl) (fun base hbase hB => ?_)
  iterate 2 refine .P ?_
  refine .as 210 (.bool false) rfl (congrArg Value.bool (rfl)) ?_
  iterate 3 refine .P ?_
  refine .as 213 (.bool false) rfl (congrArg Value.bool (by rw [ltI_eq]; exact decide_eq_false (Int.not_lt.2 (Int.natCast_nonneg _)))) ?_
  iterate 4 refine .P ?_
  refine .len rfl rfl rfl rfl rfl rfl (ln52 ..) ?_
  refine .bin (v := .bool false) rfl rfl rfl rfl rfl rfl rfl (binS_ngeq (by simp only [Int.ofNat_eq_natCast]; omega)) ?_
  iterate 4 refine .P ?_
  refine .K underlying52 sz58 ?_
  refine .F fa58_0 ?_
  refine .M ag56 (InH.sees (l := zdh) (fun p_ hp_ => List.mem_append_left _ hp_) _ _ hbG) (cell_of_take hr2 (k := 0) rfl) ?_
  refine .len rfl rfl rfl rfl rfl rfl (ln56 ..) ?_
  iterate 2 refine .P ?_
  refine .K underlying52 sz58 ?_
  refine .F fa58_0 ?_
  refine .M ag56 (InH.sees (l := zdh) (fun p_ hp_ => List.mem_append_left _ hp_) _ _ hbG) (cell_of_take hr1 (k := 0) rfl) ?_
  refine .len rfl rfl rfl rfl rfl rfl (ln56 ..) ?_
  refine .P ?_
  refine .as 234 (.bool false) rfl (congrArg Value.bool (by rw [ltI_eq]; exact decide_eq_false (by rw [List.length_append]; simp only [Int.ofNat_eq_natCast]; omega))) ?_
  iterate 4 refine .P ?_
  refine .K underlying52 sz58 ?_
  refine .F fa58_0 ?_
  refine .M ag56 (InH.sees (l := zdh) (fun p_ hp_ => List.mem_append_left _ hp_) _ _ hbG) (cell_of_take hr2 (k := 0) rfl) ?_
  iterate 2 refine .P ?_
  refine .K underlying52 sz58 ?_
  refine .F fa58_0 ?_
  refine .M ag56 (InH.sees (l := zdh) (fun p_ hp_ => List.mem_append_left _ hp_) _ _ hbG) (cell_of_take hr1 (k := 0) rfl) ?_
  refine .len rfl rfl rfl rfl rfl rfl (ln56 ..) ?_
  refine .sliceTo (kk := d_.length) (by rw [List.length_append]; omega) hn2_.2 rfl rfl rfl rfl rfl underlying56 sz129 rfl rfl ?_
  iterate 2 refine .P ?_
  refine .K underlying52 sz58 ?_
  refine .F fa58_0 ?_
  refine .M ag56 (InH.sees (l := zdh) (fun p_ hp_ => List.mem_append_left _ hp_) _ _ hbG) (cell_of_take hr1 (k := 0) rfl) ?_
  refine .call _ rfl rfl rfl rfl rfl rfl rfl rfl rfl (fun m hm => sameSlots_ok (A := d_) (B := d_) hm.lole (sl_cut (InH.kr hm (fun p_ hp_ => List.mem_append_left _ hp_) _ _ hbS) hleS hcS hn2_.1 hn2_.2) (hs10.mono (InH.kr hm (fun p_ hp_ => List.mem_append_left _ hp_)) fun _ _ h => h)) ?_
  refine .as 254 (.bool true) rfl (congrArg Value.bool (decide_eq_true rfl)) ?_
  iterate 2 refine .P ?_
  refine .nil (.seq (.cond_false rfl (.skip (.blk (.seq (.region (.P2 ?_)))))))
  refine .W 191 i ?_
  refine .P ?_
  refine .nil ?_
  exact .loop (i + 1, y4) ⟨by omega, hMy4, hGy4, hHi.pre hNn2.run.ext.pre, hzy4⟩ (by show x_.arms.length - (i + 1) < x_.arms.length - i; omega) ⟨rfl, rfl, rfl, rfl, rfl, trivial⟩ (List.sublist_append_right _ _)
 try simp only [nz] at ht189
 refine .exit (.seq (.loop (.here (.seq (.seq (.region (.P ?_)))))))
 refine .nil (.seq (.ret ?_))
 exact .end_ rfl rfl (fun m hm => ⟨rfl, hm.ext⟩)
end Go.Proofs.YtmfbljaemhpokaaGreatDoor
