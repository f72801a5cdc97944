/-
  TypesCanonical: the functions that it calls, followed, 3. Conditions: none.
-/
import Derived.Test.YtmfbljaemhpokaaGreatDoorAwk
import Derived.Test.YtmfbljaemhpokaaGreatDoorGra
import Derived.Test.YtmfbljaemhpokaaGreatDoorCanonical2
namespace Go.Proofs.YtmfbljaemhpokaaGreatDoor
open Go Go.Ab
set_option linter.unusedVariables false
set_option linter.unusedSimpArgs false
set_option linter.unusedSectionVars false
open Tryz
theorem isort_ok {K : List Nat} {L : List Fld} {g : Gro} {cs : List Value} {vd : Value} {m : AW} (hm : m.lo ≤ m.next) (hk : Knows K m m (g.H 132 cs)) (hV : 1 < L.length → vd = .slice (some ⟨g.blk, 0, none⟩) L.length top) (hF : Flat 2 RFld L cs) (hO : g.Ok L.length) (hn : L.length ≤ 6) (hnd : (fnames L).Nodup) : Fc prog 167 [vd, .int .i64 0, .int .i64 (Int.ofNat L.length), .func (.func 115) ⟨[]⟩ ⟨[]⟩] m fun v m' => ∃ (g' : Gro) (cs' : List Value), v = .tuple ⟨[]⟩ ∧ Flat 2 RFld (sortF L) cs' ∧ g'.Ok L.length ∧ g'.blk = g.blk ∧ Knows K m m' (g'.H 132 cs') := by
 refine Fc.bodyS (S := K) (c := _) func167 rfl rfl rfl rfl (show Knows K m m (g.H 132 cs) from hk) ?_
 refine .seq (.region (.P3 ?_))
 refine .nil (.seq (.block ?_))
 refine .loop (α := Nat × Gro × List Value) (fun q => [(0, vd), (1, .int .i64 0), (2, .int .i64 (Int.ofNat L.length)), (3, .func (.func 115) ⟨[]⟩ ⟨[]⟩), (8, .int .i64 (Int.ofNat q.1))]) (fun q => q.2.1.H 132 q.2.2) (fun q => 1 ≤ q.1 ∧ Flat 2 RFld (sortF (L.take q.1) ++ L.drop q.1) q.2.2 ∧ q.2.1.Ok L.length ∧ q.2.1.blk = g.blk) (fun q => L.length - q.1) (1, g, cs) ⟨Nat.le_refl _, by rw [sort_one]; exact hF, hO, rfl⟩ ⟨rfl, rfl, rfl, rfl, rfl, trivial⟩ (.refl _) (fun q hq0 => ?_)
 obtain ⟨i, g_, cs_⟩ := q
 obtain ⟨hi1, hF_, hO_, hB_⟩ := hq0
 simp only at hi1 hF_ hO_ hB_
 refine .seq (.seq (.region (.P3 ?_)))
 refine .nil (.seq (.cond rfl (fun ht14 => ?_) fun ht14 => ?_))
 ·try simp only [nz] at ht14
  have hv_ := hV (by omega)
  subst hv_
  obtain ⟨f, hf⟩ : ∃ w_, L[i]? = some w_ := ⟨_, List.getElem?_eq_getElem (by omega)⟩
  refine .skip (.seq (.seq (.block (.seq (.region (.P2 ?_))))))
  refine .nil (.seq (.block ?_))
  refine .loop (α := Nat × Gro × List Value) (fun q => [(0, .slice (some ⟨g.blk, 0, none⟩) L.length top), (1, .int .i64 0), (2, .int .i64 (Int.ofNat L.length)), (3, .func (.func 115) ⟨[]⟩ ⟨[]⟩), (8, .int .i64 (Int.ofNat i)), (9, .int .i64 (Int.ofNat q.1))]) (fun q => q.2.1.H 132 q.2.2) (fun q => q.1 ≤ i ∧ Flat 2 RFld (swF L i q.1 f) q.2.2 ∧ q.2.1.Ok L.length ∧ q.2.1.blk = g.blk ∧ ∀ k x, q.1 ≤ k → (sortF (L.take i))[k]? = some x → lessN f.name x.name = true) (fun q => q.1) (i, g_, cs_) ⟨Nat.le_refl _, by rw [← swF_start hf]; exact hF_, hO_, hB_, fun k x hk hx => absurd (List.getElem?_eq_some_iff.1 hx).1 (by rw [sortF_len, List.length_take]; omega)⟩ ⟨rfl, rfl, rfl, rfl, rfl, rfl, trivial⟩ (.refl _) (fun q hq0 => ?_)
  obtain ⟨j, g1, cs1⟩ := q
  obtain ⟨hj, hF1, hO1, hB1, hJ1⟩ := hq0
  simp only at hj hF1 hO1 hB1 hJ1
  refine .seq (.seq ?_)
  refine .D [(15, 0), (15, 0), (15, 3), (15, 7), (15, 15), (15, 15), (15, 15), (15, 111), (3, 239), (15, 15), (15, 15), (15, 1039), (15, 3599), (3, 7695), (7, 16383), (15, 32767), (15, 65535)] (by kernel_rfl) (by kernel_rfl) (fun base hbase hB => ?_)
  iterate 4 refine .P ?_
  refine .splitB 21 rfl (fun hs0 => ?_) (fun hs0 => ?_)
  ·try simp only [nz] at hs0
   obtain ⟨j, rfl⟩ : ∃ j_, j = j_ + 1 := ⟨j - 1, by omega⟩
   obtain ⟨⟨mtG, hbG⟩, hgG⟩ := Gro.in_blk (cs := cs1) (el := 132) hO1 (by omega)
   rw [hB1] at hbG hgG
   obtain ⟨gx, hgx⟩ : ∃ w_, (sortF (L.take i))[j]? = some w_ := ⟨_, List.getElem?_eq_getElem (by rw [sortF_len, List.length_take]; omega)⟩
   have hrf := hF1.2 _ _ (swF_at (f := f) (Nat.le_of_lt (by omega)) hj)
   have hrg := hF1.2 _ _ ((swF_below (f := f) (Nat.le_of_lt (by omega)) hj (Nat.lt_succ_self j)).trans hgx)
   have hlc := hF1.1
   rw [swF_len (by omega)] at hlc
   iterate 3 refine .P ?_
   refine .K underlying47 sz132 ?_
   refine .loadAgg rfl rfl rfl rfl rfl rfl rfl rfl ag132 sz132 (InH.sees (l := g1.H 132 cs1) (fun p_ hp_ => hp_) _ _ hbG) (by omega) (show (cs1.drop (0 + (j + 1) * 2)).take 2 = [.string f.name, .int .i64 f.type] from by rw [Nat.zero_add]; exact hrf) ?_
   iterate 2 refine .P ?_
   refine .bin rfl rfl rfl rfl rfl rfl rfl (binS_dec (by omega)) ?_
   refine .K underlying47 sz132 ?_
   refine .loadAgg rfl rfl rfl rfl rfl rfl rfl rfl ag132 sz132 (InH.sees (l := g1.H 132 cs1) (fun p_ hp_ => hp_) _ _ hbG) (by omega) (show (cs1.drop (0 + j * 2)).take 2 = [.string gx.name, .int .i64 gx.type] from by rw [Nat.zero_add]; exact hrg) ?_
   refine .call _ rfl rfl rfl rfl rfl rfl rfl rfl rfl (fun m hm => cmpF_ok hm.lole) ?_
   iterate 2 refine .P ?_
   refine .nil (.seq (.cond rfl (fun ht34 => ?_) fun ht34 => ?_))
   ·try simp only [nz] at ht34
    have hlt := cmpN_neg.1 ht34
    refine .skip (.seq (.seq (.block ?_)))
    refine .D [(15, 0), (15, 0), (13, 0), (13, 0), (13, 8), (15, 0), (15, 0), (15, 64), (15, 224), (3, 480), (15, 0), (15, 0), (15, 3072), (3, 7168), (15, 16355), (7, 32739), (15, 65535), (7, 131071)] (by kernel_rfl) (by kernel_rfl) (fun base hbase hB => ?_)
    iterate 4 refine .P ?_
    refine .bin rfl rfl rfl rfl rfl rfl rfl (binS_dec (by omega)) ?_
    iterate 2 refine .P ?_
    refine .bin rfl rfl rfl rfl rfl rfl rfl (binS_dec (by omega)) ?_
    refine .K underlying47 sz132 ?_
    refine .loadAgg rfl rfl rfl rfl rfl rfl rfl rfl ag132 sz132 (InH.sees (l := g1.H 132 cs1) (fun p_ hp_ => hp_) _ _ hbG) (by omega) (show (cs1.drop (0 + j * 2)).take 2 = [.string gx.name, .int .i64 gx.type] from by rw [Nat.zero_add]; exact hrg) ?_
    iterate 2 refine .P ?_
    refine .K underlying47 sz132 ?_
    refine .loadAgg rfl rfl rfl rfl rfl rfl rfl rfl ag132 sz132 (InH.sees (l := g1.H 132 cs1) (fun p_ hp_ => hp_) _ _ hbG) (by omega) (show (cs1.drop (0 + (j + 1) * 2)).take 2 = [.string f.name, .int .i64 f.type] from by rw [Nat.zero_add]; exact hrf) ?_
    refine .K underlying47 sz132 ?_
    refine .storeGro (n := 1) (g := g1) (cs := cs1) rfl rfl (by kernel_rfl) (by kernel_rfl) rfl rfl rfl rfl rfl sz132 rfl .all hgG (by omega) rfl ?_
    refine .K underlying47 sz132 ?_
    have hl1 := putCells_length cs1 (0 + (j + 1) * 2) [.string gx.name, .int .i64 gx.type] (by show _ + 2 ≤ _; omega)
    refine .storeGro (n := 1) (g := .one g.blk) rfl rfl (by kernel_rfl) (by kernel_rfl) rfl rfl rfl rfl rfl sz132 rfl .here (.inl rfl) (Nat.le_trans (show 0 + j * 2 + 2 ≤ cs1.length by omega) (Nat.le_of_eq hl1.symm)) rfl ?_
    refine .nil (.blk (.seq (.region (.P ?_))))
    refine .bin rfl rfl rfl rfl rfl rfl (binS_dec (by omega)) ?_
    refine .P ?_
    refine .nil ?_
    exact .loop (j, .one g.blk, _) ⟨by show j ≤ i; omega, by have h_ := flat_put2 (flat_put2 hF1 (i := j + 1) (x := gx) (vs := [.string gx.name, .int .i64 gx.type]) (by rw [swF_len (by omega)]; omega) rfl rfl) (i := j) (x := f) (vs := [.string f.name, .int .i64 f.type]) (by rw [List.length_set, swF_len (by omega)]; omega) rfl rfl; rw [swF_swap (by omega) (by omega) hgx] at h_; exact h_, by show 0 < L.length; omega, rfl, fun k x hk hx => by rcases Nat.lt_or_ge j k with h_ | h_; exact hJ1 k x h_ hx; obtain rfl : k = j := Nat.le_antisymm h_ hk; rw [hgx] at hx; cases hx; exact hlt⟩ (by show j < j + 1; omega) ⟨rfl, rfl, rfl, rfl, rfl, rfl, trivial⟩ (List.sublist_append_left _ _)
   try simp only [nz] at ht34
   have hge : lessN f.name gx.name = false := by cases hb : lessN f.name gx.name with | false => rfl | true => exact absurd (cmpN_neg.2 hb) (Int.not_lt.2 ht34)
   have hFe := hF1
   rw [swF_end hf hnd hj hJ1 fun x _ hx => by rw [show j + 1 - 1 = j from rfl, hgx] at hx; cases hx; exact hge] at hFe
   refine .exit (.seq (.loop (.here (.blk (.seq (.region (.P2 ?_)))))))
   refine .W 16 i ?_
   refine .P ?_
   refine .nil ?_
   exact .loop (i + 1, g1, cs1) ⟨by show 1 ≤ i + 1; omega, hFe, hO1, hB1⟩ (by show L.length - (i + 1) < L.length - i; omega) ⟨rfl, rfl, rfl, rfl, rfl, trivial⟩ (.refl _)
  try simp only [nz] at hs0
  have hj0 : j = 0 := by omega
  subst hj0
  have hFe := hF1
  rw [swF_end hf hnd hj hJ1 fun x h0 _ => absurd h0 (by omega)] at hFe
  iterate 12 refine .O ?_
  refine .P ?_
  refine .nil (.seq (.cond_false rfl (.exit (.seq (.loop (.here (.blk (.seq (.region (.P2 ?_))))))))))
  refine .W 16 i ?_
  refine .P ?_
  refine .nil ?_
  exact .loop (i + 1, g1, cs1) ⟨by show 1 ≤ i + 1; omega, hFe, hO1, hB1⟩ (by show L.length - (i + 1) < L.length - i; omega) ⟨rfl, rfl, rfl, rfl, rfl, trivial⟩ (.refl _)
 try simp only [nz] at ht14
 rw [List.take_of_length_le (by omega), List.drop_of_length_le (by omega), List.append_nil] at hF_
 refine .exit (.seq (.loop (.here ?_)))
 exact .end_ rfl rfl (fun m hm => ⟨g_, cs_, rfl, hF_, hO_, hB_, hm⟩)
theorem psort_ok {K : List Nat} {L : List Fld} {g : Gro} {cs : List Value} {vd : Value} {lim : Int} {m : AW} (hm : m.lo ≤ m.next) (hk : Knows K m m (g.H 132 cs)) (hV : 1 < L.length → vd = .slice (some ⟨g.blk, 0, none⟩) L.length top) (hF : Flat 2 RFld L cs) (hO : g.Ok L.length) (hn : L.length ≤ 6) (hnd : (fnames L).Nodup) : Fc prog 155 [vd, .int .i64 0, .int .i64 (Int.ofNat L.length), .int .i64 lim, .func (.func 115) ⟨[]⟩ ⟨[]⟩] m fun v m' => ∃ (g' : Gro) (cs' : List Value), v = .tuple ⟨[]⟩ ∧ Flat 2 RFld (sortF L) cs' ∧ g'.Ok L.length ∧ g'.blk = g.blk ∧ Knows K m m' (g'.H 132 cs') := by
 refine Fc.bodyS (S := K) (c := _) func155 rfl rfl rfl rfl (show Knows K m m (g.H 132 cs) from hk) ?_
 refine .seq (.region (.P ?_))
 refine .nil (.seq (.seq (.region (.P ?_))))
 refine .nil (.seq (.block ?_))
 refine .loop (α := Unit) (fun _ => [(0, vd), (1, .int .i64 0), (2, .int .i64 (Int.ofNat L.length)), (3, .int .i64 lim), (4, .func (.func 115) ⟨[]⟩ ⟨[]⟩)]) (fun _ => g.H 132 cs) (fun _ => True) (fun _ => 0) () trivial ⟨rfl, rfl, rfl, rfl, rfl, trivial⟩ (.refl _) (fun _ _ => ?_)
 refine .block (.seq (.region (.P2 ?_)))
 refine .bin rfl rfl rfl rfl rfl rfl (binS_sub0 (by omega)) ?_
 refine .P ?_
 refine .nil (.seq (.seq (.seq (.region (.P2 ?_)))))
 refine .nil (.seq (.cond rfl (fun ht25 => ?_) fun ht25 => ?_))
 ·try simp only [nz] at ht25
  refine .seq (.region ?_)
  iterate 4 refine .P ?_
  refine .callc (α := Gro × List Value) (fun z => Flat 2 RFld (sortF L) z.2 ∧ z.1.Ok L.length ∧ z.1.blk = g.blk) (fun _ => .tuple ⟨[]⟩) (fun z => z.1.H 132 z.2) .all rfl rfl rfl rfl rfl rfl (fun m2 k1_ g2_ => (isort_ok k1_.lole' g2_ hV hF hO hn hnd).mono fun v m' h_ => by obtain ⟨g', cs', rfl, e1_, e2_, e3_, e4_⟩ := h_; exact ⟨(g', cs'), ⟨e1_, e2_, e3_⟩, rfl, e4_⟩) (fun z_ hz_ => ?_)
  refine .swap (h' := z_.1.H 132 z_.2) (List.Perm.of_eq (List.append_nil _)) ?_
  refine .nil (.seq (.ret (.seq (.blk (.loop (.blk ?_))))))
  exact .end_ rfl rfl (fun m hm => ⟨z_.1, z_.2, rfl, hz_.1, hz_.2.1, hz_.2.2, hm⟩)
 try simp only [nz] at ht25
 exfalso; omega
theorem len64_0 {m : AW} (hm : m.lo ≤ m.next) : Fc prog 176 [.int .u64 0] m fun v m' => v = .int .i64 0 ∧ Ext m m' := by
 refine Fc.body (c := _) func176 rfl rfl rfl rfl hm ?_
 refine .seq (.region (.P ?_))
 refine .nil (.seq (.seq (.seq (.region (.P2 ?_)))))
 refine .nil (.seq (.cond_false rfl (.skip (.seq (.seq (.seq (.region (.P2 ?_))))))))
 refine .nil (.seq (.cond_false rfl (.skip (.seq (.seq (.seq (.region (.P2 ?_))))))))
 refine .nil (.seq (.cond_false rfl (.skip (.seq (.seq (.region (.P2 ?_)))))))
 refine .convInt rfl rfl rfl rfl underlying34 underlying5 rfl ?_
 refine .p (v := .int .u8 0) rfl rfl rfl (by kernel_rfl) ?_
 refine .convInt rfl rfl rfl rfl underlying5 underlying3 rfl (.P2 ?_)
 refine .nil (.seq (.ret ?_))
 exact .end_ rfl rfl (fun m hm => ⟨rfl, hm.ext⟩)
theorem blen_0 {m : AW} (hm : m.lo ≤ m.next) : Fc prog 156 [.int .u64 0] m fun v m' => v = .int .i64 0 ∧ Ext m m' := by
 refine Fc.body (c := _) func156 rfl rfl rfl rfl hm ?_
 refine .seq (.region (.P ?_))
 refine .nil (.seq (.seq (.cond_false rfl (.skip (.seq (.seq (.region (.P ?_))))))))
 refine .call _ rfl rfl rfl rfl rfl rfl (fun m hm => len64_0 hm.lole) ?_
 refine .P ?_
 refine .nil (.seq (.ret ?_))
 exact .end_ rfl rfl (fun m hm => ⟨rfl, hm.ext⟩)
theorem len64_1 {m : AW} (hm : m.lo ≤ m.next) : Fc prog 176 [.int .u64 1] m fun v m' => v = .int .i64 1 ∧ Ext m m' := by
 refine Fc.body (c := _) func176 rfl rfl rfl rfl hm ?_
 refine .seq (.region (.P ?_))
 refine .nil (.seq (.seq (.seq (.region (.P2 ?_)))))
 refine .nil (.seq (.cond_false rfl (.skip (.seq (.seq (.seq (.region (.P2 ?_))))))))
 refine .nil (.seq (.cond_false rfl (.skip (.seq (.seq (.seq (.region (.P2 ?_))))))))
 refine .nil (.seq (.cond_false rfl (.skip (.seq (.seq (.region (.P2 ?_)))))))
 refine .convInt rfl rfl rfl rfl underlying34 underlying5 rfl ?_
 refine .p (v := .int .u8 1) rfl rfl rfl (by kernel_rfl) ?_
 refine .convInt rfl rfl rfl rfl underlying5 underlying3 rfl (.P2 ?_)
 refine .nil (.seq (.ret ?_))
 exact .end_ rfl rfl (fun m hm => ⟨rfl, hm.ext⟩)
theorem blen_1 {m : AW} (hm : m.lo ≤ m.next) : Fc prog 156 [.int .u64 1] m fun v m' => v = .int .i64 1 ∧ Ext m m' := by
 refine Fc.body (c := _) func156 rfl rfl rfl rfl hm ?_
 refine .seq (.region (.P ?_))
 refine .nil (.seq (.seq (.cond_false rfl (.skip (.seq (.seq (.region (.P ?_))))))))
 refine .call _ rfl rfl rfl rfl rfl rfl (fun m hm => len64_1 hm.lole) ?_
 refine .P ?_
 refine .nil (.seq (.ret ?_))
 exact .end_ rfl rfl (fun m hm => ⟨rfl, hm.ext⟩)
theorem len64_2 {m : AW} (hm : m.lo ≤ m.next) : Fc prog 176 [.int .u64 2] m fun v m' => v = .int .i64 2 ∧ Ext m m' := by
 refine Fc.body (c := _) func176 rfl rfl rfl rfl hm ?_
 refine .seq (.region (.P ?_))
 refine .nil (.seq (.seq (.seq (.region (.P2 ?_)))))
 refine .nil (.seq (.cond_false rfl (.skip (.seq (.seq (.seq (.region (.P2 ?_))))))))
 refine .nil (.seq (.cond_false rfl (.skip (.seq (.seq (.seq (.region (.P2 ?_))))))))
 refine .nil (.seq (.cond_false rfl (.skip (.seq (.seq (.region (.P2 ?_)))))))
 refine .convInt rfl rfl rfl rfl underlying34 underlying5 rfl ?_
 refine .p (v := .int .u8 2) rfl rfl rfl (by kernel_rfl) ?_
 refine .convInt rfl rfl rfl rfl underlying5 underlying3 rfl (.P2 ?_)
 refine .nil (.seq (.ret ?_))
 exact .end_ rfl rfl (fun m hm => ⟨rfl, hm.ext⟩)
theorem blen_2 {m : AW} (hm : m.lo ≤ m.next) : Fc prog 156 [.int .u64 2] m fun v m' => v = .int .i64 2 ∧ Ext m m' := by
 refine Fc.body (c := _) func156 rfl rfl rfl rfl hm ?_
 refine .seq (.region (.P ?_))
 refine .nil (.seq (.seq (.cond_false rfl (.skip (.seq (.seq (.region (.P ?_))))))))
 refine .call _ rfl rfl rfl rfl rfl rfl (fun m hm => len64_2 hm.lole) ?_
 refine .P ?_
 refine .nil (.seq (.ret ?_))
 exact .end_ rfl rfl (fun m hm => ⟨rfl, hm.ext⟩)
theorem len64_3 {m : AW} (hm : m.lo ≤ m.next) : Fc prog 176 [.int .u64 3] m fun v m' => v = .int .i64 2 ∧ Ext m m' := by
 refine Fc.body (c := _) func176 rfl rfl rfl rfl hm ?_
 refine .seq (.region (.P ?_))
 refine .nil (.seq (.seq (.seq (.region (.P2 ?_)))))
 refine .nil (.seq (.cond_false rfl (.skip (.seq (.seq (.seq (.region (.P2 ?_))))))))
 refine .nil (.seq (.cond_false rfl (.skip (.seq (.seq (.seq (.region (.P2 ?_))))))))
 refine .nil (.seq (.cond_false rfl (.skip (.seq (.seq (.region (.P2 ?_)))))))
 refine .convInt rfl rfl rfl rfl underlying34 underlying5 rfl ?_
 refine .p (v := .int .u8 2) rfl rfl rfl (by kernel_rfl) ?_
 refine .convInt rfl rfl rfl rfl underlying5 underlying3 rfl (.P2 ?_)
 refine .nil (.seq (.ret ?_))
 exact .end_ rfl rfl (fun m hm => ⟨rfl, hm.ext⟩)
theorem blen_3 {m : AW} (hm : m.lo ≤ m.next) : Fc prog 156 [.int .u64 3] m fun v m' => v = .int .i64 2 ∧ Ext m m' := by
 refine Fc.body (c := _) func156 rfl rfl rfl rfl hm ?_
 refine .seq (.region (.P ?_))
 refine .nil (.seq (.seq (.cond_false rfl (.skip (.seq (.seq (.region (.P ?_))))))))
 refine .call _ rfl rfl rfl rfl rfl rfl (fun m hm => len64_3 hm.lole) ?_
 refine .P ?_
 refine .nil (.seq (.ret ?_))
 exact .end_ rfl rfl (fun m hm => ⟨rfl, hm.ext⟩)
theorem len64_4 {m : AW} (hm : m.lo ≤ m.next) : Fc prog 176 [.int .u64 4] m fun v m' => v = .int .i64 3 ∧ Ext m m' := by
 refine Fc.body (c := _) func176 rfl rfl rfl rfl hm ?_
 refine .seq (.region (.P ?_))
 refine .nil (.seq (.seq (.seq (.region (.P2 ?_)))))
 refine .nil (.seq (.cond_false rfl (.skip (.seq (.seq (.seq (.region (.P2 ?_))))))))
 refine .nil (.seq (.cond_false rfl (.skip (.seq (.seq (.seq (.region (.P2 ?_))))))))
 refine .nil (.seq (.cond_false rfl (.skip (.seq (.seq (.region (.P2 ?_)))))))
 refine .convInt rfl rfl rfl rfl underlying34 underlying5 rfl ?_
 refine .p (v := .int .u8 3) rfl rfl rfl (by kernel_rfl) ?_
 refine .convInt rfl rfl rfl rfl underlying5 underlying3 rfl (.P2 ?_)
 refine .nil (.seq (.ret ?_))
 exact .end_ rfl rfl (fun m hm => ⟨rfl, hm.ext⟩)
theorem blen_4 {m : AW} (hm : m.lo ≤ m.next) : Fc prog 156 [.int .u64 4] m fun v m' => v = .int .i64 3 ∧ Ext m m' := by
 refine Fc.body (c := _) func156 rfl rfl rfl rfl hm ?_
 refine .seq (.region (.P ?_))
 refine .nil (.seq (.seq (.cond_false rfl (.skip (.seq (.seq (.region (.P ?_))))))))
 refine .call _ rfl rfl rfl rfl rfl rfl (fun m hm => len64_4 hm.lole) ?_
 refine .P ?_
 refine .nil (.seq (.ret ?_))
 exact .end_ rfl rfl (fun m hm => ⟨rfl, hm.ext⟩)
theorem len64_5 {m : AW} (hm : m.lo ≤ m.next) : Fc prog 176 [.int .u64 5] m fun v m' => v = .int .i64 3 ∧ Ext m m' := by
 refine Fc.body (c := _) func176 rfl rfl rfl rfl hm ?_
 refine .seq (.region (.P ?_))
 refine .nil (.seq (.seq (.seq (.region (.P2 ?_)))))
 refine .nil (.seq (.cond_false rfl (.skip (.seq (.seq (.seq (.region (.P2 ?_))))))))
 refine .nil (.seq (.cond_false rfl (.skip (.seq (.seq (.seq (.region (.P2 ?_))))))))
 refine .nil (.seq (.cond_false rfl (.skip (.seq (.seq (.region (.P2 ?_)))))))
 refine .convInt rfl rfl rfl rfl underlying34 underlying5 rfl ?_
 refine .p (v := .int .u8 3) rfl rfl rfl (by kernel_rfl) ?_
 refine .convInt rfl rfl rfl rfl underlying5 underlying3 rfl (.P2 ?_)
 refine .nil (.seq (.ret ?_))
 exact .end_ rfl rfl (fun m hm => ⟨rfl, hm.ext⟩)
theorem blen_5 {m : AW} (hm : m.lo ≤ m.next) : Fc prog 156 [.int .u64 5] m fun v m' => v = .int .i64 3 ∧ Ext m m' := by
 refine Fc.body (c := _) func156 rfl rfl rfl rfl hm ?_
 refine .seq (.region (.P ?_))
 refine .nil (.seq (.seq (.cond_false rfl (.skip (.seq (.seq (.region (.P ?_))))))))
 refine .call _ rfl rfl rfl rfl rfl rfl (fun m hm => len64_5 hm.lole) ?_
 refine .P ?_
 refine .nil (.seq (.ret ?_))
 exact .end_ rfl rfl (fun m hm => ⟨rfl, hm.ext⟩)
theorem len64_6 {m : AW} (hm : m.lo ≤ m.next) : Fc prog 176 [.int .u64 6] m fun v m' => v = .int .i64 3 ∧ Ext m m' := by
 refine Fc.body (c := _) func176 rfl rfl rfl rfl hm ?_
 refine .seq (.region (.P ?_))
 refine .nil (.seq (.seq (.seq (.region (.P2 ?_)))))
 refine .nil (.seq (.cond_false rfl (.skip (.seq (.seq (.seq (.region (.P2 ?_))))))))
 refine .nil (.seq (.cond_false rfl (.skip (.seq (.seq (.seq (.region (.P2 ?_))))))))
 refine .nil (.seq (.cond_false rfl (.skip (.seq (.seq (.region (.P2 ?_)))))))
 refine .convInt rfl rfl rfl rfl underlying34 underlying5 rfl ?_
 refine .p (v := .int .u8 3) rfl rfl rfl (by kernel_rfl) ?_
 refine .convInt rfl rfl rfl rfl underlying5 underlying3 rfl (.P2 ?_)
 refine .nil (.seq (.ret ?_))
 exact .end_ rfl rfl (fun m hm => ⟨rfl, hm.ext⟩)
theorem blen_6 {m : AW} (hm : m.lo ≤ m.next) : Fc prog 156 [.int .u64 6] m fun v m' => v = .int .i64 3 ∧ Ext m m' := by
 refine Fc.body (c := _) func156 rfl rfl rfl rfl hm ?_
 refine .seq (.region (.P ?_))
 refine .nil (.seq (.seq (.cond_false rfl (.skip (.seq (.seq (.region (.P ?_))))))))
 refine .call _ rfl rfl rfl rfl rfl rfl (fun m hm => len64_6 hm.lole) ?_
 refine .P ?_
 refine .nil (.seq (.ret ?_))
 exact .end_ rfl rfl (fun m hm => ⟨rfl, hm.ext⟩)
theorem blen_ok {m : AW} (hm : m.lo ≤ m.next) : ∀ {i : Nat}, i ≤ 6 → Fc prog 156 [.int .u64 (wr .u64 (Int.ofNat i))] m fun v m' => v = .int .i64 (bitN i) ∧ Ext m m'
 | 0, _ => blen_0 hm
 | 1, _ => blen_1 hm
 | 2, _ => blen_2 hm
 | 3, _ => blen_3 hm
 | 4, _ => blen_4 hm
 | 5, _ => blen_5 hm
 | 6, _ => blen_6 hm
 | i + 7, h => absurd h (by omega)
theorem sfunc_ok {K : List Nat} {L : List Fld} {g : Gro} {cs : List Value} {vd : Value} {m : AW} (hm : m.lo ≤ m.next) (hl : ∃ a_ c_, vd = .slice a_ L.length c_) (hk : Knows K m m (g.H 132 cs)) (hV : 1 < L.length → vd = .slice (some ⟨g.blk, 0, none⟩) L.length top) (hF : Flat 2 RFld L cs) (hO : g.Ok L.length) (hn : L.length ≤ 6) (hnd : (fnames L).Nodup) : Fc prog 142 [vd, .func (.func 115) ⟨[]⟩ ⟨[]⟩] m fun v m' => ∃ (g' : Gro) (cs' : List Value), v = .tuple ⟨[]⟩ ∧ Flat 2 RFld (sortF L) cs' ∧ g'.Ok L.length ∧ g'.blk = g.blk ∧ Knows K m m' (g'.H 132 cs') := by
 obtain ⟨a_, c_, rfl⟩ := hl
 refine Fc.bodyS (S := K) (c := _) func142 rfl rfl rfl rfl (show Knows K m m (g.H 132 cs) from hk) ?_
 refine .seq (.region (.P ?_))
 refine .G (ln47 ..) ?_
 refine .P ?_
 refine .nil (.seq (.region (.P3 ?_)))
 refine .convInt rfl rfl rfl rfl underlying3 underlying149 rfl ?_
 refine .call _ rfl rfl rfl rfl rfl rfl (fun m hm => blen_ok hm.lole hn) ?_
 refine .P ?_
 refine .callc (α := Gro × List Value) (fun z => Flat 2 RFld (sortF L) z.2 ∧ z.1.Ok L.length ∧ z.1.blk = g.blk) (fun _ => .tuple ⟨[]⟩) (fun z => z.1.H 132 z.2) .all rfl rfl rfl rfl rfl rfl (fun m2 k1_ g2_ => (psort_ok k1_.lole' g2_ hV hF hO hn hnd).mono fun v m' h_ => by obtain ⟨g', cs', rfl, e1_, e2_, e3_, e4_⟩ := h_; exact ⟨(g', cs'), ⟨e1_, e2_, e3_⟩, rfl, e4_⟩) (fun z_ hz_ => ?_)
 refine .swap (h' := z_.1.H 132 z_.2) (List.Perm.of_eq (List.append_nil _)) ?_
 refine .nil ?_
 exact .end_ rfl rfl (fun m hm => ⟨z_.1, z_.2, rfl, hz_.1, hz_.2.1, hz_.2.2, hm⟩)
theorem vals1_ok {α : Type} {y : Nat} {C : List Nat} {A : Nat → α → Prop} {B : α → Prop} {H : α → Hp} {x0 : α} {D : Nat → Prop} {L : List Fld} {bt : Nat} {vf : Value} {m : AW} (hm : m.lo ≤ m.next) (hbt : MemD D m bt (.cells [vf] 47 false .plain none)) (hf : Sl (MemD D m) 2 RFld L vf) (hDC : ∀ b, D b → b ∉ C) (h0 : A 0 x0) (hk : Knows C m m (H x0)) (hst : ∀ i x v, (fvs L)[i]? = some v → A i x → ∀ m', Knows C m m' (H x) → Yc prog y v m' fun r m'' => ∃ x', Knows ((H x).map Prod.fst) m' m'' (H x') ∧ (r = .bool true ∧ A (i + 1) x' ∨ r = .bool false ∧ B x')) : Fc prog 143 [.func (.yield y) ⟨[]⟩ ⟨[]⟩, .pointer (some ⟨bt, 0, none⟩)] m fun v m' => ∃ x', Knows C m m' (H x') ∧ (A (fvs L).length x' ∨ B x') := by
 obtain ⟨af, cf, rfl, hnf, hf⟩ := hf
 refine Fc.bodyS (c := _) func143 rfl rfl rfl rfl hk ?_
 refine .seq (.region ?_)
 refine .M ag47 (.base hbt.2.2 hbt.2.1 (hDC _ hbt.1)) rfl ?_
 refine .G (ln47 ..) ?_
 refine .P ?_
 refine .nil (.seq (.block ?_))
 refine .loop (α := Nat × α) (fun q => [(0, .func (.yield y) ⟨[]⟩ ⟨[]⟩), (1, .pointer (some ⟨bt, 0, none⟩)), (5, .slice af L.length cf), (6, .int .i64 (Int.ofNat (L.length))), (7, .int .i64 (Int.ofNat (q.1)))]) (fun q => H q.2) (fun q => q.1 ≤ L.length ∧ A q.1 q.2) (fun q => L.length - q.1) (0, x0) ⟨Nat.zero_le _, h0⟩ ⟨rfl, rfl, rfl, rfl, rfl, trivial⟩ (.refl _) (fun q hq0 => ?_)
 obtain ⟨i, x⟩ := q
 obtain ⟨hi, hA⟩ := hq0
 simp only at hi hA
 refine .seq (.region (.P ?_))
 refine .nil (.seq (.seq (.cond rfl (fun ht8 => ?_) fun ht8 => ?_)))
 ·try simp only [nz] at ht8
  have hlt : i < L.length := by omega
  obtain ⟨x_, hx⟩ := gx hlt
  obtain ⟨b, off, cs, el, g, md, mate, rfl, ⟨hd, hb, hh⟩, hle, hc⟩ := so hf hlt
  have hr := hc i x_ hx
  refine .skip (.seq (.seq (.block (.seq (.region (.K underlying47 sz132 ?_))))))
  refine .A ag132 sz132 (.base hh hb (hDC _ hd)) hr ?_
  refine .alloc rfl rfl rfl rfl zr132 (fun b4 hb4 => ?_)
  refine .S sz132 ?_
  refine .nil (.seq (.seq (.region (.P ?_))))
  refine .E ag132 sz132 ?_
  refine .yieldG hst rfl rfl (fvs_get hx) hA (.tail .all) rfl rfl rfl rfl rfl rfl (fun x1 hA1 => ?_) (fun x1 hB1 => ?_)
  ·refine .P ?_
   refine .nil (.seq (.cond_false rfl (.skip (.blk (.seq (.region (.P ?_)))))))
   refine .W 15 i ?_
   refine .P ?_
   refine .nil ?_
   exact .loop (i + 1, x1) ⟨hlt, hA1⟩ (by show L.length - (i + 1) < L.length - i; omega) ⟨rfl, rfl, rfl, rfl, rfl, trivial⟩ (List.sublist_append_left _ _)
  refine .P ?_
  refine .nil (.seq (.cond_true rfl (.ret (.blk (.seq (.loop (.blk ?_)))))))
  exact .end_ rfl rfl (fun m hm => ⟨x1, hm.sub (List.sublist_append_left _ _), .inr hB1⟩)
 try simp only [nz] at ht8
 refine .exit (.seq (.loop (.here ?_)))
 exact .end_ rfl rfl (fun m hm => ⟨x, hm, .inl (by rw [fvs_len, show L.length = i by omega]; exact hA)⟩)
theorem vals_iter {D : Nat → Prop} {L : List Fld} {bt : Nat} {vf : Value} {m : AW} (hbt : MemD D m bt (.cells [vf] 47 false .plain none)) (hf : Sl (MemD D m) 2 RFld L vf) : IterG prog 143 [] [.pointer (some ⟨bt, 0, none⟩)] (fvs L) D m :=
 fun _ _ _ _ _ _ hDC h0 hk hst => vals1_ok hk.lole' hbt hf hDC h0 hk hst
theorem aseq_ok {L : List Fld} {bt : Nat} {vf : Value} {m : AW} (hm : m.lo ≤ m.next) (hbt : Mem m bt (.cells [vf] 47 false .plain none)) (hf : Sl (Mem m) 2 RFld L vf) (hn : L.length ≤ 6) : Fc prog 154 [.slice none 0 0, .func (.func 143) ⟨[]⟩ ⟨[.pointer (some ⟨bt, 0, none⟩)]⟩] m fun v m' => ∃ z : Gro × List Value, (Flat 2 RFld L z.2 ∧ z.1.Ok L.length) ∧ v = z.1.V L.length ∧ Ext m m' ∧ News m m' (z.1.H 132 z.2) := by
 refine Fc.body (c := _) func154 rfl rfl rfl rfl hm ?_
 refine .seq (.region ?_)
 refine .box rfl rfl rfl rfl rfl (fun b2 hb2 => ?_)
 refine .P ?_
 refine .nil (.seq (.seq (.seq (.region (.P ?_)))))
 refine .nil (.seq (.block ?_))
 refine .rangeFuncG (α := Gro × List Value × Nat) (vs := fvs L) (fun i x => x.2.2 = i ∧ i ≤ L.length ∧ Flat 2 RFld (L.take i) x.2.1 ∧ x.1.Ok i) (fun _ => False) (fun x => (b2, .cells [x.1.V x.2.2] 47 false .plain none) :: x.1.H 132 x.2.1) (.no, [], 0) rfl rfl ⟨rfl, Nat.zero_le _, Flat.nil, rfl⟩ (.refl _) (fun v hv => by obtain ⟨f, _, rfl⟩ := fvs_mem hv; exact ⟨rfl, rfl⟩) (fun b => b < m.next) (fun m1 hm1 => ⟨vals_iter (mem_memD hm1 _ _ hbt) (hf.mono (mem_memD hm1) fun _ _ h => h), fun b hb => ⟨Nat.lt_of_lt_of_le hb hm1.next, fun hc => absurd (List.mem_singleton.1 hc) (Nat.ne_of_lt (Nat.lt_of_lt_of_le hb hb2))⟩⟩) (fun i x v hv hA ll m1 ready busy hll hm1 => ?_) (fun x hA => ?_) (fun x hR => hR.elim)
 ·obtain ⟨f, hf1, rfl⟩ := fvs_inv hv
  obtain ⟨g_, cs_, n_⟩ := x
  obtain ⟨hA0, hAi, hAF, hAO⟩ := hA
  simp only at hA0 hAi hAF hAO
  subst hA0
  have hlt := (List.getElem?_eq_some_iff.1 hf1).1
  have hlt_ : (L.take n_).length = n_ := by rw [List.length_take]; omega
  refine .region ?_
  refine .alloc rfl rfl rfl rfl zr132 (fun b5 hb5 => ?_)
  refine .S sz132 ?_
  refine .swap (List.Perm.swap _ _ _) ?_
  refine .nil (.asg rfl (.block (.region (.L ag47 ?_))))
  refine .as 8 (g_.V (L.take n_).length) rfl (congrArg (fun n => g_.V n) hlt_.symm) ?_
  refine .E ag132 sz132 ?_
  refine .buildSlice rfl rfl rfl rfl rfl (bs47_1 ..) (fun b10 hb10 => ?_)
  refine .appendSl (R := RFld) (l0 := (L.take n_)) (l := [f]) (L := (L.take (n_ + 1))) (g := g_) (cs := cs_) (take_succ' hf1).symm (.tail (.tail (.tail (.tail .all)))) hAF (by rw [hlt_]; exact hAO) ((Sl.single (R := RFld) (x := f) (b := b10) (c := 1) (el := 132) (g := false) (md := .plain) (mate := none) rfl rfl)) (InH.sees (by intro p_ hp_; rw [List.mem_singleton.1 hp_]; exact List.mem_cons_self)) RFld.flats ((by rw [hlt_, List.length_singleton]; omega)) rfl rfl rfl rfl underlying47 underlying47 ap132 rfl rfl (fun g2 cs2 hF2 hO2 => ?_)
  refine .swap List.perm_append_comm ?_
  obtain ⟨aV, cV, hV2⟩ := Gro.len hO2
  refine .as 11 (.slice aV (L.take (n_ + 1)).length cV) rfl hV2 ?_
  refine .S sz47 ?_
  refine .nil (.blk ?_)
  exact .rnd (g2, cs2, (L.take (n_ + 1)).length) ⟨List.length_take_of_le hlt, hlt, hF2, (congrArg (fun n => Gro.Ok n g2) (List.length_take_of_le hlt)).mp hO2⟩ (by show List.Sublist ((ll, busy) :: (b2, AObj.cells [g2.V (L.take (n_ + 1)).length] 47 false .plain none) :: g2.H 132 cs2) _; rw [hV2]; exact .cons _ (.cons_cons _ (.cons _ (.refl _))))
 obtain ⟨g_, cs_, n_⟩ := x
 obtain ⟨hA0, hAi, hAF, hAO⟩ := hA
 simp only at hA0 hAi hAF hAO
 subst hA0
 rw [fvs_len] at hAF hAO
 rw [List.take_of_length_le (Nat.le_refl _)] at hAF
 refine .blk (.seq (.seq (.region (.L ag47 ?_))))
 refine .P ?_
 refine .nil (.seq (.ret ?_))
 exact .end_ rfl rfl (fun m hm => ⟨(g_, cs_), ⟨hAF, hAO⟩, congrArg (fun n => Gro.V n g_) fvs_len, hm.ext, hm.news (.cons _ (.refl _))⟩)
theorem coll_ok {L : List Fld} {bt : Nat} {vf : Value} {m : AW} (hm : m.lo ≤ m.next) (hbt : Mem m bt (.cells [vf] 47 false .plain none)) (hf : Sl (Mem m) 2 RFld L vf) (hn : L.length ≤ 6) : Fc prog 141 [.func (.func 143) ⟨[]⟩ ⟨[.pointer (some ⟨bt, 0, none⟩)]⟩] m fun v m' => ∃ z : Gro × List Value, (Flat 2 RFld L z.2 ∧ z.1.Ok L.length) ∧ v = z.1.V L.length ∧ Ext m m' ∧ News m m' (z.1.H 132 z.2) := by
 refine Fc.body (c := _) func141 rfl rfl rfl rfl hm ?_
 refine .seq (.region (.P ?_))
 refine .nil (.seq (.seq (.region (.P ?_))))
 refine .calln _ _ _ rfl rfl rfl rfl rfl rfl (fun m hm => aseq_ok hm.lole (Mem.kr hm _ _ hbt) (hf.mono (Mem.kr hm) fun _ _ h => h) hn) (fun x hx => ?_)
 obtain ⟨hz1, hz2⟩ := hx
 refine .P ?_
 refine .nil (.seq (.ret ?_))
 exact .end_ rfl rfl (fun m hm => ⟨x, ⟨hz1, hz2⟩, rfl, hm.ext, hm.news (List.sublist_append_left _ _)⟩)
theorem vals_ok {al : Option Addr} {nl : Nat} {cl : Nat} {m : AW} (hm : m.lo ≤ m.next) : Fc prog 114 [.slice al nl cl] m fun v m' => ∃ b : Nat, True ∧ v = .func (.func 143) ⟨[]⟩ ⟨[.pointer (some ⟨b, 0, none⟩)]⟩ ∧ Ext m m' ∧ News m m' [(b, .cells [.slice al nl cl] 47 false .plain none)] := by
 refine Fc.body (c := _) func114 rfl rfl rfl rfl hm ?_
 refine .seq (.region ?_)
 refine .box rfl rfl rfl rfl rfl (fun b1 hb1 => ?_)
 refine .P ?_
 refine .nil (.seq (.seq (.region ?_)))
 refine .p (v := .func (.func 143) ⟨[]⟩ ⟨[.pointer (some ⟨b1, 0, none⟩)]⟩) rfl rfl rfl rfl ?_
 refine .P ?_
 refine .nil (.seq (.ret ?_))
 exact .end_ rfl rfl (fun m hm => ⟨b1, trivial, rfl, hm.ext, hm.news (.refl _)⟩)
theorem sortedf_ok {L : List Fld} {bt : Nat} {vf : Value} {m : AW} (hm : m.lo ≤ m.next) (hbt : Mem m bt (.cells [vf] 47 false .plain none)) (hf : Sl (Mem m) 2 RFld L vf) (hn : L.length ≤ 6) (hnd : (fnames L).Nodup) : Fc prog 113 [.func (.func 143) ⟨[]⟩ ⟨[.pointer (some ⟨bt, 0, none⟩)]⟩, .func (.func 115) ⟨[]⟩ ⟨[]⟩] m fun v m' => ∃ z : Hp × Value, Sl (InH z.1) 2 RFld (sortF L) z.2 ∧ v = z.2 ∧ Ext m m' ∧ News m m' z.1 := by
 refine Fc.body (c := _) func113 rfl rfl rfl rfl hm ?_
 refine .seq (.region (.P ?_))
 refine .nil (.seq (.seq (.region (.P ?_))))
 refine .calln _ _ _ rfl rfl rfl rfl rfl rfl (fun m hm => coll_ok hm.lole (Mem.kr hm _ _ hbt) (hf.mono (Mem.kr hm) fun _ _ h => h) hn) (fun x hx => ?_)
 obtain ⟨hF0, hO0⟩ := hx
 obtain ⟨aV, cV, hV2⟩ := Gro.len hO0
 refine .swap (h' := x.1.H 132 x.2) (List.Perm.of_eq (List.append_nil _)) ?_
 refine .P ?_
 refine .nil (.seq (.seq (.region (.P2 ?_))))
 refine .callc (α := Gro × List Value) (fun z => Flat 2 RFld (sortF L) z.2 ∧ z.1.Ok L.length ∧ z.1.blk = x.1.blk) (fun _ => .tuple ⟨[]⟩) (fun z => z.1.H 132 z.2) .all rfl rfl rfl rfl rfl rfl (fun m2 k1_ g2_ => (sfunc_ok k1_.lole' ⟨aV, cV, hV2⟩ g2_ (fun h1_ => Gro.V_blk hO0 (by omega)) hF0 hO0 hn hnd).mono fun v m' h_ => by obtain ⟨g', cs', rfl, e1_, e2_, e3_, e4_⟩ := h_; exact ⟨(g', cs'), ⟨e1_, e2_, e3_⟩, rfl, e4_⟩) (fun z_ hz_ => ?_)
 refine .swap (h' := z_.1.H 132 z_.2) (List.Perm.of_eq (List.append_nil _)) ?_
 refine .nil (.seq (.seq (.region (.P2 ?_))))
 refine .nil (.seq (.ret ?_))
 exact .end_ rfl rfl (fun m hm => ⟨(z_.1.H 132 z_.2, x.1.V L.length), sl_sorted hz_.1 hO0 hz_.2.1 hz_.2.2 hn, rfl, hm.ext, hm.news (.refl _)⟩)
theorem between_ok {K : List Nat} {wx : Nat} {tv : Value} {n : Nat} {sep : ByteArray} {fn : FuncId} {cap : List Value} {y0 : WrSt} {A : Nat → WrSt → Prop} {m : AW} (hm : m.lo ≤ m.next) (hk : Knows K m m (WrH wx tv y0)) (h0 : A 0 y0) (hn : n ≤ 1000) (hA : ∀ i y, A i y → y.bg.Ok y.out.length ∧ y.out.length + sep.size ≤ 4294967296) (hst : ∀ i y bg ad o2, i < n → A i y → o2 = y.out ++ (if i = 0 then [] else sep.data.toList) → bg.Ok o2.length → ∀ m2, m2.lo ≤ m2.next → (∀ b o, Off K m b o → Off ((WrX wx tv y.sg y.S ad bg o2).map Prod.fst) m2 b o) → Knows ((WrX wx tv y.sg y.S ad bg o2).map Prod.fst) m2 m2 (WrX wx tv y.sg y.S ad bg o2) → Fc prog fn ([] ++ [.int .i64 (Int.ofNat i)] ++ cap) m2 fun v m' => ∃ y', A (i + 1) y' ∧ v = .tuple ⟨[]⟩ ∧ Knows ((WrX wx tv y.sg y.S ad bg o2).map Prod.fst) m2 m' (WrH wx tv y')) : Fc prog 138 [.pointer (some ⟨wx, 0, none⟩), .int .i64 (Int.ofNat n), .string sep, .func (.func fn) ⟨[]⟩ ⟨cap⟩] m fun v m' => ∃ y', v = .tuple ⟨[]⟩ ∧ A n y' ∧ Knows K m m' (WrH wx tv y') := by
 refine Fc.bodyS (S := K) (c := _) func138 rfl rfl rfl rfl hk ?_
 refine .seq (.region (.P2 ?_))
 refine .nil (.seq (.block ?_))
 refine .loop (α := Nat × WrSt) (fun q => [(0, .pointer (some ⟨wx, 0, none⟩)), (2, .string sep), (3, .func (.func fn) ⟨[]⟩ ⟨cap⟩), (9, .int .i64 (Int.ofNat n)), (10, .int .i64 (Int.ofNat q.1))]) (fun q => WrH wx tv q.2) (fun q => q.1 ≤ n ∧ A q.1 q.2) (fun q => n - q.1) (0, y0) ⟨Nat.zero_le _, h0⟩ ⟨rfl, rfl, rfl, rfl, rfl, trivial⟩ (.refl _) (fun q hq0 => ?_)
 obtain ⟨i, y⟩ := q
 obtain ⟨hi, hAy⟩ := hq0
 simp only at hi hAy
 refine .seq (.region (.P ?_))
 refine .nil (.seq (.seq (.cond rfl (fun ht11 => ?_) fun ht11 => ?_)))
 ·try simp only [nz] at ht11
  have hlt : i < n := by omega
  refine .skip (.seq (.seq (.block (.seq (.region (.P2 ?_))))))
  refine .nil (.seq (.seq (.seq (.region (.P2 ?_)))))
  refine .nil (.seq (.cond rfl (fun ht14 => ?_) fun ht14 => ?_))
  ·try simp only [nz] at ht14
   have hi0 : i ≠ 0 := by omega
   refine .region (.P2 ?_)
   refine .F fa113_2 ?_
   refine .P ?_
   refine .callc (α := Gro) (fun bg2 => bg2.Ok (y.out.length + sep.size)) (fun _ => .tuple ⟨[.int .i64 (Int.ofNat sep.size), .nilIface]⟩) (fun bg2 => WrX wx tv y.sg y.S true bg2 (y.out ++ sep.data.toList)) .all rfl rfl rfl rfl rfl rfl (fun m2 k1_ g2_ => (wstr_ok (sg := y.sg) (S := y.S) (bg := y.bg) (out := y.out) (ad := y.ad) k1_.lole' g2_ (hA _ _ hAy).1 (hA _ _ hAy).2)) (fun bg2 hbg2 => ?_)
   refine .swap (h' := WrX wx tv y.sg y.S true bg2 (y.out ++ sep.data.toList)) (List.Perm.of_eq (List.append_nil _)) ?_
   refine .nil (.seq (.region (.P2 ?_)))
   refine .callc (α := WrSt) (fun y' => A (i + 1) y') (fun _ => .tuple ⟨[]⟩) (fun y' => WrH wx tv y') .all rfl rfl rfl rfl rfl rfl (fun m2 k1_ g2_ => hst i y bg2 true (y.out ++ sep.data.toList) hlt hAy (by rw [if_neg hi0]) (by rw [by_len]; exact hbg2) m2 k1_.lole' (off_old k1_) g2_) (fun y1 hA1 => ?_)
   refine .swap (h' := WrH wx tv y1) (List.Perm.of_eq (List.append_nil _)) ?_
   refine .nil (.blk (.seq (.region (.P ?_))))
   refine .W 23 i ?_
   refine .P ?_
   refine .nil ?_
   exact .loop (i + 1, y1) ⟨hlt, hA1⟩ (by show n - (i + 1) < n - i; omega) ⟨rfl, rfl, rfl, rfl, rfl, trivial⟩ (.refl _)
  try simp only [nz] at ht14
  have hi0 : i = 0 := by omega
  refine .skip (.seq (.region (.P2 ?_)))
  refine .callc (α := WrSt) (fun y' => A (i + 1) y') (fun _ => .tuple ⟨[]⟩) (fun y' => WrH wx tv y') .all rfl rfl rfl rfl rfl rfl (fun m2 k1_ g2_ => hst i y y.bg y.ad y.out hlt hAy (by rw [if_pos hi0, List.append_nil]) (hA _ _ hAy).1 m2 k1_.lole' (off_old k1_) g2_) (fun y1 hA1 => ?_)
  refine .swap (h' := WrH wx tv y1) (List.Perm.of_eq (List.append_nil _)) ?_
  refine .nil (.blk (.seq (.region (.P ?_))))
  refine .W 23 i ?_
  refine .P ?_
  refine .nil ?_
  exact .loop (i + 1, y1) ⟨hlt, hA1⟩ (by show n - (i + 1) < n - i; omega) ⟨rfl, rfl, rfl, rfl, rfl, trivial⟩ (.refl _)
 try simp only [nz] at ht11
 have hie : i = n := by omega
 subst hie
 refine .exit (.seq (.loop (.here ?_)))
 exact .end_ rfl rfl (fun m hm => ⟨y, rfl, hAy, hm⟩)
theorem fields1_ok {K : List Nat} {wx b1 b2 : Nat} {tv vl : Value} {sg bg : Gro} {S : List Nat} {ad : Bool} {out : List UInt8} {L : List Fld} {i : Nat} {f : Fld} {R : WrSt → Prop} {m : AW} (hm : m.lo ≤ m.next) (hk : Knows K m m (WrX wx tv sg S ad bg out)) (hb1 : Off K m b1 (.cells [.pointer (some ⟨wx, 0, none⟩)] 107 false .plain none)) (hb2 : Off K m b2 (.cells [vl] 47 false .plain none)) (hl : Sl (Off K m) 2 RFld L vl) (hf : L[i]? = some f) (hbg : bg.Ok out.length) (hn : out.length + (f.name ++ ⟨⟨[58]⟩⟩).size ≤ 4294967296) (htx : ∀ bg2 m2, bg2.Ok (out.length + (f.name ++ ⟨⟨[58]⟩⟩).size) → m2.lo ≤ m2.next → (∀ b o, Off K m b o → Off ((WrX wx tv sg S true bg2 (out ++ (f.name ++ ⟨⟨[58]⟩⟩).data.toList)).map Prod.fst) m2 b o) → Knows ((WrX wx tv sg S true bg2 (out ++ (f.name ++ ⟨⟨[58]⟩⟩).data.toList)).map Prod.fst) m2 m2 (WrX wx tv sg S true bg2 (out ++ (f.name ++ ⟨⟨[58]⟩⟩).data.toList)) → Fc prog 66 [.pointer (some ⟨wx, 0, none⟩), .int .i64 f.type] m2 fun v m' => ∃ y', R y' ∧ v = .tuple ⟨[]⟩ ∧ Knows ((WrX wx tv sg S true bg2 (out ++ (f.name ++ ⟨⟨[58]⟩⟩).data.toList)).map Prod.fst) m2 m' (WrH wx tv y')) : Fc prog 140 [.int .i64 (Int.ofNat i), .pointer (some ⟨b1, 0, none⟩), .pointer (some ⟨b2, 0, none⟩)] m fun v m' => ∃ y', R y' ∧ v = .tuple ⟨[]⟩ ∧ Knows K m m' (WrH wx tv y') := by
 obtain ⟨al, cl, rfl, hnl, hl⟩ := hl
 have hlt := (List.getElem?_eq_some_iff.1 hf).1
 obtain ⟨b, off, cs, el, g, md, mate, rfl, ⟨hd, hb, hh⟩, hle, hc⟩ := so hl hlt
 have hr := hc i f hf
 refine Fc.bodyS (S := K) (c := _) func140 rfl rfl rfl rfl hk ?_
 refine .seq ?_
 refine .D [(3, 0), (15, 1), (15, 3), (3, 0), (15, 0), (15, 24), (15, 56), (3, 120), (15, 248), (7, 511)] (by kernel_rfl) (by kernel_rfl) (fun base hbase hB => ?_)
 refine .M ag107 (.base hb1.2.2 hb1.1 hb1.2.1) rfl ?_
 refine .P ?_
 refine .F fa113_2 ?_
 refine .M ag47 (.base hb2.2.2 hb2.1 hb2.2.1) rfl ?_
 refine .P ?_
 refine .K underlying47 sz132 ?_
 refine .F fa132_0 ?_
 refine .M ag9 (.base hh hd hb) (cell_of_take hr (k := 0) rfl) ?_
 refine .bin rfl rfl rfl rfl rfl rfl rfl (binS_cat (b := ⟨⟨[58]⟩⟩) (Nat.le_trans (Nat.le_add_left _ _) hn)) ?_
 refine .callc (fun bg2 : Gro => bg2.Ok (out.length + (f.name ++ ⟨⟨[58]⟩⟩).size)) (fun _ => .tuple ⟨[.int .i64 (Int.ofNat (f.name ++ ⟨⟨[58]⟩⟩).size), .nilIface]⟩) (fun bg2 => (WrX wx tv sg S true bg2 (out ++ (f.name ++ ⟨⟨[58]⟩⟩).data.toList))) .all rfl rfl (by kernel_rfl) (by kernel_rfl) rfl rfl rfl rfl rfl rfl (fun m2 g0 g2 gb gr => wstr_ok g0 g2 hbg hn) (fun bg2 hbg2 => ?_)
 refine .of (.nil (.seq ?_))
 refine .D [(3, 0), (3, 0), (15, 0), (15, 6), (15, 14), (3, 30), (7, 63)] (by kernel_rfl) (by kernel_rfl) (fun base hbase hB => ?_)
 refine .M ag107 (.base hb1.2.2 hb1.1 hb1.2.1) rfl ?_
 refine .M ag47 (.base hb2.2.2 hb2.1 hb2.2.1) rfl ?_
 refine .P ?_
 refine .K underlying47 sz132 ?_
 refine .F fa132_1 ?_
 refine .M ag3 (.base hh hd hb) (cell_of_take hr (k := 1) rfl) ?_
 refine .callc (fun y' : WrSt => R y') (fun _ => .tuple ⟨[]⟩) (fun y' => WrH wx tv y') .here rfl rfl (by kernel_rfl) (by kernel_rfl) rfl rfl rfl rfl rfl rfl (fun m2 g0 g2 gb gr => htx bg2 m2 hbg2 g0 gb g2) (fun y1 hy1 => ?_)
 refine .of (.nil ?_)
 exact .end_ rfl rfl (fun m hm => ⟨y1, hy1, rfl, hm.sub (List.sublist_append_left _ _)⟩)
theorem list1_ok {K : List Nat} {wx b1 b2 : Nat} {tv vl : Value} {sg bg : Gro} {S : List Nat} {ad : Bool} {out : List UInt8} {L : List Int} {i : Nat} {p : Int} {R : WrSt → Prop} {m : AW} (hm : m.lo ≤ m.next) (hk : Knows K m m (WrX wx tv sg S ad bg out)) (hb1 : Off K m b1 (.cells [.pointer (some ⟨wx, 0, none⟩)] 107 false .plain none)) (hb2 : Off K m b2 (.cells [vl] 32 false .plain none)) (hl : Sl (Off K m) 1 RInt L vl) (hf : L[i]? = some p) (htx : ∀ m2, m2.lo ≤ m2.next → (∀ b o, Off K m b o → Off ((WrX wx tv sg S ad bg out).map Prod.fst) m2 b o) → Knows ((WrX wx tv sg S ad bg out).map Prod.fst) m2 m2 (WrX wx tv sg S ad bg out) → Fc prog 66 [.pointer (some ⟨wx, 0, none⟩), .int .i64 p] m2 fun v m' => ∃ y', R y' ∧ v = .tuple ⟨[]⟩ ∧ Knows ((WrX wx tv sg S ad bg out).map Prod.fst) m2 m' (WrH wx tv y')) : Fc prog 139 [.int .i64 (Int.ofNat i), .pointer (some ⟨b1, 0, none⟩), .pointer (some ⟨b2, 0, none⟩)] m fun v m' => ∃ y', R y' ∧ v = .tuple ⟨[]⟩ ∧ Knows K m m' (WrH wx tv y') := by
 obtain ⟨al, cl, rfl, hnl, hl⟩ := hl
 have hlt := (List.getElem?_eq_some_iff.1 hf).1
 obtain ⟨b, off, cs, el, g, md, mate, rfl, ⟨hd, hb, hh⟩, hle, hc⟩ := so hl hlt
 have hr := hc i p hf
 refine Fc.bodyS (S := K) (c := _) func139 rfl rfl rfl rfl hk ?_
 refine .D [(3, 0), (3, 0), (15, 0), (15, 6), (3, 14), (7, 31)] (by kernel_rfl) (by kernel_rfl) (fun base hbase hB => ?_)
 refine .M ag107 (.base hb1.2.2 hb1.1 hb1.2.1) rfl ?_
 refine .M ag32 (.base hb2.2.2 hb2.1 hb2.2.1) rfl ?_
 refine .P ?_
 refine .K underlying32 sz3 ?_
 refine .M ag3 (.base hh hd hb) (cell_of_take hr (k := 0) rfl) ?_
 refine .callc (fun y' : WrSt => R y') (fun _ => .tuple ⟨[]⟩) (fun y' => WrH wx tv y') .all rfl rfl (by kernel_rfl) (by kernel_rfl) rfl rfl rfl rfl rfl rfl (fun m2 g0 g2 gb gr => htx m2 g0 gb g2) (fun y1 hy1 => ?_)
 refine .of (.nil ?_)
 exact .end_ rfl rfl (fun m hm => ⟨y1, hy1, rfl, hm.sub (List.sublist_append_left _ _)⟩)
/-! The writer's runs, step by step. -/
def sepL (b : Bool) (n : Nat) (c : UInt8) : List UInt8 := if b = true ∧ n = 0 then [] else [c]
theorem sepL_succ {b : Bool} {n : Nat} {c : UInt8} : sepL b (n + 1) c = [c] := by
 unfold sepL
 rw [if_neg (fun h => absurd h.2 (Nat.succ_ne_zero n))]
theorem sepL_false {n : Nat} {c : UInt8} : sepL false n c = [c] := by
 unfold sepL
 rw [if_neg (fun h => Bool.false_ne_true h.1)]
theorem els_snoc {f : List Nat → Int → TxO} {p : Int} {o2 : List UInt8} {S1 S2 : List Nat} (h2 : f S1 p = some (o2, S2)) : ∀ (L : List Int) (b : Bool) (S : List Nat) (o : List UInt8), elsF f b L S = some (o, S1) → elsF f b (L ++ [p]) S = some (o ++ (sepL b L.length 44 ++ o2), S2)
 | [], b, S, o, h => by
  cases h
  show ((f _ p).bind _) = _
  rw [h2]
  show some _ = some _
  cases b <;> simp [sepL]
 | q :: L, b, S, o, h => by
  obtain ⟨a, ha, h⟩ := bind_some h
  obtain ⟨⟨c1, c2⟩, hc, h⟩ := bind_some h
  cases h
  show ((f S q).bind _) = _
  rw [ha]
  show ((elsF f false (L ++ [p]) a.2).bind _) = _
  rw [els_snoc h2 L false _ _ hc]
  show some _ = some _
  rw [List.length_cons, sepL_succ, sepL_false]
  simp
theorem fld_snoc {f : List Nat → Int → TxO} {p : Fld} {o2 : List UInt8} {S1 S2 : List Nat} (h2 : f S1 p.type = some (o2, S2)) : ∀ (L : List Fld) (b : Bool) (S : List Nat) (o : List UInt8), fldF f b L S = some (o, S1) → fldF f b (L ++ [p]) S = some (o ++ (sepL b L.length 59 ++ (p.name.data.toList ++ 58 :: o2)), S2)
 | [], b, S, o, h => by
  cases h
  show ((f _ p.type).bind _) = _
  rw [h2]
  show some _ = some _
  cases b <;> simp [sepL]
 | q :: L, b, S, o, h => by
  obtain ⟨a, ha, h⟩ := bind_some h
  obtain ⟨⟨c1, c2⟩, hc, h⟩ := bind_some h
  cases h
  show ((f S q.type).bind _) = _
  rw [ha]
  show ((fldF f false (L ++ [p]) a.2).bind _) = _
  rw [fld_snoc h2 L false _ _ hc]
  show some _ = some _
  rw [List.length_cons, sepL_succ, sepL_false]
  simp
theorem arm_snoc {f : List Nat → Int → TxO} {p : Arm} {o2 : List UInt8} {S1 S2 : List Nat} (h2 : fldF f true p.fields S1 = some (o2, S2)) : ∀ (L : List Arm) (S : List Nat) (o : List UInt8), armF f L S = some (o, S1) → armF f (L ++ [p]) S = some (o ++ 124 :: (p.name.data.toList ++ 123 :: (o2 ++ [125])), S2)
 | [], S, o, h => by
  cases h
  show ((fldF f true p.fields _).bind _) = _
  rw [h2]
  show some _ = some _
  simp
 | q :: L, S, o, h => by
  obtain ⟨a, ha, h⟩ := bind_some h
  obtain ⟨⟨c1, c2⟩, hc, h⟩ := bind_some h
  cases h
  show ((fldF f true q.fields S).bind _) = _
  rw [ha]
  show ((armF f (L ++ [p]) a.2).bind _) = _
  rw [arm_snoc h2 L _ _ hc]
  show some _ = some _
  simp
/-- The writer's state is right: what was seen, and how long the text is. -/
structure WMem (l : List Ty) (eq : Nat → Nat → Bool) (y : WrSt) : Prop where
 okb : y.bg.Ok y.out.length
 oks : y.sg.Ok y.S.length
 few : y.S.length + unT l eq y.S ≤ l.length
 all : ∀ s, s ∈ y.S → s < l.length
/-- A run of the writer from y0 to y that adds what F says. -/
def RunP (l : List Ty) (eq : Nat → Nat → Bool) (F : Nat → List Nat → TxO) (y0 y : WrSt) : Prop := ∃ (n : Nat) (o : List UInt8), F n y0.S = some (o, y.S) ∧ y.out = y0.out ++ o ∧ WMem l eq y
abbrev ElsW (l : List Ty) (eq : Nat → Nat → Bool) (L : List Int) : Nat → List Nat → TxO := fun n => elsF (txF l eq n) true L
abbrev FldW (l : List Ty) (eq : Nat → Nat → Bool) (L : List Fld) : Nat → List Nat → TxO := fun n => fldF (txF l eq n) true L
abbrev ArmW (l : List Ty) (eq : Nat → Nat → Bool) (L : List Arm) : Nat → List Nat → TxO := fun n => armF (txF l eq n) L
abbrev TxtW (l : List Ty) (eq : Nat → Nat → Bool) (p : Int) : Nat → List Nat → TxO := fun n S => txF l eq n S p
abbrev LisW (l : List Ty) (eq : Nat → Nat → Bool) (L : List Int) : Nat → List Nat → TxO := fun n S => (elsF (txF l eq n) true L S).map fun a => (40 :: (a.1 ++ [41]), a.2)
/-- The same state with signs added. -/
def WrSt.add (y : WrSt) (ad : Bool) (bg : Gro) (s : List UInt8) : WrSt := ⟨y.sg, y.S, ad, bg, y.out ++ s⟩
theorem WMem.add {l : List Ty} {eq : Nat → Nat → Bool} {y : WrSt} (h : WMem l eq y) {ad : Bool} {bg : Gro} {s : List UInt8} (hb : bg.Ok (y.out ++ s).length) : WMem l eq (y.add ad bg s) := ⟨hb, h.oks, h.few, h.all⟩
theorem els_add {l : List Ty} {eq : Nat → Nat → Bool} {L : List Int} {i : Nat} {p : Int} (hp : L[i]? = some p) {y0 y y' : WrSt} {o2 : List UInt8} (h : RunP l eq (ElsW l eq (L.take i)) y0 y) (ho : o2 = y.out ++ (if i = 0 then [] else [44])) {ad : Bool} {bg : Gro} (k : RunP l eq (TxtW l eq p) ⟨y.sg, y.S, ad, bg, o2⟩ y') : RunP l eq (ElsW l eq (L.take (i + 1))) y0 y' := by
 obtain ⟨n, o, h1, h2, -⟩ := h
 obtain ⟨m, u, k1, k2, k3⟩ := k
 have hi := (List.getElem?_eq_some_iff.1 hp).1
 have e := els_snoc (tx_mono (Nat.le_add_left m n) _ _ _ k1) (L.take i) true _ _ (els_mono (tx_mono (Nat.le_add_right n m)) _ _ _ _ h1)
 refine ⟨n + m, _, by show elsF _ _ (L.take (i + 1)) _ = _; rw [take_succ' hp]; exact e, ?_, k3⟩
 rw [k2, ho, h2, List.length_take_of_le (Nat.le_of_lt hi), List.append_assoc, List.append_assoc]
 congr 2
 unfold sepL
 by_cases hz : i = 0
 ·rw [if_pos hz, if_pos ⟨rfl, hz⟩]
 rw [if_neg hz, if_neg (fun h => hz h.2)]
theorem fld_add {l : List Ty} {eq : Nat → Nat → Bool} {L : List Fld} {i : Nat} {p : Fld} (hp : L[i]? = some p) {y0 y y' : WrSt} {o2 : List UInt8} (h : RunP l eq (FldW l eq (L.take i)) y0 y) (ho : o2 = y.out ++ (if i = 0 then [] else [59])) {ad : Bool} {bg : Gro} (k : RunP l eq (TxtW l eq p.type) ⟨y.sg, y.S, ad, bg, o2 ++ (p.name ++ ⟨⟨[58]⟩⟩).data.toList⟩ y') : RunP l eq (FldW l eq (L.take (i + 1))) y0 y' := by
 obtain ⟨n, o, h1, h2, -⟩ := h
 obtain ⟨m, u, k1, k2, k3⟩ := k
 have hi := (List.getElem?_eq_some_iff.1 hp).1
 have e := fld_snoc (tx_mono (Nat.le_add_left m n) _ _ _ k1) (L.take i) true _ _ (fld_mono (tx_mono (Nat.le_add_right n m)) _ _ _ _ h1)
 refine ⟨n + m, _, by show fldF _ _ (L.take (i + 1)) _ = _; rw [take_succ' hp]; exact e, ?_, k3⟩
 have hs : sepL true i 59 = if i = 0 then [] else [59] := by
  unfold sepL
  by_cases hz : i = 0
  ·rw [if_pos hz, if_pos ⟨rfl, hz⟩]
  rw [if_neg hz, if_neg (fun h => hz h.2)]
 rw [k2, ho, h2, List.length_take_of_le (Nat.le_of_lt hi), hs]
 simp
theorem RunP.nil {l : List Ty} {eq : Nat → Nat → Bool} {F : Nat → List Nat → TxO} {y : WrSt} (h : F 0 y.S = some ([], y.S)) (k : WMem l eq y) : RunP l eq F y y := ⟨0, [], h, (List.append_nil _).symm, k⟩
/-- How many are seen, how long the text is. -/
theorem RunP.len {l : List Ty} {eq : Nat → Nat → Bool} {F : Nat → List Nat → TxO} {y0 y : WrSt} (h : RunP l eq F y0 y) {k : Nat} (hF : ∀ n S o S', F n S = some (o, S') → LenR S S' o k) : y.S.length ≤ l.length ∧ unT l eq y.S ≤ unT l eq y0.S ∧ ∃ d, y.S.length = y0.S.length + d ∧ y.out.length ≤ y0.out.length + k + 10000 * d := by
 obtain ⟨n, o, h1, h2, h3⟩ := h
 obtain ⟨T, h4, h5⟩ := hF _ _ _ _ h1
 refine ⟨Nat.le_trans (Nat.le_add_right _ _) h3.few, by rw [h4]; exact unT_ext, T.length, by rw [h4, List.length_append], ?_⟩
 rw [h2, List.length_append]
 omega
abbrev AllF (l : List Ty) : Prop := ∀ (i : Nat) (a : Ty), l[i]? = some a → FewT a
theorem els_lenW {l : List Ty} {eq : Nat → Nat → Bool} (hw : AllF l) {L : List Int} (n : Nat) (S : List Nat) (o : List UInt8) (S' : List Nat) (h : ElsW l eq L n S = some (o, S')) : LenR S S' o (11 * L.length) := els_len (tx_len hw n) _ _ _ _ _ h
theorem fld_lenW {l : List Ty} {eq : Nat → Nat → Bool} (hw : AllF l) {L : List Fld} (hn : ∀ x ∈ L, x.name.size ≤ 50) (n : Nat) (S : List Nat) (o : List UInt8) (S' : List Nat) (h : FldW l eq L n S = some (o, S')) : LenR S S' o (62 * L.length) := fld_len (tx_len hw n) _ _ _ _ _ hn h
theorem txt_lenW {l : List Ty} {eq : Nat → Nat → Bool} (hw : AllF l) {p : Int} (n : Nat) (S : List Nat) (o : List UInt8) (S' : List Nat) (h : TxtW l eq p n S = some (o, S')) : LenR S S' o 10 := tx_len hw n _ _ _ _ h
theorem lis_lenW {l : List Ty} {eq : Nat → Nat → Bool} (hw : AllF l) {L : List Int} (n : Nat) (S : List Nat) (o : List UInt8) (S' : List Nat) (h : LisW l eq L n S = some (o, S')) : LenR S S' o (11 * L.length + 2) := by
 obtain ⟨⟨a1, a2⟩, ha, hb⟩ := Option.map_eq_some_iff.1 h
 cases hb
 obtain ⟨T, h1, h2⟩ := els_lenW hw n _ _ _ ha
 exact ⟨T, h1, by simp only [List.length_cons, List.length_append, List.length_nil]; omega⟩
theorem arm_lenW {l : List Ty} {eq : Nat → Nat → Bool} (hw : AllF l) {L : List Arm} (hn : ∀ x ∈ L, x.name.size ≤ 50 ∧ x.fields.length ≤ 6 ∧ ∀ y ∈ x.fields, y.name.size ≤ 50) (n : Nat) (S : List Nat) (o : List UInt8) (S' : List Nat) (h : ArmW l eq L n S = some (o, S')) : LenR S S' o (430 * L.length) := arm_len (tx_len hw n) _ _ _ _ hn h
theorem rnat_seC {S : List Nat} {cs : List Value} (h : Flat 1 RNat S cs) : cs = seC S := by
 have hl := h.1
 rw [Nat.mul_one] at hl
 refine List.ext_getElem? fun i => ?_
 unfold seC
 rw [List.getElem?_map]
 cases hs : S[i]? with
 | none =>
  have := List.getElem?_eq_none_iff.1 hs
  rw [List.getElem?_eq_none (by omega)]
  rfl
 | some s =>
  have k := h.2 i s hs
  unfold RNat at k
  rw [Nat.mul_one] at k
  have := congrArg (·[0]?) k
  simpa using this
theorem seC_flat {S : List Nat} : Flat 1 RNat S (seC S) := by
 refine ⟨by unfold seC; rw [List.length_map, Nat.mul_one], fun i x hx => ?_⟩
 unfold seC RNat
 rw [Nat.mul_one]
 have hi := (List.getElem?_eq_some_iff.1 hx)
 refine List.ext_getElem? fun k => ?_
 cases k with
 | zero => simp [hx]
 | succ k => simp; omega
/-! What a text's contract says, and the rounds over elements and fields. -/
def TxtC (l : List Ty) (eq : Nat → Nat → Bool) (tv : Value) (wx u : Nat) : Prop := ∀ (p : Nat) (y : WrSt) (m : AW), p < l.length → unT l eq y.S ≤ u → WMem l eq y → y.out.length ≤ 10000 * y.S.length → m.lo ≤ m.next → Knows ((WrH wx tv y).map Prod.fst) m m (WrH wx tv y) → TabL l tv ((WrH wx tv y).map Prod.fst) m →
 Fc prog 66 [.pointer (some ⟨wx, 0, none⟩), .int .i64 (Int.ofNat p)] m fun v m' => ∃ y', RunP l eq (TxtW l eq (Int.ofNat p)) y y' ∧ v = .tuple ⟨[]⟩ ∧ Knows ((WrH wx tv y).map Prod.fst) m m' (WrH wx tv y')
theorem tab_mono {l : List Ty} {tv : Value} {S T : List Nat} {m m2 : AW} (h : TabL l tv S m) (k : ∀ b o, Off S m b o → Off T m2 b o) : TabL l tv T m2 := Sl.mono h k (RTy.mono k)
/-- Text's contract is used where a state has got signs. -/
theorem txt_use {l : List Ty} {eq : Nat → Nat → Bool} {tv : Value} {wx u p : Nat} (ih : TxtC l eq tv wx u) {y : WrSt} (hp : p < l.length) (hu : unT l eq y.S ≤ u) (hW : WMem l eq y) {ad : Bool} {bg : Gro} {out : List UInt8} (hb : bg.Ok out.length) (hroom : out.length ≤ 10000 * y.S.length) {m : AW} (hm : m.lo ≤ m.next) (hk : Knows ((WrX wx tv y.sg y.S ad bg out).map Prod.fst) m m (WrX wx tv y.sg y.S ad bg out)) (hl : TabL l tv ((WrX wx tv y.sg y.S ad bg out).map Prod.fst) m) :
  Fc prog 66 [.pointer (some ⟨wx, 0, none⟩), .int .i64 (Int.ofNat p)] m fun v m' => ∃ y', RunP l eq (TxtW l eq (Int.ofNat p)) ⟨y.sg, y.S, ad, bg, out⟩ y' ∧ v = .tuple ⟨[]⟩ ∧ Knows ((WrX wx tv y.sg y.S ad bg out).map Prod.fst) m m' (WrH wx tv y') :=
 ih p ⟨y.sg, y.S, ad, bg, out⟩ m hp hu ⟨hb, hW.oks, hW.few, hW.all⟩ hroom hm hk hl
theorem RunP.mem {l : List Ty} {eq : Nat → Nat → Bool} {F : Nat → List Nat → TxO} {y0 y : WrSt} (h : RunP l eq F y0 y) : WMem l eq y := by
 obtain ⟨_, _, _, _, h⟩ := h
 exact h
theorem fld_round {l : List Ty} {eq : Nat → Nat → Bool} {tv vl : Value} {wx u b1 b2 : Nat} {y0 : WrSt} {L : List Fld} {K : List Nat} {m : AW} (hwl : AllF l) (hn50 : ∀ x ∈ L, x.name.size ≤ 50) (hL6 : L.length ≤ 6) (hn14 : l.length ≤ 14) (hroom : y0.out.length + 1000 ≤ 10000 * y0.S.length) (hu : unT l eq y0.S ≤ u) (ih : TxtC l eq tv wx u)
  (hb1 : Off K m b1 (.cells [.pointer (some ⟨wx, 0, none⟩)] 107 false .plain none)) (hb2 : Off K m b2 (.cells [vl] 47 false .plain none)) (hl : Sl (Off K m) 2 RFld L vl) (hlS : TabL l tv K m) (hin : ∀ p ∈ L, ∃ q : Nat, q < l.length ∧ p.type = Int.ofNat q) :
  ∀ i y bg ad o2, i < L.length → RunP l eq (FldW l eq (L.take i)) y0 y → o2 = y.out ++ (if i = 0 then [] else (⟨⟨[59]⟩⟩ : ByteArray).data.toList) → bg.Ok o2.length → ∀ m2, m2.lo ≤ m2.next → (∀ b o, Off K m b o → Off ((WrX wx tv y.sg y.S ad bg o2).map Prod.fst) m2 b o) → Knows ((WrX wx tv y.sg y.S ad bg o2).map Prod.fst) m2 m2 (WrX wx tv y.sg y.S ad bg o2) →
  Fc prog 140 ([] ++ [.int .i64 (Int.ofNat i)] ++ [.pointer (some ⟨b1, 0, none⟩), .pointer (some ⟨b2, 0, none⟩)]) m2 fun v m' => ∃ y', RunP l eq (FldW l eq (L.take (i + 1))) y0 y' ∧ v = .tuple ⟨[]⟩ ∧ Knows ((WrX wx tv y.sg y.S ad bg o2).map Prod.fst) m2 m' (WrH wx tv y') := by
 intro i y bg ad o2 hi hA ho hb m2 hm2 hoff hk2
 obtain ⟨f, hf⟩ : ∃ f, L[i]? = some f := ⟨_, List.getElem?_eq_getElem hi⟩
 obtain ⟨q, hq, hqe⟩ := hin f (List.mem_of_getElem? hf)
 obtain ⟨k1, k2, d, k3, k4⟩ := hA.len (k := 62 * 6) fun n S o S' h => (fld_lenW hwl (fun x hx => hn50 x (List.mem_of_mem_take hx)) n S o S' h).le (by rw [List.length_take]; omega)
 have h50 := hn50 f (List.mem_of_getElem? hf)
 have hs : (f.name ++ (⟨⟨[58]⟩⟩ : ByteArray)).size ≤ 51 := by rw [ByteArray.size_append]; show f.name.size + 1 ≤ 51; omega
 have hol : o2.length ≤ y.out.length + 1 := by
  rw [ho, List.length_append]
  split <;> simp
 have hrm : o2.length + 51 ≤ 10000 * y.S.length := by omega
 refine fields1_ok hm2 hk2 (hoff _ _ hb1) (hoff _ _ hb2) (hl.mono hoff fun _ _ h => h) hf hb (by omega) fun bg2 m3 hbg2 hm3 hoff3 hk3 => ?_
 rw [hqe]
 refine (txt_use ih hq (Nat.le_trans k2 hu) hA.mem (by rw [by_len]; exact hbg2) (by rw [by_len]; omega) hm3 hk3 (tab_mono hlS fun b o h => hoff3 b o (hoff b o h))).mono fun v m' ⟨y', h1, h2, h3⟩ => ⟨y', fld_add hf hA ho (ad := true) (bg := bg2) ?_, h2, h3⟩
 rw [hqe]
 exact h1
theorem lst_round {l : List Ty} {eq : Nat → Nat → Bool} {tv vl : Value} {wx u b1 b2 : Nat} {y0 : WrSt} {L : List Int} {K : List Nat} {m : AW} (hwl : AllF l) (hL6 : L.length ≤ 6) (hn14 : l.length ≤ 14) (hroom : y0.out.length + 900 ≤ 10000 * y0.S.length) (hu : unT l eq y0.S ≤ u) (ih : TxtC l eq tv wx u)
  (hb1 : Off K m b1 (.cells [.pointer (some ⟨wx, 0, none⟩)] 107 false .plain none)) (hb2 : Off K m b2 (.cells [vl] 32 false .plain none)) (hl : Sl (Off K m) 1 RInt L vl) (hlS : TabL l tv K m) (hin : ∀ p ∈ L, ∃ q : Nat, q < l.length ∧ p = Int.ofNat q) :
  ∀ i y bg ad o2, i < L.length → RunP l eq (ElsW l eq (L.take i)) y0 y → o2 = y.out ++ (if i = 0 then [] else (⟨⟨[44]⟩⟩ : ByteArray).data.toList) → bg.Ok o2.length → ∀ m2, m2.lo ≤ m2.next → (∀ b o, Off K m b o → Off ((WrX wx tv y.sg y.S ad bg o2).map Prod.fst) m2 b o) → Knows ((WrX wx tv y.sg y.S ad bg o2).map Prod.fst) m2 m2 (WrX wx tv y.sg y.S ad bg o2) →
  Fc prog 139 ([] ++ [.int .i64 (Int.ofNat i)] ++ [.pointer (some ⟨b1, 0, none⟩), .pointer (some ⟨b2, 0, none⟩)]) m2 fun v m' => ∃ y', RunP l eq (ElsW l eq (L.take (i + 1))) y0 y' ∧ v = .tuple ⟨[]⟩ ∧ Knows ((WrX wx tv y.sg y.S ad bg o2).map Prod.fst) m2 m' (WrH wx tv y') := by
 intro i y bg ad o2 hi hA ho hb m2 hm2 hoff hk2
 obtain ⟨f, hf⟩ : ∃ f, L[i]? = some f := ⟨_, List.getElem?_eq_getElem hi⟩
 obtain ⟨q, hq, hqe⟩ := hin f (List.mem_of_getElem? hf)
 obtain ⟨k1, k2, d, k3, k4⟩ := hA.len (k := 11 * 6) fun n S o S' h => (els_lenW hwl n S o S' h).le (by rw [List.length_take]; omega)
 have hol : o2.length ≤ y.out.length + 1 := by
  rw [ho, List.length_append]
  split <;> simp
 refine list1_ok hm2 hk2 (hoff _ _ hb1) (hoff _ _ hb2) (hl.mono hoff fun _ _ h => h) hf fun m3 hm3 hoff3 hk3 => ?_
 rw [hqe]
 refine (txt_use ih hq (Nat.le_trans k2 hu) hA.mem hb (by omega) hm3 hk3 (tab_mono hlS fun b o h => hoff3 b o (hoff b o h))).mono fun v m' ⟨y', h1, h2, h3⟩ => ⟨y', els_add hf hA ho (ad := ad) (bg := bg) ?_, h2, h3⟩
 rw [hqe]
 exact h1
theorem fld_inv {l : List Ty} {eq : Nat → Nat → Bool} (hwl : AllF l) {L : List Fld} (hn50 : ∀ x ∈ L, x.name.size ≤ 50) (hL6 : L.length ≤ 6) (hn14 : l.length ≤ 14) {y0 : WrSt} (hroom : y0.out.length + 1000 ≤ 10000 * y0.S.length) {s : ByteArray} (hs : s.size ≤ 100) : ∀ i y, RunP l eq (FldW l eq (L.take i)) y0 y → y.bg.Ok y.out.length ∧ y.out.length + s.size ≤ 4294967296 := by
 intro i y hA
 obtain ⟨k1, k2, d, k3, k4⟩ := hA.len (k := 62 * 6) fun n S o S' h => (fld_lenW hwl (fun x hx => hn50 x (List.mem_of_mem_take hx)) n S o S' h).le (by rw [List.length_take]; omega)
 exact ⟨hA.mem.okb, by omega⟩
theorem els_inv {l : List Ty} {eq : Nat → Nat → Bool} (hwl : AllF l) {L : List Int} (hL6 : L.length ≤ 6) (hn14 : l.length ≤ 14) {y0 : WrSt} (hroom : y0.out.length + 900 ≤ 10000 * y0.S.length) {s : ByteArray} (hs : s.size ≤ 100) : ∀ i y, RunP l eq (ElsW l eq (L.take i)) y0 y → y.bg.Ok y.out.length ∧ y.out.length + s.size ≤ 4294967296 := by
 intro i y hA
 obtain ⟨k1, k2, d, k3, k4⟩ := hA.len (k := 11 * 6) fun n S o S' h => (els_lenW hwl n S o S' h).le (by rw [List.length_take]; omega)
 exact ⟨hA.mem.okb, by omega⟩
theorem lis_fin {l : List Ty} {eq : Nat → Nat → Bool} {L : List Int} {y0 y : WrSt} {ad ad2 : Bool} {bg bg2 : Gro} (h : RunP l eq (ElsW l eq L) (y0.add ad bg [40]) y) (hb : bg2.Ok (y.out ++ [41]).length) : RunP l eq (LisW l eq L) y0 (y.add ad2 bg2 [41]) := by
 obtain ⟨n, o, h1, h2, h3⟩ := h
 refine ⟨n, 40 :: (o ++ [41]), ?_, ?_, h3.add hb⟩
 ·show ((elsF _ true L y0.S).map _) = _
  rw [show elsF (txF l eq n) true L y0.S = some (o, y.S) from h1]
  rfl
 show y.out ++ [41] = y0.out ++ _
 rw [h2]
 show (y0.out ++ [40]) ++ o ++ [41] = _
 simp
theorem fields_ok {K : List Nat} {l : List Ty} {eq : Nat → Nat → Bool} {wx u : Nat} {tv vl : Value} {y0 : WrSt} {L : List Fld} {m : AW} (hm : m.lo ≤ m.next) (hk : Knows K m m (WrH wx tv y0)) (hW : WMem l eq y0) (hwl : AllF l) (hn14 : l.length ≤ 14) (hL6 : L.length ≤ 6) (hroom : y0.out.length + 1000 ≤ 10000 * y0.S.length) (hu : unT l eq y0.S ≤ u) (ih : TxtC l eq tv wx u) (hlS : TabL l tv K m) (hn50 : ∀ x ∈ L, x.name.size ≤ 50) (hl : Sl (Off K m) 2 RFld L vl) (hin : ∀ p ∈ L, ∃ q : Nat, q < l.length ∧ p.type = Int.ofNat q) : Fc prog 112 [.pointer (some ⟨wx, 0, none⟩), vl] m fun v m' => ∃ y', RunP l eq (FldW l eq L) y0 y' ∧ v = .tuple ⟨[]⟩ ∧ Knows K m m' (WrH wx tv y') := by
 have hl0 := hl
 obtain ⟨aL, cL, rfl, -, -⟩ := hl0
 refine Fc.bodyS (S := K) (c := _) func112 rfl rfl rfl rfl hk ?_
 refine .seq (.region ?_)
 refine .box rfl rfl rfl rfl rfl (fun b2 hb2 => ?_)
 refine .box rfl rfl rfl rfl rfl (fun b3 hb3 => ?_)
 refine .nil (.seq (.region (.L ag107 ?_)))
 refine .L ag47 ?_
 refine .G (ln47 ..) ?_
 refine .p (v := .func (.func 140) ⟨[]⟩ ⟨[.pointer (some ⟨b2, 0, none⟩), .pointer (some ⟨b3, 0, none⟩)]⟩) rfl rfl rfl rfl ?_
 refine .callc (α := WrSt) (fun y' => RunP l eq (FldW l eq (L.take L.length)) y0 y') (fun _ => .tuple ⟨[]⟩) (fun y' => WrH wx tv y') (.tail (.tail .all)) rfl rfl rfl rfl rfl rfl (fun m2 k1_ g2_ => (between_ok (n := L.length) (fn := 140) (cap := [.pointer (some ⟨b2, 0, none⟩), .pointer (some ⟨b3, 0, none⟩)]) (y0 := y0) (A := (fun i y => RunP l eq (FldW l eq (L.take i)) y0 y)) k1_.lole' g2_ (RunP.nil rfl hW) (by omega) (fld_inv hwl hn50 hL6 hn14 hroom (by decide)) (fld_round hwl hn50 hL6 hn14 hroom hu ih (Off.known k1_ (.tail _ (.head _))) (Off.known k1_ (.head _)) (hl.mono (off_old k1_) fun _ _ h => h) (tab_mono hlS (off_old k1_)) hin)).mono fun v m' ⟨y', e1_, e2_, e3_⟩ => ⟨y', e2_, e1_, e3_⟩) (fun y1 hy1 => ?_)
 refine .nil ?_
 exact .end_ rfl rfl (fun m hm => ⟨y1, by rw [List.take_length] at hy1; exact hy1, rfl, hm.sub (List.sublist_append_left _ _)⟩)
theorem list_ok {K : List Nat} {l : List Ty} {eq : Nat → Nat → Bool} {wx u : Nat} {tv vl : Value} {y0 : WrSt} {L : List Int} {m : AW} (hm : m.lo ≤ m.next) (hk : Knows K m m (WrH wx tv y0)) (hW : WMem l eq y0) (hwl : AllF l) (hn14 : l.length ≤ 14) (hL6 : L.length ≤ 6) (hroom : y0.out.length + 1000 ≤ 10000 * y0.S.length) (hu : unT l eq y0.S ≤ u) (ih : TxtC l eq tv wx u) (hlS : TabL l tv K m) (hl : Sl (Off K m) 1 RInt L vl) (hin : ∀ p ∈ L, ∃ q : Nat, q < l.length ∧ p = Int.ofNat q) : Fc prog 111 [.pointer (some ⟨wx, 0, none⟩), vl] m fun v m' => ∃ y', RunP l eq (LisW l eq L) y0 y' ∧ v = .tuple ⟨[]⟩ ∧ Knows K m m' (WrH wx tv y') := by
 have hl0 := hl
 obtain ⟨aL, cL, rfl, -, -⟩ := hl0
 have hSl := Nat.le_trans (Nat.le_add_right _ _) hW.few
 refine Fc.bodyS (S := K) (c := _) func111 rfl rfl rfl rfl hk ?_
 refine .seq (.region ?_)
 refine .box rfl rfl rfl rfl rfl (fun b2 hb2 => ?_)
 refine .box rfl rfl rfl rfl rfl (fun b3 hb3 => ?_)
 refine .nil (.seq (.seq (.region (.L ag107 ?_))))
 refine .P ?_
 refine .F fa113_2 ?_
 refine .callc (α := Gro) (fun bg2 => bg2.Ok (y0.out.length + 1)) (fun _ => .tuple ⟨[.int .i64 1, .nilIface]⟩) (fun bg2 => WrH wx tv (y0.add true bg2 [40])) (.tail (.tail .all)) rfl rfl rfl rfl rfl rfl (fun m2 k1_ g2_ => wstr_ok (s := ⟨⟨[40]⟩⟩) k1_.lole' g2_ hW.okb (by show _ + 1 ≤ _; omega)) (fun bgA hbgA => ?_)
 refine .nil (.seq (.seq (.region (.L ag107 ?_))))
 refine .L ag32 ?_
 refine .G (ln32 ..) ?_
 refine .p (v := .func (.func 139) ⟨[]⟩ ⟨[.pointer (some ⟨b2, 0, none⟩), .pointer (some ⟨b3, 0, none⟩)]⟩) rfl rfl rfl rfl ?_
 have hWA : WMem l eq (y0.add true bgA [40]) := hW.add (by rw [List.length_append]; exact hbgA)
 refine .callc (α := WrSt) (fun y' => RunP l eq (ElsW l eq (L.take L.length)) (y0.add true bgA [40]) y') (fun _ => .tuple ⟨[]⟩) (fun y' => WrH wx tv y') .here rfl rfl rfl rfl rfl rfl (fun m2 k1_ g2_ => (between_ok (n := L.length) (fn := 139) (cap := [.pointer (some ⟨b2, 0, none⟩), .pointer (some ⟨b3, 0, none⟩)]) (y0 := (y0.add true bgA [40])) (A := (fun i y => RunP l eq (ElsW l eq (L.take i)) (y0.add true bgA [40]) y)) k1_.lole' g2_ (RunP.nil rfl hWA) (by omega) (els_inv hwl hL6 hn14 (by show (y0.out ++ [40]).length + 900 ≤ 10000 * y0.S.length; rw [List.length_append, List.length_singleton]; omega) (by decide)) (lst_round hwl hL6 hn14 (by show (y0.out ++ [40]).length + 900 ≤ 10000 * y0.S.length; rw [List.length_append, List.length_singleton]; omega) hu ih (Off.known k1_ (.tail _ (.head _))) (Off.known k1_ (.head _)) (hl.mono (off_old k1_) fun _ _ h => h) (tab_mono hlS (off_old k1_)) hin)).mono fun v m' ⟨y', e1_, e2_, e3_⟩ => ⟨y', e2_, e1_, e3_⟩) (fun y1 hy1 => ?_)
 rw [List.take_length] at hy1
 obtain ⟨k1_, k2_, d_, k3_, k4_⟩ := hy1.len (k := 11 * 6) fun n S o S' h => (els_lenW hwl n S o S' h).le (by omega)
 have k5_ : (y0.add true bgA [40]).out.length = y0.out.length + 1 := List.length_append
 have k6_ : (y0.add true bgA [40]).S.length = y0.S.length := rfl
 refine .nil (.seq (.region (.L ag107 ?_)))
 refine .P ?_
 refine .F fa113_2 ?_
 refine .callc (α := Gro) (fun bg2 => bg2.Ok (y1.out.length + 1)) (fun _ => .tuple ⟨[.int .i64 1, .nilIface]⟩) (fun bg2 => WrH wx tv (y1.add true bg2 [41])) .here rfl rfl rfl rfl rfl rfl (fun m2 k1_ g2_ => wstr_ok (s := ⟨⟨[41]⟩⟩) k1_.lole' g2_ hy1.mem.okb (by show _ + 1 ≤ _; omega)) (fun bgB hbgB => ?_)
 refine .nil ?_
 exact .end_ rfl rfl (fun m hm => ⟨_, lis_fin hy1 (by rw [List.length_append]; exact hbgB), rfl, hm.sub (List.sublist_append_left _ _)⟩)
/-! A text's run. -/
def plB (k : Int) : Bool := (plN k).isSome
def plS (k : Int) : ByteArray := ⟨⟨(plN k).getD []⟩⟩
theorem plV_eq (k : Int) : plV k = .tuple ⟨[.string (plS k), .bool (plB k)]⟩ := by
 unfold plV plS plB
 cases plN k <;> rfl
theorem plB_some {k : Int} (h : plB k = true) : plN k = some (plS k).data.toList := by
 unfold plB at h
 unfold plS
 cases hp : plN k with
 | none => rw [hp] at h; cases h
 | some s => rfl
theorem plB_none {k : Int} (h : plB k = false) : plN k = none := by
 unfold plB at h
 cases hp : plN k with
 | none => rfl
 | some s => rw [hp] at h; cases h
theorem plS_len {k : Int} : (plS k).size ≤ 6 := by
 unfold plS
 cases hp : plN k with
 | none => exact Nat.zero_le _
 | some s => rcases pl_cases hp with ⟨-, rfl⟩ | ⟨-, rfl⟩ | ⟨-, rfl⟩ | ⟨-, rfl⟩ | ⟨-, rfl⟩ | ⟨-, rfl⟩ | ⟨-, rfl⟩ <;> decide
theorem fst_at {p : Nat → Bool} : ∀ {S : List Nat} {i c : Nat}, (∀ j, j < i → ∀ k, S[j]? = some k → p k = false) → S[i]? = some c → p c = true → fstI p S = some i
 | [], i, c, _, h, _ => by simp at h
 | s :: S, 0, c, _, h, hc => by
  simp only [List.getElem?_cons_zero, Option.some.injEq] at h
  subst h
  unfold fstI
  rw [if_pos hc]
 | s :: S, i + 1, c, hn, h, hc => by
  have h0 := hn 0 (Nat.succ_pos _) s rfl
  unfold fstI
  rw [if_neg (by rw [h0]; exact Bool.false_ne_true), fst_at (i := i) (fun j hj k hk => hn (j + 1) (Nat.succ_lt_succ hj) k (by simpa using hk)) (by simpa using h) hc]
  rfl
theorem fst_no {p : Nat → Bool} : ∀ {S : List Nat}, (∀ (j k : Nat), S[j]? = some k → p k = false) → fstI p S = none
 | [], _ => rfl
 | s :: S, hn => by
  have h0 := hn 0 s rfl
  unfold fstI
  rw [if_neg (by rw [h0]; exact Bool.false_ne_true), fst_no fun j k hk => hn (j + 1) k (by simpa using hk)]
  rfl
theorem ba_app (a b : ByteArray) : (a ++ b).data.toList = a.data.toList ++ b.data.toList := by simp
/-- A class is seen. -/
def WrSt.push (y : WrSt) (g : Gro) (a : Nat) : WrSt := ⟨g, y.S ++ [a], y.ad, y.bg, y.out⟩
theorem WMem.push {l : List Ty} {eq : Nat → Nat → Bool} {y : WrSt} (h : WMem l eq y) (hr : ∀ a, eq a a = true) {a : Nat} (ha : a < l.length) (hn : fstI (fun s => eq s a) y.S = none) {g : Gro} (hg : g.Ok (y.S ++ [a]).length) : WMem l eq (y.push g a) := by
 have := unT_push hr ha hn
 have := h.few
 refine ⟨h.okb, hg, ?_, fun s hs => ?_⟩
 ·show (y.S ++ [a]).length + unT l eq (y.S ++ [a]) ≤ l.length
  rw [List.length_append, List.length_singleton]
  omega
 rcases List.mem_append.1 hs with hs | hs
 ·exact h.all s hs
 rw [List.mem_singleton.1 hs]; exact ha
section
variable {l : List Ty} {eq : Nat → Nat → Bool} {y y1 y2 y3 : WrSt} {a : Nat} {x : Ty}
theorem txt_plain (hx : l[a]? = some x) (hp : plB x.kind = true) (hW : WMem l eq y) {ad : Bool} {bg : Gro} (hb : bg.Ok (y.out ++ (plS x.kind).data.toList).length) : RunP l eq (TxtW l eq (Int.ofNat a)) y (y.add ad bg (plS x.kind).data.toList) := by
 refine ⟨1, (plS x.kind).data.toList, ?_, rfl, hW.add hb⟩
 show txF l eq 1 y.S (.ofNat a) = _
 unfold txF
 simp only [hx, plB_some hp]
 rfl
theorem txt_seen (hx : l[a]? = some x) (hp : plB x.kind = false) {i : Nat} (hi : fstI (fun s => eq s a) y.S = some i) (hi2 : i < 100) (hW : WMem l eq y) {ad : Bool} {bg : Gro} {s : ByteArray} (hs : s.data.toList = 35 :: decN i) (hb : bg.Ok (y.out ++ s.data.toList).length) : RunP l eq (TxtW l eq (Int.ofNat a)) y (y.add ad bg s.data.toList) := by
 refine ⟨1, 35 :: decN i, ?_, by rw [← hs]; rfl, hW.add hb⟩
 show txF l eq 1 y.S (.ofNat a) = _
 unfold txF
 simp only [hx, plB_none hp, hi, if_pos hi2]
 rfl
theorem txt_body (hx : l[a]? = some x) (hp : plB x.kind = false) (hn : fstI (fun s => eq s a) y.S = none) {n : Nat} {o : List UInt8} (h : bodyF (txF l eq n) x (y.S ++ [a]) = some (o, y1.S)) (ho : y1.out = y.out ++ o) (hW : WMem l eq y1) : RunP l eq (TxtW l eq (Int.ofNat a)) y y1 := by
 refine ⟨n + 1, o, ?_, ho, hW⟩
 show txF l eq (n + 1) y.S (.ofNat a) = _
 unfold txF
 simp only [hx, plB_none hp, hn]
 exact h
theorem txt_lis (hx : l[a]? = some x) (hp : plB x.kind = false) (hn : fstI (fun s => eq s a) y.S = none) {hd : List UInt8} (hS : y1.S = y.S ++ [a]) (ho : y1.out = y.out ++ hd) (k10 : x.kind ≠ 10) (k12 : x.kind ≠ 12) (k13 : x.kind ≠ 13) (hh : hdB x = hd ++ [40]) (h : RunP l eq (LisW l eq x.elems) y1 y2) : RunP l eq (TxtW l eq (Int.ofNat a)) y y2 := by
 obtain ⟨n, o, h1, h2, h3⟩ := h
 obtain ⟨⟨o1, S1⟩, e1, e2⟩ := Option.map_eq_some_iff.1 h1
 simp only [Prod.mk.injEq] at e2
 obtain ⟨rfl, e2⟩ := e2
 rw [hS] at e1
 refine txt_body hx hp hn (n := n) (o := hdB x ++ (o1 ++ [41])) ?_ ?_ h3
 ·unfold bodyF
  rw [if_neg k12, if_neg k13, if_neg k10, show elsF (txF l eq n) true x.elems (y.S ++ [a]) = _ from e1, ← e2]
  rfl
 rw [h2, ho, hh]
 simp
theorem txt_fn (hx : l[a]? = some x) (hp : plB x.kind = false) (hn : fstI (fun s => eq s a) y.S = none) (hS : y1.S = y.S ++ [a]) (ho : y1.out = y.out ++ [102, 110]) (k12 : x.kind = 12) (h : RunP l eq (LisW l eq x.elems.dropLast) y1 y2) {ad : Bool} {bg : Gro} {q : Nat} (hq : x.elems.getLast?.getD 0 = Int.ofNat q) (k : RunP l eq (TxtW l eq (Int.ofNat q)) (y2.add ad bg [58]) y3) : RunP l eq (TxtW l eq (Int.ofNat a)) y y3 := by
 obtain ⟨n, o, h1, h2, -⟩ := h
 obtain ⟨m, u, k1, k2, k3⟩ := k
 obtain ⟨⟨o1, S1⟩, e1, e2⟩ := Option.map_eq_some_iff.1 h1
 simp only [Prod.mk.injEq] at e2
 obtain ⟨rfl, e2⟩ := e2
 subst e2
 rw [hS] at e1
 refine txt_body hx hp hn (n := n + m) (o := hdB x ++ (o1 ++ 41 :: 58 :: u)) ?_ ?_ k3
 ·unfold bodyF
  rw [if_pos k12, els_mono (tx_mono (Nat.le_add_right n m)) _ _ _ _ e1, hq]
  show ((txF l eq (n + m) y2.S (Int.ofNat q)).bind _) = _
  rw [show txF l eq (n + m) y2.S (Int.ofNat q) = _ from tx_mono (Nat.le_add_left m n) _ _ _ k1]
  rfl
 rw [k2]
 show (y2.out ++ [58]) ++ u = _
 rw [h2, ho, show hdB x = [102, 110, 40] by unfold hdB; simp [k12]]
 simp
theorem txt_mod (hx : l[a]? = some x) (hp : plB x.kind = false) (hn : fstI (fun s => eq s a) y.S = none) (hS : y1.S = y.S ++ [a]) (ho : y1.out = y.out ++ [109, 111, 100, 117, 108, 101, 123]) (k13 : x.kind = 13) (h : RunP l eq (FldW l eq (sortF x.fields)) y1 y2) {ad : Bool} {bg : Gro} (hb : bg.Ok (y2.out ++ [125]).length) : RunP l eq (TxtW l eq (Int.ofNat a)) y (y2.add ad bg [125]) := by
 obtain ⟨n, o, h1, h2, h3⟩ := h
 rw [hS] at h1
 refine txt_body hx hp hn (n := n) (o := hdB x ++ (o ++ [125])) ?_ ?_ (h3.add hb)
 ·unfold bodyF
  rw [if_neg (by omega), if_pos k13, show fldF (txF l eq n) true (sortF x.fields) (y.S ++ [a]) = _ from h1]
  rfl
 show y2.out ++ [125] = _
 rw [h2, ho, show hdB x = [109, 111, 100, 117, 108, 101, 123] by unfold hdB; simp [k13]]
 simp
theorem txt_adt (hx : l[a]? = some x) (hp : plB x.kind = false) (hn : fstI (fun s => eq s a) y.S = none) (hS : y1.S = y.S ++ [a]) (ho : y1.out = y.out ++ [97, 100, 116, 123]) (k10 : x.kind = 10) (h : RunP l eq (FldW l eq x.fields) y1 y2) (k : RunP l eq (ArmW l eq x.arms) y2 y3) {ad : Bool} {bg : Gro} (hb : bg.Ok (y3.out ++ [125]).length) : RunP l eq (TxtW l eq (Int.ofNat a)) y (y3.add ad bg [125]) := by
 obtain ⟨n, o, h1, h2, -⟩ := h
 obtain ⟨m, u, k1, k2, k3⟩ := k
 rw [hS] at h1
 refine txt_body hx hp hn (n := n + m) (o := hdB x ++ (o ++ (u ++ [125]))) ?_ ?_ (k3.add hb)
 ·unfold bodyF
  rw [if_neg (by omega), if_neg (by omega), if_pos k10, fld_mono (tx_mono (Nat.le_add_right n m)) _ _ _ _ h1]
  show ((armF (txF l eq (n + m)) x.arms y2.S).bind _) = _
  rw [arm_mono (tx_mono (Nat.le_add_left m n)) _ _ _ k1]
  rfl
 show y3.out ++ [125] = _
 rw [k2, h2, ho, show hdB x = [97, 100, 116, 123] by unfold hdB; simp [k10]]
 simp
theorem arm_add {L : List Arm} {i : Nat} {p : Arm} (hp : L[i]? = some p) (h : RunP l eq (ArmW l eq (L.take i)) y y1) {ad ad2 : Bool} {bg bg2 : Gro} (k : RunP l eq (FldW l eq p.fields) (y1.add ad bg ((⟨⟨[124]⟩⟩ : ByteArray) ++ p.name ++ ⟨⟨[123]⟩⟩).data.toList) y2) (hb : bg2.Ok (y2.out ++ [125]).length) : RunP l eq (ArmW l eq (L.take (i + 1))) y (y2.add ad2 bg2 [125]) := by
 obtain ⟨n, o, h1, h2, -⟩ := h
 obtain ⟨m, u, k1, k2, k3⟩ := k
 have e := arm_snoc (p := p) (fld_mono (tx_mono (Nat.le_add_left m n)) _ _ _ _ k1) (L.take i) _ _ (arm_mono (tx_mono (Nat.le_add_right n m)) _ _ _ h1)
 refine ⟨n + m, _, by show armF _ (L.take (i + 1)) _ = _; rw [take_succ' hp]; exact e, ?_, k3.add hb⟩
 show y2.out ++ [125] = _
 rw [k2]
 show (y1.out ++ _) ++ u ++ [125] = _
 rw [h2, ba_app, ba_app]
 simp
theorem hd6 (h : x.kind = 6) : hdB x = [97, 114, 114, 97, 121] ++ [40] := by unfold hdB; simp [h]
theorem hd7 (h : x.kind = 7) : hdB x = [108, 105, 115, 116] ++ [40] := by unfold hdB; simp [h]
theorem hd8 (h : x.kind = 8) : hdB x = [99, 104, 97, 110] ++ [40] := by unfold hdB; simp [h]
theorem hd11 (h : x.kind = 11) : hdB x = [] ++ [40] := by unfold hdB; simp [h]
theorem hd9 (hk : x.kind = 9) (hn : x.name.size = 0) : hdB x = [114, 101, 102] ++ [40] := by
 have h0 : x.name.data.toList = [] := List.length_eq_zero_iff.1 (by simpa using hn)
 unfold hdB
 simp [hk, h0]
theorem hd9n (hk : x.kind = 9) (hn : x.name.size ≠ 0) : hdB x = ([114, 101, 102] ++ ((⟨⟨[46]⟩⟩ : ByteArray) ++ x.name).data.toList) ++ [40] := by
 have h0 : x.name.data.toList ≠ [] := fun h => hn (by have := congrArg List.length h; simpa using this)
 unfold hdB
 rw [ba_app]
 simp only [hk]
 simp [h0]
end
theorem few_flds {x : Ty} (h : FewT x) : ∀ y ∈ x.fields, y.name.size ≤ 50 := fun y hy => by
 obtain ⟨j, hj⟩ := List.getElem?_of_mem hy
 exact h.fname j y hj
theorem few_arms {x : Ty} (hx : FewT x) : ∀ y ∈ x.arms, y.name.size ≤ 50 ∧ y.fields.length ≤ 6 ∧ ∀ z ∈ y.fields, z.name.size ≤ 50 := fun y hy => by
 obtain ⟨j, hj⟩ := List.getElem?_of_mem hy
 refine ⟨hx.aname j y hj, hx.afields j y hj, fun z hz => ?_⟩
 obtain ⟨i, hi⟩ := List.getElem?_of_mem hz
 exact hx.afname j y hj i z hi
theorem in_part {n : Nat} {x : Ty} (hb : badB n x = false) {p : Int} (hp : p ∈ partsL x) : ∃ q : Nat, q < n ∧ p = Int.ofNat q := by
 obtain ⟨j, hj⟩ := List.getElem?_of_mem hp
 obtain ⟨q, h1, h2⟩ := parts_in hb hj
 exact ⟨q, h2, h1⟩
theorem wr_permS {α : Type} {p B w : α} {A R : List α} : (A ++ (p :: B :: w :: R)).Perm (p :: ((w :: (A ++ R)) ++ [B])) := by
 refine List.perm_middle.trans (.cons _ (List.perm_middle.trans ((List.Perm.cons _ List.perm_middle).trans ?_)))
 exact List.perm_append_comm (l₁ := [B])
theorem fn_last {x : Ty} {n q : Nat} (hn : x.elems.length = n + 1) (h : x.elems[n]? = some (Int.ofNat q)) : x.elems.getLast?.getD 0 = Int.ofNat q := by
 rw [List.getLast?_eq_getElem?, hn, Nat.add_sub_cancel, h]
 rfl
theorem text_step {l : List Ty} {eq : Nat → Nat → Bool} {al : Option Addr} {cl wx u a : Nat} {y0 : WrSt} {m : AW} (hm : m.lo ≤ m.next) (hk : Knows ((WrH wx (.slice al l.length cl) y0).map Prod.fst) m m (WrH wx (.slice al l.length cl) y0)) (hW : WMem l eq y0) (hlt : a < l.length) (hroom : y0.out.length ≤ 10000 * y0.S.length) (hu : unT l eq y0.S ≤ u) (hlS : TabL l (.slice al l.length cl) ((WrH wx (.slice al l.length cl) y0).map Prod.fst) m) (hWl : Well l) (he : ∀ a b, eq a b = true ↔ EqT l a b) (hwl : AllF l) (hn14 : l.length ≤ 14) (ih : ∀ u2, u2 < u → TxtC l eq (.slice al l.length cl) wx u2) : Fc prog 66 [.pointer (some ⟨wx, 0, none⟩), .int .i64 (Int.ofNat (a))] m fun v m' => ∃ y', RunP l eq (TxtW l eq (Int.ofNat a)) y0 y' ∧ v = .tuple ⟨[]⟩ ∧ Knows ((WrH wx (.slice al l.length cl) y0).map Prod.fst) m m' (WrH wx (.slice al l.length cl) y') := by
 have hlS0 := hlS
 obtain ⟨sg, S, ad, bg, out⟩ := y0
 simp only at hroom hu
 obtain ⟨x_, hx_⟩ := gx hlt
 obtain ⟨b, off, cs, el, g, md, mate, hal, ⟨hb, hh⟩, hle, hc⟩ := sl_open hlS (by omega)
 have hrX := hc a x_ hx_
 obtain ⟨veX, vfX, vaX, hrX, heX, hfX, hgX⟩ := hrX
 obtain ⟨aeX, ceX, rfl, hneX, heX⟩ := heX
 have hfSX := hfX
 obtain ⟨afX, cfX, rfl, hnfX, hfX⟩ := hfX
 obtain ⟨aaX, caX, rfl, hnaX, hgX⟩ := hgX
 have hr : ∀ a, eq a a = true := fun a => (he a a).2 (EqT.refl l a)
 have hfw := hwl a x_ hx_
 have hT := txT_of (hWl.all a x_ hx_)
 have hbd := hWl.sound a x_ hx_
 have hfew : S.length + unT l eq S ≤ l.length := hW.few
 obtain ⟨ga, gc, hV, hnG, hGs⟩ := Gro.sl (R := RNat) (el := 3) (cs := seC S) seC_flat hW.oks (by show S.length ≤ _; omega)
 have hn4 := hT.lo
 have hn5 := hT.hi
 have h6e := hfw.elems
 have h6f := hfw.fields
 have h6a := hfw.arms
 refine Fc.bodyS (S := (WrH wx (.slice al l.length cl) ⟨sg, S, ad, bg, out⟩).map Prod.fst) (c := _) func66 rfl rfl rfl rfl (show Knows _ m m (WrX wx (.slice al l.length cl) sg S ad bg out) from hk) ?_
 refine .seq (.region (.P2 ?_))
 refine .F fa113_0 ?_
 refine .L ag22 ?_
 refine .as 15 (.slice (some ⟨b, off, none⟩) l.length cl) rfl (congrArg (Value.slice · l.length cl) hal) ?_
 refine .P ?_
 refine .indexAddr rfl rfl rfl rfl underlying22 sz50 rfl rfl (hlt) ?_
 refine .A ag50 sz50 (Off.sees rfl rfl _ _ ⟨hb, hh⟩) hrX ?_
 refine .alloc rfl rfl rfl rfl zr50 (fun b4 hb4 => ?_)
 refine .S sz50 ?_
 refine .nil (.seq (.seq (.seq (.region (.F fa50_0 ?_)))))
 refine .L ag3 ?_
 refine .call _ rfl rfl rfl rfl rfl rfl (fun m hm => plain_ok hm.lole) ?_
 refine .as 22 (.tuple ⟨[.string (plS x_.kind), .bool (plB x_.kind)]⟩) rfl (plV_eq _) ?_
 iterate 5 refine .P ?_
 refine .nil (.seq (.seq (.region (.P ?_))))
 refine .nil (.seq (.cond rfl (fun ht25 => ?_) fun ht25 => ?_))
 ·refine .seq (.region (.P2 ?_))
  refine .F fa113_2 ?_
  refine .P ?_
  refine .callc (α := Gro) (fun bg2 : Gro => bg2.Ok ((⟨sg, S, ad, bg, out⟩ : WrSt).out.length + ((plS x_.kind) : ByteArray).size)) (fun _ => .tuple ⟨[.int .i64 (Int.ofNat ((plS x_.kind) : ByteArray).size), .nilIface]⟩) (fun bg2 => WrH wx (.slice al l.length cl) ((⟨sg, S, ad, bg, out⟩ : WrSt).add true bg2 ((plS x_.kind) : ByteArray).data.toList)) (.tail .all) rfl rfl rfl rfl rfl rfl (fun m2 k1_ g2_ => wstr_ok (s := (plS x_.kind)) k1_.lole' g2_ hW.okb (by have := plS_len (k := x_.kind); show out.length + _ ≤ _; omega)) (fun bgA hbgA => ?_)
  rw [← by_len] at hbgA
  refine .nil (.seq (.ret (.seq ?_)))
  exact .end_ rfl rfl (fun m hm => ⟨_, txt_plain hx_ ht25 hW hbgA, rfl, hm.sub (List.sublist_append_left _ _)⟩)
 refine .skip (.seq (.seq (.seq (.region (.P2 ?_)))))
 refine .F fa113_1 ?_
 refine .L ag32 ?_
 refine .as 34 (.slice ga S.length gc) rfl hV ?_
 refine .G (ln32 ..) ?_
 refine .P ?_
 refine .nil (.seq (.block ?_))
 refine .loop (α := Nat) (fun i => [(0, .pointer (some ⟨wx, 0, none⟩)), (1, .int .i64 (Int.ofNat a)), (4, .pointer (some ⟨b4, 0, none⟩)), (34, .slice ga S.length gc), (35, .int .i64 (Int.ofNat S.length)), (36, .int .i64 (Int.ofNat i))]) (fun i => (b4, .cells [.int .i64 x_.kind, .slice aeX x_.elems.length ceX, .string x_.name, .slice afX x_.fields.length cfX, .slice aaX x_.arms.length caX] 50 false .plain none) :: WrX wx (.slice al l.length cl) sg S ad bg out) (fun i => i ≤ S.length ∧ ∀ (j : Nat), j < i → ∀ k, S[j]? = some k → eq k a = false) (fun i => S.length - i) 0 ⟨Nat.zero_le _, fun _ h => absurd h (Nat.not_lt_zero _)⟩ ⟨rfl, rfl, rfl, rfl, rfl, rfl, trivial⟩ (.refl _) (fun i hi => ?_)
 refine .seq (.region (.P ?_))
 refine .nil (.seq (.seq (.cond rfl (fun ht37 => ?_) fun ht37 => ?_)))
 ·(try simp only [nz] at ht37); try simp only [nq] at ht37
  obtain ⟨k0, hk0⟩ : ∃ w_, S[i]? = some w_ := ⟨_, List.getElem?_eq_getElem (by omega)⟩
  rcases hGs with ⟨e0, -⟩ | ⟨bG, offG, csG, elG, gG, mdG, mateG, rfl, hbG, hleG, hcG⟩
  ·rw [e0] at hk0; simp at hk0
  have hrG := hcG i k0 hk0
  refine .skip (.seq (.seq (.block (.seq (.region (.P ?_))))))
  refine .K underlying32 sz3 ?_
  refine .M ag3 (InH.sees (l := sg.H 3 (seC S)) (fun p_ hp_ => List.mem_cons_of_mem _ (List.mem_cons_of_mem _ (List.mem_append_left _ hp_))) _ _ hbG) (cell_of_take hrG (k := 0) rfl) ?_
  refine .P2 ?_
  refine .nil (.seq (.seq (.region (.P2 ?_))))
  refine .F fa113_0 ?_
  refine .L ag22 ?_
  refine .P2 ?_
  refine .calln _ _ _ rfl rfl rfl rfl rfl rfl (fun m hm => equal_ok (a := k0) (b_ := a) hm.lole (hlS0.mono (fun b_ o_ h_ => Off.mem b_ o_ (Off.kr hm b_ o_ h_)) (RTy.mono (fun b_ o_ h_ => Off.mem b_ o_ (Off.kr hm b_ o_ h_)))) hWl (hW.all k0 (List.mem_of_getElem? hk0)) hlt) (fun z hz => ?_)
  refine .nil (.seq (.cond rfl (fun ht47 => ?_) fun ht47 => ?_))
  ·have hE : eq k0 a = true := (he _ _).2 (hz.1 ht47)
   have hds : ((⟨⟨[35]⟩⟩ : ByteArray) ++ ⟨⟨decN i⟩⟩).size ≤ 3 := by rw [ByteArray.size_append]; exact Nat.add_le_add (Nat.le_refl 1) (dec_len (i := i))
   have hdn := Nat.le_trans hds (show 3 ≤ 4294967296 by decide)
   have hst : fstI (fun s => eq s a) S = some i := fst_at hi.2 hk0 hE
   refine .seq ?_
   refine .D [(13, 0), (13, 1), (13, 3), (15, 0), (7, 8), (15, 24), (7, 63)] (by kernel_rfl) (by kernel_rfl) (fun base hbase hB => ?_)
   iterate 2 refine .P ?_
   refine .F fa113_2 ?_
   refine .P ?_
   refine .call _ rfl rfl rfl rfl rfl rfl rfl rfl rfl (fun m hm => itoa_ok hm.lole (by omega)) ?_
   refine .as 52 (.string ⟨⟨decN i⟩⟩) rfl rfl ?_
   refine .bin rfl rfl rfl rfl rfl rfl rfl (binS_cat (a := ⟨⟨[35]⟩⟩) hdn) ?_
   refine .callc (fun bg2 : Gro => bg2.Ok ((⟨sg, S, ad, bg, out⟩ : WrSt).out.length + (((⟨⟨[35]⟩⟩ : ByteArray) ++ (⟨⟨decN i⟩⟩ : ByteArray)) : ByteArray).size)) (fun _ => .tuple ⟨[.int .i64 (Int.ofNat (((⟨⟨[35]⟩⟩ : ByteArray) ++ (⟨⟨decN i⟩⟩ : ByteArray)) : ByteArray).size), .nilIface]⟩) (fun bg2 => WrH wx (.slice al l.length cl) ((⟨sg, S, ad, bg, out⟩ : WrSt).add true bg2 (((⟨⟨[35]⟩⟩ : ByteArray) ++ (⟨⟨decN i⟩⟩ : ByteArray)) : ByteArray).data.toList)) (.tail .all) rfl rfl (by kernel_rfl) (by kernel_rfl) rfl rfl rfl rfl rfl rfl (fun m2 g0 k2_ gb gr => wstr_ok (s := ((⟨⟨[35]⟩⟩ : ByteArray) ++ (⟨⟨decN i⟩⟩ : ByteArray))) g0 k2_ hW.okb (by show out.length + _ ≤ _; omega)) (fun bgA hbgA => ?_)
   rw [← by_len] at hbgA
   refine .of (.nil (.seq (.ret (.blk (.seq (.loop (.blk (.seq ?_))))))))
   exact .end_ rfl rfl (fun m hm => ⟨_, txt_seen hx_ ht25 hst (by omega) hW (by rw [ba_app]; rfl) hbgA, rfl, hm.sub (List.sublist_append_left _ _)⟩)
  have hE : eq k0 a = false := by cases hb_ : eq k0 a with | false => rfl | true => (have h_ := hz.2 ((he _ _).1 hb_); rw [h_] at ht47; cases ht47)
  refine .skip (.blk (.seq (.region (.P ?_))))
  refine .W 55 i ?_
  refine .P ?_
  refine .nil ?_
  exact .loop (i + 1) ⟨by omega, fun j hj k hk_ => by by_cases e : j = i; (subst e; rw [hk0] at hk_; cases hk_; exact hE); exact hi.2 j (by omega) k hk_⟩ (by omega) ⟨rfl, rfl, rfl, rfl, rfl, rfl, trivial⟩ (.refl _)
 (try simp only [nz] at ht37); try simp only [nq] at ht37
 have hno : fstI (fun s => eq s a) S = none := fst_no fun j k hk => hi.2 j (by have := (List.getElem?_eq_some_iff.1 hk).1; omega) k hk
 refine .exit (.seq (.loop (.here (.seq (.seq (.region (.P3 ?_)))))))
 refine .F fa113_1 ?_
 refine .L ag32 ?_
 refine .P ?_
 refine .buildSlice rfl rfl rfl rfl rfl (bs32_1 ..) (fun b62 hb62 => ?_)
 refine .appendSl (R := RNat) (l0 := S) (l := [a]) (L := (S ++ [a])) (g := sg) (cs := (seC S)) rfl (.tail (.tail (.tail .here))) seC_flat hW.oks (Sl.single (R := RNat) (x := a) (b := b62) (c := 1) (el := 3) (g := false) (md := .plain) (mate := none) rfl rfl) ((InH.sees (by intro p_ hp_; rw [List.mem_singleton.1 hp_]; exact List.mem_cons_self))) RNat.flats (by simp; omega) rfl rfl rfl rfl underlying32 underlying32 ap3 rfl rfl (fun g1 cs1 hF1 hO1 => ?_)
 obtain rfl := rnat_seC hF1
 obtain ⟨ga1, gc1, hV1⟩ := Gro.len hO1
 refine .as 63 (.slice ga1 (S ++ [a]).length gc1) rfl hV1 ?_
 refine .P ?_
 refine .F fa113_1 ?_
 refine .store rfl rfl rfl rfl rfl sz32 rfl (Upd.app (.tail (.tail .head))) rfl ?_
 refine .swap (h' := (b62, .cells [.int .i64 (Int.ofNat a)] 3 false .plain none) :: (WrH wx (.slice al l.length cl) (WrSt.push ⟨sg, S, ad, bg, out⟩ g1 a) ++ [(b4, .cells [.int .i64 x_.kind, .slice aeX x_.elems.length ceX, .string x_.name, .slice afX x_.fields.length cfX, .slice aaX x_.arms.length caX] 50 false .plain none)])) (by unfold WrH WrX WrSt.push; simp only; rw [hV1]; exact wr_permS) ?_
 refine .drop (h' := WrH wx (.slice al l.length cl) (WrSt.push ⟨sg, S, ad, bg, out⟩ g1 a) ++ [(b4, .cells [.int .i64 x_.kind, .slice aeX x_.elems.length ceX, .string x_.name, .slice afX x_.fields.length cfX, .slice aaX x_.arms.length caX] 50 false .plain none)]) (.cons _ (.refl _)) ?_
 have hWp : WMem l eq (WrSt.push ⟨sg, S, ad, bg, out⟩ g1 a) := hW.push hr hlt hno hO1
 have hlt2 : unT l eq (S ++ [a]) < u := Nat.lt_of_lt_of_le (unT_push hr hlt hno) hu
 have ihp := ih _ hlt2
 refine .nil (.seq (.seq (.region (.F fa50_0 ?_))))
 refine .M ag3 (.app .head) rfl ?_
 refine .nil (.seq (.block (.seq (.region (.P2 ?_)))))
 refine .nil (.seq (.cond rfl (fun ht104 => ?_) fun ht104 => ?_))
 ·(try simp only [nz] at ht104); try simp only [nq] at ht104
  refine .seq (.region (.P2 ?_))
  refine .F fa113_2 ?_
  refine .callc (α := Gro) (fun bg2 : Gro => bg2.Ok ((WrSt.push ⟨sg, S, ad, bg, out⟩ g1 a).out.length + (⟨⟨[97, 114, 114, 97, 121]⟩⟩ : ByteArray).size)) (fun _ => .tuple ⟨[.int .i64 (Int.ofNat (⟨⟨[97, 114, 114, 97, 121]⟩⟩ : ByteArray).size), .nilIface]⟩) (fun bg2 => WrH wx (.slice al l.length cl) ((WrSt.push ⟨sg, S, ad, bg, out⟩ g1 a).add true bg2 (⟨⟨[97, 114, 114, 97, 121]⟩⟩ : ByteArray).data.toList)) .here rfl rfl rfl rfl rfl rfl (fun m2 k1_ g2_ => wstr_ok (s := ⟨⟨[97, 114, 114, 97, 121]⟩⟩) k1_.lole' g2_ hWp.okb (by show out.length + 5 ≤ _; omega)) (fun bgA hbgA => ?_)
  rw [← by_len] at hbgA
  refine .nil (.seq (.region (.P ?_)))
  refine .F fa50_1 ?_
  refine .M ag32 (.app .head) rfl ?_
  have hWA := (hWp.add (ad := true) hbgA)
  refine .callc (α := WrSt) (fun y' => RunP l eq (LisW l eq x_.elems) ((WrSt.push ⟨sg, S, ad, bg, out⟩ g1 a).add true bgA (⟨⟨[97, 114, 114, 97, 121]⟩⟩ : ByteArray).data.toList) y') (fun _ => .tuple ⟨[]⟩) (fun y' => WrH wx (.slice al l.length cl) y') .here rfl rfl rfl rfl rfl rfl (fun m2 k1_ g2_ => list_ok (y0 := ((WrSt.push ⟨sg, S, ad, bg, out⟩ g1 a).add true bgA (⟨⟨[97, 114, 114, 97, 121]⟩⟩ : ByteArray).data.toList)) (L := x_.elems) k1_.lole' g2_ hWA hwl hn14 hfw.elems (by show (out ++ _).length + 1000 ≤ 10000 * (S ++ [a]).length; rw [List.length_append, List.length_append]; show out.length + 5 + 1000 ≤ 10000 * (S.length + 1); omega) (Nat.le_refl (unT l eq (S ++ [a]))) ihp (tab_mono hlS0 (off_old k1_)) (Sl.mono (show Sl _ 1 RInt x_.elems (.slice aeX x_.elems.length ceX) from ⟨aeX, ceX, rfl, hneX, heX⟩) (off_old k1_) fun _ _ h => h) (fun p hp => in_part hbd (parts_elems hp))) (fun y1 hy1 => ?_)
  refine .nil (.blk ?_)
  exact .end_ rfl rfl (fun m hm => ⟨_, txt_lis hx_ ht25 hno rfl rfl (by omega) (by omega) (by omega) (hd6 (by omega)) hy1, rfl, hm.sub (List.sublist_append_left _ _)⟩)
 (try simp only [nz] at ht104); try simp only [nq] at ht104
 refine .seq (.region (.P2 ?_))
 refine .nil (.seq (.cond rfl (fun ht114 => ?_) fun ht114 => ?_))
 ·(try simp only [nz] at ht114); try simp only [nq] at ht114
  refine .seq (.region (.P2 ?_))
  refine .F fa113_2 ?_
  refine .callc (α := Gro) (fun bg2 : Gro => bg2.Ok ((WrSt.push ⟨sg, S, ad, bg, out⟩ g1 a).out.length + (⟨⟨[108, 105, 115, 116]⟩⟩ : ByteArray).size)) (fun _ => .tuple ⟨[.int .i64 (Int.ofNat (⟨⟨[108, 105, 115, 116]⟩⟩ : ByteArray).size), .nilIface]⟩) (fun bg2 => WrH wx (.slice al l.length cl) ((WrSt.push ⟨sg, S, ad, bg, out⟩ g1 a).add true bg2 (⟨⟨[108, 105, 115, 116]⟩⟩ : ByteArray).data.toList)) .here rfl rfl rfl rfl rfl rfl (fun m2 k1_ g2_ => wstr_ok (s := ⟨⟨[108, 105, 115, 116]⟩⟩) k1_.lole' g2_ hWp.okb (by show out.length + 4 ≤ _; omega)) (fun bgA hbgA => ?_)
  rw [← by_len] at hbgA
  refine .nil (.seq (.region (.P ?_)))
  refine .F fa50_1 ?_
  refine .M ag32 (.app .head) rfl ?_
  have hWA := (hWp.add (ad := true) hbgA)
  refine .callc (α := WrSt) (fun y' => RunP l eq (LisW l eq x_.elems) ((WrSt.push ⟨sg, S, ad, bg, out⟩ g1 a).add true bgA (⟨⟨[108, 105, 115, 116]⟩⟩ : ByteArray).data.toList) y') (fun _ => .tuple ⟨[]⟩) (fun y' => WrH wx (.slice al l.length cl) y') .here rfl rfl rfl rfl rfl rfl (fun m2 k1_ g2_ => list_ok (y0 := ((WrSt.push ⟨sg, S, ad, bg, out⟩ g1 a).add true bgA (⟨⟨[108, 105, 115, 116]⟩⟩ : ByteArray).data.toList)) (L := x_.elems) k1_.lole' g2_ hWA hwl hn14 hfw.elems (by show (out ++ _).length + 1000 ≤ 10000 * (S ++ [a]).length; rw [List.length_append, List.length_append]; show out.length + 4 + 1000 ≤ 10000 * (S.length + 1); omega) (Nat.le_refl (unT l eq (S ++ [a]))) ihp (tab_mono hlS0 (off_old k1_)) (Sl.mono (show Sl _ 1 RInt x_.elems (.slice aeX x_.elems.length ceX) from ⟨aeX, ceX, rfl, hneX, heX⟩) (off_old k1_) fun _ _ h => h) (fun p hp => in_part hbd (parts_elems hp))) (fun y1 hy1 => ?_)
  refine .nil (.blk ?_)
  exact .end_ rfl rfl (fun m hm => ⟨_, txt_lis hx_ ht25 hno rfl rfl (by omega) (by omega) (by omega) (hd7 (by omega)) hy1, rfl, hm.sub (List.sublist_append_left _ _)⟩)
 (try simp only [nz] at ht114); try simp only [nq] at ht114
 refine .seq (.region (.P2 ?_))
 refine .nil (.seq (.cond rfl (fun ht124 => ?_) fun ht124 => ?_))
 ·(try simp only [nz] at ht124); try simp only [nq] at ht124
  refine .seq (.region (.P2 ?_))
  refine .F fa113_2 ?_
  refine .callc (α := Gro) (fun bg2 : Gro => bg2.Ok ((WrSt.push ⟨sg, S, ad, bg, out⟩ g1 a).out.length + (⟨⟨[99, 104, 97, 110]⟩⟩ : ByteArray).size)) (fun _ => .tuple ⟨[.int .i64 (Int.ofNat (⟨⟨[99, 104, 97, 110]⟩⟩ : ByteArray).size), .nilIface]⟩) (fun bg2 => WrH wx (.slice al l.length cl) ((WrSt.push ⟨sg, S, ad, bg, out⟩ g1 a).add true bg2 (⟨⟨[99, 104, 97, 110]⟩⟩ : ByteArray).data.toList)) .here rfl rfl rfl rfl rfl rfl (fun m2 k1_ g2_ => wstr_ok (s := ⟨⟨[99, 104, 97, 110]⟩⟩) k1_.lole' g2_ hWp.okb (by show out.length + 4 ≤ _; omega)) (fun bgA hbgA => ?_)
  rw [← by_len] at hbgA
  refine .nil (.seq (.region (.P ?_)))
  refine .F fa50_1 ?_
  refine .M ag32 (.app .head) rfl ?_
  have hWA := (hWp.add (ad := true) hbgA)
  refine .callc (α := WrSt) (fun y' => RunP l eq (LisW l eq x_.elems) ((WrSt.push ⟨sg, S, ad, bg, out⟩ g1 a).add true bgA (⟨⟨[99, 104, 97, 110]⟩⟩ : ByteArray).data.toList) y') (fun _ => .tuple ⟨[]⟩) (fun y' => WrH wx (.slice al l.length cl) y') .here rfl rfl rfl rfl rfl rfl (fun m2 k1_ g2_ => list_ok (y0 := ((WrSt.push ⟨sg, S, ad, bg, out⟩ g1 a).add true bgA (⟨⟨[99, 104, 97, 110]⟩⟩ : ByteArray).data.toList)) (L := x_.elems) k1_.lole' g2_ hWA hwl hn14 hfw.elems (by show (out ++ _).length + 1000 ≤ 10000 * (S ++ [a]).length; rw [List.length_append, List.length_append]; show out.length + 4 + 1000 ≤ 10000 * (S.length + 1); omega) (Nat.le_refl (unT l eq (S ++ [a]))) ihp (tab_mono hlS0 (off_old k1_)) (Sl.mono (show Sl _ 1 RInt x_.elems (.slice aeX x_.elems.length ceX) from ⟨aeX, ceX, rfl, hneX, heX⟩) (off_old k1_) fun _ _ h => h) (fun p hp => in_part hbd (parts_elems hp))) (fun y1 hy1 => ?_)
  refine .nil (.blk ?_)
  exact .end_ rfl rfl (fun m hm => ⟨_, txt_lis hx_ ht25 hno rfl rfl (by omega) (by omega) (by omega) (hd8 (by omega)) hy1, rfl, hm.sub (List.sublist_append_left _ _)⟩)
 (try simp only [nz] at ht124); try simp only [nq] at ht124
 refine .seq (.region (.P2 ?_))
 refine .nil (.seq (.cond rfl (fun ht134 => ?_) fun ht134 => ?_))
 ·(try simp only [nz] at ht134); try simp only [nq] at ht134
  refine .seq (.region (.P2 ?_))
  refine .F fa113_2 ?_
  refine .callc (α := Gro) (fun bg2 : Gro => bg2.Ok ((WrSt.push ⟨sg, S, ad, bg, out⟩ g1 a).out.length + (⟨⟨[114, 101, 102]⟩⟩ : ByteArray).size)) (fun _ => .tuple ⟨[.int .i64 (Int.ofNat (⟨⟨[114, 101, 102]⟩⟩ : ByteArray).size), .nilIface]⟩) (fun bg2 => WrH wx (.slice al l.length cl) ((WrSt.push ⟨sg, S, ad, bg, out⟩ g1 a).add true bg2 (⟨⟨[114, 101, 102]⟩⟩ : ByteArray).data.toList)) .here rfl rfl rfl rfl rfl rfl (fun m2 k1_ g2_ => wstr_ok (s := ⟨⟨[114, 101, 102]⟩⟩) k1_.lole' g2_ hWp.okb (by show out.length + 3 ≤ _; omega)) (fun bgA hbgA => ?_)
  rw [← by_len] at hbgA
  refine .nil (.seq (.seq (.seq (.region (.F fa50_2 ?_)))))
  refine .M ag9 (.app .head) rfl ?_
  refine .P ?_
  refine .nil (.seq (.cond rfl (fun ht142 => ?_) fun ht142 => ?_))
  ·(try simp only [nz] at ht142); try simp only [nq] at ht142
   have hds : ((⟨⟨[46]⟩⟩ : ByteArray) ++ (x_.name : ByteArray)).size ≤ 51 := by rw [ByteArray.size_append]; exact Nat.add_le_add (Nat.le_refl 1) hfw.name
   have hdn := Nat.le_trans hds (show 51 ≤ 4294967296 by decide)
   refine .D [(15, 0), (15, 1), (15, 3), (15, 0), (3, 8), (15, 24), (7, 63)] (by kernel_rfl) (by kernel_rfl) (fun base hbase hB => ?_)
   iterate 2 refine .P ?_
   refine .F fa113_2 ?_
   refine .F fa50_2 ?_
   refine .M ag9 (.app .head) rfl ?_
   refine .bin rfl rfl rfl rfl rfl rfl rfl (binS_cat (a := ⟨⟨[46]⟩⟩) hdn) ?_
   refine .callc (fun bg2 : Gro => bg2.Ok (((WrSt.push ⟨sg, S, ad, bg, out⟩ g1 a).add true bgA (⟨⟨[114, 101, 102]⟩⟩ : ByteArray).data.toList).out.length + (((⟨⟨[46]⟩⟩ : ByteArray) ++ (x_.name : ByteArray)) : ByteArray).size)) (fun _ => .tuple ⟨[.int .i64 (Int.ofNat (((⟨⟨[46]⟩⟩ : ByteArray) ++ (x_.name : ByteArray)) : ByteArray).size), .nilIface]⟩) (fun bg2 => WrH wx (.slice al l.length cl) (((WrSt.push ⟨sg, S, ad, bg, out⟩ g1 a).add true bgA (⟨⟨[114, 101, 102]⟩⟩ : ByteArray).data.toList).add true bg2 (((⟨⟨[46]⟩⟩ : ByteArray) ++ (x_.name : ByteArray)) : ByteArray).data.toList)) .here rfl rfl (by kernel_rfl) (by kernel_rfl) rfl rfl rfl rfl rfl rfl (fun m2 g0 k2_ gb gr => wstr_ok (s := ((⟨⟨[46]⟩⟩ : ByteArray) ++ (x_.name : ByteArray))) g0 k2_ hbgA (by rw [show ((WrSt.push ⟨sg, S, ad, bg, out⟩ g1 a).add true bgA (⟨⟨[114, 101, 102]⟩⟩ : ByteArray).data.toList).out.length = out.length + 3 from by_len _ _]; omega)) (fun bgB hbgB => ?_)
   rw [← by_len] at hbgB
   refine .of (.nil (.seq (.region (.P ?_))))
   refine .F fa50_1 ?_
   refine .M ag32 (.app .head) rfl ?_
   have hWA := ((hWp.add (ad := true) hbgA).add (ad := true) hbgB)
   refine .callc (α := WrSt) (fun y' => RunP l eq (LisW l eq x_.elems) (((WrSt.push ⟨sg, S, ad, bg, out⟩ g1 a).add true bgA (⟨⟨[114, 101, 102]⟩⟩ : ByteArray).data.toList).add true bgB (((⟨⟨[46]⟩⟩ : ByteArray) ++ (x_.name : ByteArray)) : ByteArray).data.toList) y') (fun _ => .tuple ⟨[]⟩) (fun y' => WrH wx (.slice al l.length cl) y') .here rfl rfl rfl rfl rfl rfl (fun m2 k1_ g2_ => list_ok (y0 := (((WrSt.push ⟨sg, S, ad, bg, out⟩ g1 a).add true bgA (⟨⟨[114, 101, 102]⟩⟩ : ByteArray).data.toList).add true bgB (((⟨⟨[46]⟩⟩ : ByteArray) ++ (x_.name : ByteArray)) : ByteArray).data.toList)) (L := x_.elems) k1_.lole' g2_ hWA hwl hn14 hfw.elems (by show ((out ++ _) ++ _).length + 1000 ≤ 10000 * (S ++ [a]).length; rw [by_len, List.length_append, List.length_append]; show (out.length + 3) + _ + 1000 ≤ 10000 * (S.length + 1); omega) (Nat.le_refl (unT l eq (S ++ [a]))) ihp (tab_mono hlS0 (off_old k1_)) (Sl.mono (show Sl _ 1 RInt x_.elems (.slice aeX x_.elems.length ceX) from ⟨aeX, ceX, rfl, hneX, heX⟩) (off_old k1_) fun _ _ h => h) (fun p hp => in_part hbd (parts_elems hp))) (fun y1 hy1 => ?_)
   refine .nil (.blk ?_)
   exact .end_ rfl rfl (fun m hm => ⟨_, txt_lis hx_ ht25 hno rfl (List.append_assoc _ _ _) (by omega) (by omega) (by omega) (hd9n (by omega) (by omega)) hy1, rfl, hm.sub (List.sublist_append_left _ _)⟩)
  (try simp only [nz] at ht142); try simp only [nq] at ht142
  refine .skip (.seq (.region (.P ?_)))
  refine .F fa50_1 ?_
  refine .M ag32 (.app .head) rfl ?_
  have hWA := (hWp.add (ad := true) hbgA)
  refine .callc (α := WrSt) (fun y' => RunP l eq (LisW l eq x_.elems) ((WrSt.push ⟨sg, S, ad, bg, out⟩ g1 a).add true bgA (⟨⟨[114, 101, 102]⟩⟩ : ByteArray).data.toList) y') (fun _ => .tuple ⟨[]⟩) (fun y' => WrH wx (.slice al l.length cl) y') .here rfl rfl rfl rfl rfl rfl (fun m2 k1_ g2_ => list_ok (y0 := ((WrSt.push ⟨sg, S, ad, bg, out⟩ g1 a).add true bgA (⟨⟨[114, 101, 102]⟩⟩ : ByteArray).data.toList)) (L := x_.elems) k1_.lole' g2_ hWA hwl hn14 hfw.elems (by show (out ++ _).length + 1000 ≤ 10000 * (S ++ [a]).length; rw [List.length_append, List.length_append]; show out.length + 3 + 1000 ≤ 10000 * (S.length + 1); omega) (Nat.le_refl (unT l eq (S ++ [a]))) ihp (tab_mono hlS0 (off_old k1_)) (Sl.mono (show Sl _ 1 RInt x_.elems (.slice aeX x_.elems.length ceX) from ⟨aeX, ceX, rfl, hneX, heX⟩) (off_old k1_) fun _ _ h => h) (fun p hp => in_part hbd (parts_elems hp))) (fun y1 hy1 => ?_)
  refine .nil (.blk ?_)
  exact .end_ rfl rfl (fun m hm => ⟨_, txt_lis hx_ ht25 hno rfl rfl (by omega) (by omega) (by omega) (hd9 (by omega) (by omega)) hy1, rfl, hm.sub (List.sublist_append_left _ _)⟩)
 (try simp only [nz] at ht134); try simp only [nq] at ht134
 refine .seq (.region (.P2 ?_))
 refine .nil (.seq (.cond rfl (fun ht154 => ?_) fun ht154 => ?_))
 ·(try simp only [nz] at ht154); try simp only [nq] at ht154
  refine .region (.P ?_)
  refine .F fa50_1 ?_
  refine .M ag32 (.app .head) rfl ?_
  have hWA := hWp
  refine .callc (α := WrSt) (fun y' => RunP l eq (LisW l eq x_.elems) (WrSt.push ⟨sg, S, ad, bg, out⟩ g1 a) y') (fun _ => .tuple ⟨[]⟩) (fun y' => WrH wx (.slice al l.length cl) y') .here rfl rfl rfl rfl rfl rfl (fun m2 k1_ g2_ => list_ok (y0 := (WrSt.push ⟨sg, S, ad, bg, out⟩ g1 a)) (L := x_.elems) k1_.lole' g2_ hWA hwl hn14 hfw.elems (by show out.length + 1000 ≤ 10000 * (S ++ [a]).length; rw [List.length_append]; show out.length + 1000 ≤ 10000 * (S.length + 1); omega) (Nat.le_refl (unT l eq (S ++ [a]))) ihp (tab_mono hlS0 (off_old k1_)) (Sl.mono (show Sl _ 1 RInt x_.elems (.slice aeX x_.elems.length ceX) from ⟨aeX, ceX, rfl, hneX, heX⟩) (off_old k1_) fun _ _ h => h) (fun p hp => in_part hbd (parts_elems hp))) (fun y1 hy1 => ?_)
  refine .nil (.blk ?_)
  exact .end_ rfl rfl (fun m hm => ⟨_, txt_lis (y1 := (WrSt.push ⟨sg, S, ad, bg, out⟩ g1 a)) hx_ ht25 hno rfl (List.append_nil _).symm (by omega) (by omega) (by omega) (hd11 (by omega)) hy1, rfl, hm.sub (List.sublist_append_left _ _)⟩)
 (try simp only [nz] at ht154); try simp only [nq] at ht154
 refine .seq (.region (.P2 ?_))
 refine .nil (.seq (.cond rfl (fun ht160 => ?_) fun ht160 => ?_))
 ·(try simp only [nz] at ht160); try simp only [nq] at ht160
  have hsh := hT.shape
  unfold shapeP at hsh
  obtain ⟨nE, hnE⟩ : ∃ n, x_.elems.length = n + 1 := ⟨x_.elems.length - 1, by omega⟩
  rcases heX with ⟨e0, -⟩ | ⟨bE, offE, csE, elE, gE, mdE, mateE, rfl, hKE, hleE, hcE⟩
  ·rw [e0] at hnE; cases hnE
  have hdl : Sl (Off ((WrH wx (.slice al l.length cl) ⟨sg, S, ad, bg, out⟩).map Prod.fst) m) 1 RInt x_.elems.dropLast (.slice (some ⟨bE, offE, none⟩) nE ceX) := by rw [List.dropLast_eq_take, hnE, Nat.add_sub_cancel]; exact Sl.take ⟨_, _, rfl, hneX, .inr ⟨bE, offE, csE, elE, gE, mdE, mateE, rfl, hKE, hleE, hcE⟩⟩ (by omega)
  obtain ⟨hbE, hhE⟩ := hKE
  obtain ⟨p_, hp_⟩ : ∃ w_, x_.elems[nE]? = some w_ := ⟨_, List.getElem?_eq_getElem (by omega)⟩
  have hrp := hcE nE p_ hp_
  obtain ⟨q_, hq_, hqe⟩ := in_part hbd (parts_elems (List.mem_of_getElem? hp_))
  subst hqe
  have hdl2 : x_.elems.dropLast.length = nE := by rw [List.length_dropLast]; omega
  refine .seq (.region (.F fa50_1 ?_))
  refine .M ag32 (.app .head) rfl ?_
  refine .G (ln32 ..) ?_
  refine .as 164 (.int .i64 (Int.ofNat (nE + 1))) rfl (by rw [hnE]) ?_
  refine .bin rfl rfl rfl rfl rfl rfl (binS_dec (by omega)) ?_
  refine .P ?_
  refine .nil (.seq (.seq (.region (.P2 ?_))))
  refine .F fa113_2 ?_
  refine .callc (α := Gro) (fun bg2 : Gro => bg2.Ok ((WrSt.push ⟨sg, S, ad, bg, out⟩ g1 a).out.length + (⟨⟨[102, 110]⟩⟩ : ByteArray).size)) (fun _ => .tuple ⟨[.int .i64 (Int.ofNat (⟨⟨[102, 110]⟩⟩ : ByteArray).size), .nilIface]⟩) (fun bg2 => WrH wx (.slice al l.length cl) ((WrSt.push ⟨sg, S, ad, bg, out⟩ g1 a).add true bg2 (⟨⟨[102, 110]⟩⟩ : ByteArray).data.toList)) .here rfl rfl rfl rfl rfl rfl (fun m2 k1_ g2_ => wstr_ok (s := ⟨⟨[102, 110]⟩⟩) k1_.lole' g2_ hWp.okb (by show out.length + 2 ≤ _; omega)) (fun bgA hbgA => ?_)
  rw [← by_len] at hbgA
  refine .nil (.seq (.seq (.region (.P ?_))))
  refine .F fa50_1 ?_
  refine .M ag32 (.app .head) rfl ?_
  refine .P ?_
  refine .sliceTo (kk := nE) (by omega) hneX.2 rfl rfl rfl rfl underlying32 sz3 rfl rfl ?_
  have hWA := (hWp.add (ad := true) hbgA)
  refine .callc (α := WrSt) (fun y' => RunP l eq (LisW l eq x_.elems.dropLast) ((WrSt.push ⟨sg, S, ad, bg, out⟩ g1 a).add true bgA (⟨⟨[102, 110]⟩⟩ : ByteArray).data.toList) y') (fun _ => .tuple ⟨[]⟩) (fun y' => WrH wx (.slice al l.length cl) y') .here rfl rfl rfl rfl rfl rfl (fun m2 k1_ g2_ => list_ok (y0 := ((WrSt.push ⟨sg, S, ad, bg, out⟩ g1 a).add true bgA (⟨⟨[102, 110]⟩⟩ : ByteArray).data.toList)) (L := x_.elems.dropLast) k1_.lole' g2_ hWA hwl hn14 (by omega) (by show (out ++ _).length + 1000 ≤ 10000 * (S ++ [a]).length; rw [List.length_append, List.length_append]; show out.length + 2 + 1000 ≤ 10000 * (S.length + 1); omega) (Nat.le_refl (unT l eq (S ++ [a]))) ihp (tab_mono hlS0 (off_old k1_)) (Sl.mono hdl (off_old k1_) fun _ _ h => h) (fun p hp => in_part hbd (parts_elems ((List.dropLast_sublist _).subset hp)))) (fun y1 hy1 => ?_)
  obtain ⟨r1a, r2a, d1, r3a, r4a⟩ := hy1.len (k := 80) fun n S o S' h => (lis_lenW hwl n S o S' h).le (by omega)
  change y1.S.length = (S ++ [a]).length + d1 at r3a
  rw [List.length_append, List.length_singleton] at r3a
  change y1.out.length ≤ (out ++ (⟨⟨[102, 110]⟩⟩ : ByteArray).data.toList).length + 80 + 10000 * d1 at r4a
  rw [by_len] at r4a
  have z2_ : (⟨⟨[102, 110]⟩⟩ : ByteArray).size = 2 := rfl
  refine .nil (.seq (.seq (.region (.P2 ?_))))
  refine .F fa113_2 ?_
  refine .callc (α := Gro) (fun bg2 : Gro => bg2.Ok (y1.out.length + (⟨⟨[58]⟩⟩ : ByteArray).size)) (fun _ => .tuple ⟨[.int .i64 (Int.ofNat (⟨⟨[58]⟩⟩ : ByteArray).size), .nilIface]⟩) (fun bg2 => WrH wx (.slice al l.length cl) (y1.add true bg2 (⟨⟨[58]⟩⟩ : ByteArray).data.toList)) .here rfl rfl rfl rfl rfl rfl (fun m2 k1_ g2_ => wstr_ok (s := ⟨⟨[58]⟩⟩) k1_.lole' g2_ hy1.mem.okb (by show y1.out.length + 1 ≤ _; omega)) (fun bgB hbgB => ?_)
  rw [← by_len] at hbgB
  refine .nil (.seq (.region (.P ?_)))
  refine .F fa50_1 ?_
  refine .M ag32 (.app .head) rfl ?_
  refine .P ?_
  refine .K underlying32 sz3 ?_
  refine .M ag3 (Off.sees rfl rfl _ _ ⟨hbE, hhE⟩) (cell_of_take hrp (k := 0) rfl) ?_
  refine .callc (α := WrSt) (fun y' => RunP l eq (TxtW l eq (Int.ofNat q_)) (y1.add true bgB (⟨⟨[58]⟩⟩ : ByteArray).data.toList) y') (fun _ => .tuple ⟨[]⟩) (fun y' => WrH wx (.slice al l.length cl) y') .here rfl rfl rfl rfl rfl rfl (fun m2 k1_ g2_ => ihp q_ (y1.add true bgB (⟨⟨[58]⟩⟩ : ByteArray).data.toList) m2 hq_ r2a (hy1.mem.add hbgB) (by show (y1.out ++ _).length ≤ 10000 * y1.S.length; rw [List.length_append]; show y1.out.length + 1 ≤ _; omega) k1_.lole' g2_ (tab_mono hlS0 (off_old k1_))) (fun y2 hy2 => ?_)
  refine .nil (.blk ?_)
  exact .end_ rfl rfl (fun m hm => ⟨_, txt_fn hx_ ht25 hno rfl rfl (by omega) hy1 (fn_last hnE hp_) hy2, rfl, hm.sub (List.sublist_append_left _ _)⟩)
 (try simp only [nz] at ht160); try simp only [nq] at ht160
 refine .seq (.region (.P2 ?_))
 refine .nil (.seq (.cond rfl (fun ht187 => ?_) fun ht187 => ?_))
 ·(try simp only [nz] at ht187); try simp only [nq] at ht187
  refine .seq (.region (.P2 ?_))
  refine .F fa113_2 ?_
  refine .callc (α := Gro) (fun bg2 : Gro => bg2.Ok ((WrSt.push ⟨sg, S, ad, bg, out⟩ g1 a).out.length + (⟨⟨[109, 111, 100, 117, 108, 101, 123]⟩⟩ : ByteArray).size)) (fun _ => .tuple ⟨[.int .i64 (Int.ofNat (⟨⟨[109, 111, 100, 117, 108, 101, 123]⟩⟩ : ByteArray).size), .nilIface]⟩) (fun bg2 => WrH wx (.slice al l.length cl) ((WrSt.push ⟨sg, S, ad, bg, out⟩ g1 a).add true bg2 (⟨⟨[109, 111, 100, 117, 108, 101, 123]⟩⟩ : ByteArray).data.toList)) .here rfl rfl rfl rfl rfl rfl (fun m2 k1_ g2_ => wstr_ok (s := ⟨⟨[109, 111, 100, 117, 108, 101, 123]⟩⟩) k1_.lole' g2_ hWp.okb (by show out.length + 7 ≤ _; omega)) (fun bgA hbgA => ?_)
  rw [← by_len] at hbgA
  refine .nil (.seq (.seq (.region (.P ?_))))
  refine .F fa50_3 ?_
  refine .M ag47 (.app .head) rfl ?_
  refine .calln _ _ _ rfl rfl rfl rfl rfl rfl (fun m hm => vals_ok hm.lole) (fun bV hbV => ?_)
  refine .calln _ _ _ rfl rfl rfl rfl rfl rfl (fun m hm => sortedf_ok (L := x_.fields) hm.lole ⟨(hm.has bV _ (.head _)).2, (hm.has bV _ (.head _)).1⟩ (Sl.mono hfSX (fun b_ o_ h_ => Off.mem b_ o_ (Off.kr hm b_ o_ h_)) fun _ _ h => h) hfw.fields (nodup_fields (hWl.all a x_ hx_))) (fun zS hzS => ?_)
  have hrm : (((WrSt.push ⟨sg, S, ad, bg, out⟩ g1 a).add true bgA (⟨⟨[109, 111, 100, 117, 108, 101, 123]⟩⟩ : ByteArray).data.toList)).out.length + 1000 ≤ 10000 * (((WrSt.push ⟨sg, S, ad, bg, out⟩ g1 a).add true bgA (⟨⟨[109, 111, 100, 117, 108, 101, 123]⟩⟩ : ByteArray).data.toList)).S.length := by show (out ++ _).length + 1000 ≤ 10000 * (S ++ [a]).length; rw [List.length_append, List.length_append]; show out.length + 7 + 1000 ≤ 10000 * (S.length + 1); omega
  have hWA := (hWp.add (ad := true) hbgA)
  refine .callc (α := WrSt) (fun y' => RunP l eq (FldW l eq (sortF x_.fields)) ((WrSt.push ⟨sg, S, ad, bg, out⟩ g1 a).add true bgA (⟨⟨[109, 111, 100, 117, 108, 101, 123]⟩⟩ : ByteArray).data.toList) y') (fun _ => .tuple ⟨[]⟩) (fun y' => WrH wx (.slice al l.length cl) y') (.over (.over .here)) rfl rfl rfl rfl rfl rfl (fun m2 k1_ g2_ => fields_ok (y0 := ((WrSt.push ⟨sg, S, ad, bg, out⟩ g1 a).add true bgA (⟨⟨[109, 111, 100, 117, 108, 101, 123]⟩⟩ : ByteArray).data.toList)) (L := (sortF x_.fields)) k1_.lole' g2_ hWA hwl hn14 (by rw [sortF_len]; exact hfw.fields) hrm (Nat.le_refl (unT l eq (S ++ [a]))) ihp (tab_mono hlS0 (off_old k1_)) (fun p hp => few_flds hfw p ((sortF_perm _).mem_iff.1 hp)) (Sl.mono hzS (fun b o h => Off.known k1_ (List.mem_append_left _ h)) fun _ _ h => h) (fun p hp => in_part hbd (parts_fldm ((sortF_perm _).mem_iff.1 hp)))) (fun y1 hy1 => ?_)
  obtain ⟨r1a, r2a, d1, r3a, r4a⟩ := hy1.len (k := 372) fun n S o S' h => (fld_lenW hwl (fun p hp => few_flds hfw p ((sortF_perm _).mem_iff.1 hp)) n S o S' h).le (by rw [sortF_len]; omega)
  change y1.S.length = (S ++ [a]).length + d1 at r3a
  rw [List.length_append, List.length_singleton] at r3a
  change y1.out.length ≤ (out ++ (⟨⟨[109, 111, 100, 117, 108, 101, 123]⟩⟩ : ByteArray).data.toList).length + 372 + 10000 * d1 at r4a
  rw [by_len] at r4a
  have z7_ : (⟨⟨[109, 111, 100, 117, 108, 101, 123]⟩⟩ : ByteArray).size = 7 := rfl
  refine .nil (.seq (.region (.P2 ?_)))
  refine .F fa113_2 ?_
  refine .callc (α := Gro) (fun bg2 : Gro => bg2.Ok (y1.out.length + (⟨⟨[125]⟩⟩ : ByteArray).size)) (fun _ => .tuple ⟨[.int .i64 (Int.ofNat (⟨⟨[125]⟩⟩ : ByteArray).size), .nilIface]⟩) (fun bg2 => WrH wx (.slice al l.length cl) (y1.add true bg2 (⟨⟨[125]⟩⟩ : ByteArray).data.toList)) .here rfl rfl rfl rfl rfl rfl (fun m2 k1_ g2_ => wstr_ok (s := ⟨⟨[125]⟩⟩) k1_.lole' g2_ hy1.mem.okb (by show y1.out.length + 1 ≤ _; omega)) (fun bgB hbgB => ?_)
  rw [← by_len] at hbgB
  refine .nil (.blk ?_)
  exact .end_ rfl rfl (fun m hm => ⟨_, txt_mod hx_ ht25 hno rfl rfl (by omega) hy1 hbgB, rfl, hm.sub (List.sublist_append_left _ _)⟩)
 (try simp only [nz] at ht187); try simp only [nq] at ht187
 have hpl := pl_none (plB_none ht25) hn4 hn5
 have hk10 : x_.kind = 10 := by omega
 refine .seq (.region (.P2 ?_))
 refine .F fa113_2 ?_
 refine .callc (α := Gro) (fun bg2 : Gro => bg2.Ok ((WrSt.push ⟨sg, S, ad, bg, out⟩ g1 a).out.length + (⟨⟨[97, 100, 116, 123]⟩⟩ : ByteArray).size)) (fun _ => .tuple ⟨[.int .i64 (Int.ofNat (⟨⟨[97, 100, 116, 123]⟩⟩ : ByteArray).size), .nilIface]⟩) (fun bg2 => WrH wx (.slice al l.length cl) ((WrSt.push ⟨sg, S, ad, bg, out⟩ g1 a).add true bg2 (⟨⟨[97, 100, 116, 123]⟩⟩ : ByteArray).data.toList)) .here rfl rfl rfl rfl rfl rfl (fun m2 k1_ g2_ => wstr_ok (s := ⟨⟨[97, 100, 116, 123]⟩⟩) k1_.lole' g2_ hWp.okb (by show out.length + 4 ≤ _; omega)) (fun bgA hbgA => ?_)
 rw [← by_len] at hbgA
 refine .nil (.seq (.seq (.region (.P ?_))))
 refine .F fa50_3 ?_
 refine .M ag47 (.app .head) rfl ?_
 have hrm : (((WrSt.push ⟨sg, S, ad, bg, out⟩ g1 a).add true bgA (⟨⟨[97, 100, 116, 123]⟩⟩ : ByteArray).data.toList)).out.length + 1000 ≤ 10000 * (((WrSt.push ⟨sg, S, ad, bg, out⟩ g1 a).add true bgA (⟨⟨[97, 100, 116, 123]⟩⟩ : ByteArray).data.toList)).S.length := by show (out ++ _).length + 1000 ≤ 10000 * (S ++ [a]).length; rw [List.length_append, List.length_append]; show out.length + 4 + 1000 ≤ 10000 * (S.length + 1); omega
 have hWA := (hWp.add (ad := true) hbgA)
 refine .callc (α := WrSt) (fun y' => RunP l eq (FldW l eq x_.fields) ((WrSt.push ⟨sg, S, ad, bg, out⟩ g1 a).add true bgA (⟨⟨[97, 100, 116, 123]⟩⟩ : ByteArray).data.toList) y') (fun _ => .tuple ⟨[]⟩) (fun y' => WrH wx (.slice al l.length cl) y') .here rfl rfl rfl rfl rfl rfl (fun m2 k1_ g2_ => fields_ok (y0 := ((WrSt.push ⟨sg, S, ad, bg, out⟩ g1 a).add true bgA (⟨⟨[97, 100, 116, 123]⟩⟩ : ByteArray).data.toList)) (L := x_.fields) k1_.lole' g2_ hWA hwl hn14 hfw.fields hrm (Nat.le_refl (unT l eq (S ++ [a]))) ihp (tab_mono hlS0 (off_old k1_)) (few_flds hfw) (Sl.mono hfSX (off_old k1_) fun _ _ h => h) (fun p hp => in_part hbd (parts_fldm hp))) (fun y1 hy1 => ?_)
 obtain ⟨r1a, r2a, d1, r3a, r4a⟩ := hy1.len (k := 372) fun n S o S' h => (fld_lenW hwl (few_flds hfw) n S o S' h).le (by omega)
 change y1.S.length = (S ++ [a]).length + d1 at r3a
 rw [List.length_append, List.length_singleton] at r3a
 change y1.out.length ≤ (out ++ (⟨⟨[97, 100, 116, 123]⟩⟩ : ByteArray).data.toList).length + 372 + 10000 * d1 at r4a
 rw [by_len] at r4a
 have z4_ : (⟨⟨[97, 100, 116, 123]⟩⟩ : ByteArray).size = 4 := rfl
 refine .nil (.seq (.seq (.seq (.region (.F fa50_4 ?_)))))
 refine .M ag48 (.app .head) rfl ?_
 refine .G (ln48 ..) ?_
 refine .P ?_
 refine .nil (.seq (.block ?_))
 refine .loop (α := Nat × WrSt) (fun q => [(0, .pointer (some ⟨wx, 0, none⟩)), (77, .slice aaX x_.arms.length caX), (78, .int .i64 (Int.ofNat x_.arms.length)), (79, .int .i64 (Int.ofNat q.1))]) (fun q => WrH wx (.slice al l.length cl) q.2 ++ [(b4, .cells [.int .i64 x_.kind, .slice aeX x_.elems.length ceX, .string x_.name, .slice afX x_.fields.length cfX, .slice aaX x_.arms.length caX] 50 false .plain none)]) (fun q => q.1 ≤ x_.arms.length ∧ RunP l eq (ArmW l eq (x_.arms.take q.1)) y1 q.2) (fun q => x_.arms.length - q.1) (0, y1) ⟨Nat.zero_le _, RunP.nil rfl hy1.mem⟩ ⟨rfl, rfl, rfl, rfl, trivial⟩ (.refl _) (fun q hq0 => ?_)
 obtain ⟨i, y⟩ := q
 obtain ⟨hi, hA⟩ := hq0
 simp only at hi hA
 obtain ⟨r1c, r2c, dA, r3c, r4c⟩ := hA.len (k := 430 * 6) fun n S o S' h => (arm_lenW hwl (fun x hx => few_arms hfw x (List.mem_of_mem_take hx)) n S o S' h).le (by rw [List.length_take]; omega)
 refine .seq (.region (.P ?_))
 refine .nil (.seq (.seq (.cond rfl (fun ht80 => ?_) fun ht80 => ?_)))
 ·(try simp only [nz] at ht80); try simp only [nq] at ht80
  have hltE : i < x_.arms.length := by omega
  obtain ⟨p_, hp_⟩ := gx hltE
  obtain ⟨bE, offE, csE, elE, gE, mdE, mateE, rfl, ⟨hbE, hhE⟩, hleE, hcE⟩ := so hgX hltE
  have hr_ := hcE i p_ hp_
  obtain ⟨vx, hra, hfa⟩ := hr_
  have hfaS := hfa
  obtain ⟨ax, cx, rfl, hnx, hfa⟩ := hfa
  have hpm := few_arms hfw p_ (List.mem_of_getElem? hp_)
  have hds1 : ((⟨⟨[124]⟩⟩ : ByteArray) ++ (p_.name : ByteArray)).size ≤ 51 := by rw [ByteArray.size_append]; exact Nat.add_le_add (Nat.le_refl 1) hpm.1
  have hdn1 := Nat.le_trans hds1 (show 51 ≤ 4294967296 by decide)
  have hds : ((⟨⟨[124]⟩⟩ : ByteArray) ++ (p_.name : ByteArray) ++ (⟨⟨[123]⟩⟩ : ByteArray)).size ≤ 52 := by rw [ByteArray.size_append]; exact Nat.add_le_add hds1 (Nat.le_refl 1)
  have hdn := Nat.le_trans hds (show 52 ≤ 4294967296 by decide)
  refine .skip (.seq (.seq (.block (.seq (.region (.K underlying48 sz55 ?_))))))
  refine .A ag55 sz55 (Off.sees rfl rfl _ _ ⟨hbE, hhE⟩) hra ?_
  refine .alloc rfl rfl rfl rfl zr55 (fun b11 hb11 => ?_)
  refine .S sz55 ?_
  refine .nil (.seq (.seq ?_))
  refine .D [(15, 0), (15, 1), (15, 3), (15, 0), (3, 8), (15, 24), (15, 56), (7, 127)] (by kernel_rfl) (by kernel_rfl) (fun base hbase hB => ?_)
  iterate 2 refine .P ?_
  refine .F fa113_2 ?_
  refine .F fa55_0 ?_
  refine .J ag9 ?_
  refine .bin rfl rfl rfl rfl rfl rfl rfl (binS_cat (a := ⟨⟨[124]⟩⟩) hdn1) ?_
  refine .bin rfl rfl rfl rfl rfl rfl rfl (binS_cat (b := ⟨⟨[123]⟩⟩) hdn) ?_
  refine .callc (fun bg2 : Gro => bg2.Ok (y.out.length + (((⟨⟨[124]⟩⟩ : ByteArray) ++ (p_.name : ByteArray) ++ (⟨⟨[123]⟩⟩ : ByteArray)) : ByteArray).size)) (fun _ => .tuple ⟨[.int .i64 (Int.ofNat (((⟨⟨[124]⟩⟩ : ByteArray) ++ (p_.name : ByteArray) ++ (⟨⟨[123]⟩⟩ : ByteArray)) : ByteArray).size), .nilIface]⟩) (fun bg2 => WrH wx (.slice al l.length cl) (y.add true bg2 (((⟨⟨[124]⟩⟩ : ByteArray) ++ (p_.name : ByteArray) ++ (⟨⟨[123]⟩⟩ : ByteArray)) : ByteArray).data.toList)) (.tail .here) rfl rfl (by kernel_rfl) (by kernel_rfl) rfl rfl rfl rfl rfl rfl (fun m2 g0 k2_ gb gr => wstr_ok (s := ((⟨⟨[124]⟩⟩ : ByteArray) ++ (p_.name : ByteArray) ++ (⟨⟨[123]⟩⟩ : ByteArray))) g0 k2_ hA.mem.okb (by omega)) (fun bgB hbgB => ?_)
  rw [← by_len] at hbgB
  refine .of (.nil (.seq (.seq (.region (.P ?_)))))
  refine .F fa55_1 ?_
  refine .M ag47 (.app .head) rfl ?_
  have hrm : (y.add true bgB (((⟨⟨[124]⟩⟩ : ByteArray) ++ (p_.name : ByteArray) ++ (⟨⟨[123]⟩⟩ : ByteArray)) : ByteArray).data.toList).out.length + 1000 ≤ 10000 * (y.add true bgB (((⟨⟨[124]⟩⟩ : ByteArray) ++ (p_.name : ByteArray) ++ (⟨⟨[123]⟩⟩ : ByteArray)) : ByteArray).data.toList).S.length := by show (y.out ++ _).length + 1000 ≤ 10000 * y.S.length; rw [by_len]; omega
  have hWA := (hA.mem.add (ad := true) hbgB)
  refine .callc (α := WrSt) (fun y' => RunP l eq (FldW l eq p_.fields) (y.add true bgB (((⟨⟨[124]⟩⟩ : ByteArray) ++ (p_.name : ByteArray) ++ (⟨⟨[123]⟩⟩ : ByteArray)) : ByteArray).data.toList) y') (fun _ => .tuple ⟨[]⟩) (fun y' => WrH wx (.slice al l.length cl) y') .here rfl rfl rfl rfl rfl rfl (fun m2 k1_ g2_ => fields_ok (y0 := (y.add true bgB (((⟨⟨[124]⟩⟩ : ByteArray) ++ (p_.name : ByteArray) ++ (⟨⟨[123]⟩⟩ : ByteArray)) : ByteArray).data.toList)) (L := p_.fields) k1_.lole' g2_ hWA hwl hn14 hpm.2.1 hrm (Nat.le_trans r2c r2a) ihp (tab_mono hlS0 (off_old k1_)) hpm.2.2 (Sl.mono hfaS (off_old k1_) fun _ _ h => h) (fun p hp => in_part hbd (parts_armf (List.mem_of_getElem? hp_) hp))) (fun y2 hy2 => ?_)
  obtain ⟨r1b, r2b, d2, r3b, r4b⟩ := hy2.len (k := 372) fun n S o S' h => (fld_lenW hwl hpm.2.2 n S o S' h).le (by have := hpm.2.1; omega)
  change y2.S.length = y.S.length + d2 at r3b
  change y2.out.length ≤ (y.out ++ (((⟨⟨[124]⟩⟩ : ByteArray) ++ (p_.name : ByteArray) ++ (⟨⟨[123]⟩⟩ : ByteArray)) : ByteArray).data.toList).length + 372 + 10000 * d2 at r4b
  rw [by_len] at r4b
  refine .nil (.seq (.region (.P2 ?_)))
  refine .F fa113_2 ?_
  refine .callc (α := Gro) (fun bg2 : Gro => bg2.Ok (y2.out.length + (⟨⟨[125]⟩⟩ : ByteArray).size)) (fun _ => .tuple ⟨[.int .i64 (Int.ofNat (⟨⟨[125]⟩⟩ : ByteArray).size), .nilIface]⟩) (fun bg2 => WrH wx (.slice al l.length cl) (y2.add true bg2 (⟨⟨[125]⟩⟩ : ByteArray).data.toList)) .here rfl rfl rfl rfl rfl rfl (fun m2 k1_ g2_ => wstr_ok (s := ⟨⟨[125]⟩⟩) k1_.lole' g2_ hy2.mem.okb (by show y2.out.length + 1 ≤ _; omega)) (fun bgC hbgC => ?_)
  rw [← by_len] at hbgC
  refine .nil (.blk (.seq (.region (.P ?_))))
  refine .W 99 i ?_
  refine .P ?_
  refine .nil ?_
  exact .loop (i + 1, _) ⟨hltE, arm_add hp_ hA hy2 hbgC⟩ (by show x_.arms.length - (i + 1) < x_.arms.length - i; omega) ⟨rfl, rfl, rfl, rfl, trivial⟩ (List.Sublist.append (.refl _) (.cons _ (.refl _)))
 (try simp only [nz] at ht80); try simp only [nq] at ht80
 have hie : i = x_.arms.length := by omega
 subst hie
 rw [List.take_length] at hA
 refine .exit (.seq (.loop (.here (.seq (.region (.P2 ?_))))))
 refine .F fa113_2 ?_
 refine .callc (α := Gro) (fun bg2 : Gro => bg2.Ok (y.out.length + (⟨⟨[125]⟩⟩ : ByteArray).size)) (fun _ => .tuple ⟨[.int .i64 (Int.ofNat (⟨⟨[125]⟩⟩ : ByteArray).size), .nilIface]⟩) (fun bg2 => WrH wx (.slice al l.length cl) (y.add true bg2 (⟨⟨[125]⟩⟩ : ByteArray).data.toList)) .here rfl rfl rfl rfl rfl rfl (fun m2 k1_ g2_ => wstr_ok (s := ⟨⟨[125]⟩⟩) k1_.lole' g2_ hA.mem.okb (by show y.out.length + 1 ≤ _; omega)) (fun bgB hbgB => ?_)
 rw [← by_len] at hbgB
 refine .nil (.blk ?_)
 exact .end_ rfl rfl (fun m hm => ⟨_, txt_adt hx_ ht25 hno rfl rfl hk10 hy1 hA hbgB, rfl, hm.sub (List.sublist_append_left _ _)⟩)
/-! Texts that are asked for. -/
theorem text_all {l : List Ty} {eq : Nat → Nat → Bool} {al : Option Addr} {cl wx : Nat} (hWl : Well l) (he : ∀ a b, eq a b = true ↔ EqT l a b) (hwl : AllF l) (hn14 : l.length ≤ 14) : ∀ n u, u < n → TxtC l eq (.slice al l.length cl) wx u
 | 0, _, h => absurd h (Nat.not_lt_zero _)
 | n + 1, _, h => fun _ _ _ hp hu hW hroom hm hk hlS => text_step hm hk hW hp hroom hu hlS hWl he hwl hn14 fun u2 h2 => text_all hWl he hwl hn14 n u2 (by omega)
/-- Equality as a function. -/
def IsEq (l : List Ty) (eq : Nat → Nat → Bool) : Prop := ∀ a b, eq a b = true ↔ EqT l a b
theorem isEq_ex (l : List Ty) : ∃ eq, IsEq l eq := ⟨fun a b => @decide (EqT l a b) (Classical.propDecidable _), fun _ _ => @decide_eq_true_iff _ (Classical.propDecidable _)⟩
theorem IsEq.uniq {l : List Ty} {e f : Nat → Nat → Bool} (h : IsEq l e) (k : IsEq l f) : e = f := by
 funext a b
 rw [Bool.eq_iff_iff, h a b, k a b]
theorem WMem.start {l : List Ty} {eq : Nat → Nat → Bool} : WMem l eq ⟨.no, [], false, .no, []⟩ := by
 refine ⟨rfl, rfl, ?_, fun s hs => by cases hs⟩
 show 0 + ((List.range l.length).filter _).length ≤ l.length
 rw [Nat.zero_add]
 exact Nat.le_trans (List.length_filter_le _ _) (by rw [List.length_range]; exact Nat.le_refl _)
/-- What is answered: an error, or the text. -/
def TextP (l : List Ty) (t : Int) (x : ByteArray × Int) : Prop := AskP l [t] x.2 ∧ (x.2 = 0 → ∃ (eq : Nat → Nat → Bool) (q n : Nat) (S : List Nat), IsEq l eq ∧ t = Int.ofNat q ∧ txF l eq n [] (Int.ofNat q) = some (x.1.data.toList, S))
theorem text_out {l : List Ty} {eq : Nat → Nat → Bool} (hW : Well l) (hwl : AllF l) (hn14 : l.length ≤ 14) {p : Int} {y : WrSt} (h : RunP l eq (TxtW l eq p) ⟨.no, [], false, .no, []⟩ y) : 0 < y.out.length ∧ y.out.length ≤ 1000000 ∧ ∃ n S, txF l eq n [] p = some (y.out, S) := by
 obtain ⟨k1, -, d, k3, k4⟩ := h.len fun n S o S' h => txt_lenW hwl n S o S' h
 obtain ⟨n, o, h1, h2, -⟩ := h
 have h2 : y.out = o := h2
 have h1 : txF l eq n [] p = some (o, y.S) := h1
 have hF := tx_fst (fun i x hx => txT_of (hW.all i x hx)) n _ _ _ _ h1
 rw [h2] at k4 ⊢
 have k3 : y.S.length = 0 + d := k3
 have k4 : o.length ≤ 0 + 10 + 10000 * d := k4
 refine ⟨?_, by omega, n, _, h1⟩
 cases o with
 | nil => exact absurd hF id
 | cons => exact Nat.succ_pos _
theorem wsee_ok {K : List Nat} {wx : Nat} {tv : Value} {sg bg : Gro} {S : List Nat} {out : List UInt8} {ad : Bool} {m : AW} (hm : m.lo ≤ m.next) (hk : Knows K m m (WrX wx tv sg S ad bg out)) (hb : bg.Ok out.length) (hne : 0 < out.length) (hle : out.length ≤ 1000000) : Fc prog 67 [.pointer (some ⟨wx, 2, none⟩)] m fun v m' => ∃ _u : Unit, True ∧ v = .string ⟨⟨out⟩⟩ ∧ Knows K m m' [] := by
 obtain ⟨kO, hkO⟩ : ∃ k, out.length = k + 1 := ⟨out.length - 1, by omega⟩
 obtain ⟨tq, htq⟩ : ∃ k, top = k + 1 := ⟨_, rfl⟩
 have hV := Gro.V_blk hb hne
 refine Fc.bodyS (S := K) (c := _) func67 rfl rfl rfl rfl (show Knows K m m (WrX wx tv sg S ad bg out) from hk) ?_
 refine .seq (.region (.P ?_))
 refine .nil (.seq (.seq ?_))
 refine .D [(15, 0), (15, 1), (15, 3), (3, 7), (15, 15), (15, 0), (15, 32), (15, 96), (3, 224), (3, 480), (7, 1023), (15, 2047)] (by kernel_rfl) (by kernel_rfl) (fun base hbase hB => ?_)
 iterate 2 refine .P ?_
 refine .F fa111_1 ?_
 refine .J ag109 ?_
 refine .as 6 (.slice (some ⟨bg.blk, 0, none⟩) (kO + 1) (tq + 1)) rfl (by rw [← hkO, ← htq]; exact hV) ?_
 refine .sliceData rfl rfl rfl rfl rfl rfl ?_
 iterate 2 refine .P ?_
 refine .F fa111_1 ?_
 refine .J ag109 ?_
 refine .as 11 (.slice (some ⟨bg.blk, 0, none⟩) out.length top) rfl hV ?_
 refine .len rfl rfl rfl rfl rfl rfl (ln109 ..) ?_
 refine .unsafeStr (g := bg) (el := 5) (out := out) (.tail (.over .all)) hb hne underlying5 pe5 ce5 (Nat.ble_eq_true_of_le (by omega)) rfl rfl (by kernel_rfl) (by kernel_rfl) rfl rfl rfl rfl rfl rfl ?_
 refine .P ?_
 refine .nil (.seq (.ret ?_))
 exact .end_ rfl rfl (fun m hm => ⟨(), trivial, rfl, hm.sub (List.nil_sublist _)⟩)
theorem Text_ok {l : List Ty} {vl : Value} {t : Int} {m : AW} (hm : m.lo ≤ m.next) (hlS : Sl (Mem m) 5 (RTy (Mem m)) l vl) (hwl : ∀ (i : Nat) (a : Ty), l[i]? = some a → FewT a) (hn14 : l.length ≤ 14) : Fc prog 25 [vl, .int .i64 t] m fun v m' => ∃ x : ByteArray × Int, TextP l t x ∧ v = .tuple ⟨[.string x.1, .int .i64 x.2]⟩ ∧ Ext m m' ∧ News m m' [] := by
 have hlS0 := hlS
 obtain ⟨al, cl, rfl, hnl, hl⟩ := hlS
 obtain ⟨eq, heq⟩ := isEq_ex l
 refine Fc.body (c := _) func25 rfl rfl rfl rfl hm ?_
 refine .seq (.region (.P2 ?_))
 refine .nil (.seq (.seq (.seq (.region (.P2 ?_)))))
 refine .buildSlice rfl rfl rfl rfl rfl (bs32_1 ..) (fun b10 hb10 => ?_)
 refine .calln _ _ _ rfl rfl rfl rfl rfl rfl (fun m hm => asked_ok hm.lole (hlS0.mono (Mem.kr hm) (RTy.mono (Mem.kr hm))) hwl hn14 ((Sl.single (R := RInt) (x := t) (b := b10) (c := 1) (el := 3) (g := false) (md := .plain) (mate := none) rfl rfl).mono (InH.kr (l := [(b10, .cells [.int .i64 t] 3 false .plain none)]) hm (fun p_ hp_ => by simpa using hp_)) fun _ _ h => h)) (fun e he => ?_)
 refine .P ?_
 refine .nil (.seq (.seq (.region (.P2 ?_))))
 refine .nil (.seq (.cond rfl (fun ht13 => ?_) fun ht13 => ?_))
 ·try simp only [nz] at ht13
  refine .seq (.region (.P3 ?_))
  refine .nil (.seq (.ret (.seq ?_)))
  exact .end_ rfl rfl (fun m hm => ⟨(⟨#[]⟩, e), ⟨he, fun h => absurd h (by omega)⟩, rfl, hm.ext, News.nil _ _⟩)
 try simp only [nz] at ht13
 have he0 : e = 0 := by omega
 subst he0
 obtain ⟨q, a, rfl, hq, ha⟩ := he.at1
 have hWl := he.fine.well
 refine .skip (.seq (.seq (.region (.P ?_))))
 refine .p (v := .agg ⟨[.slice al l.length cl, .slice none 0 0, .pointer none, .slice none 0 0]⟩) rfl rfl rfl (by kernel_rfl) ?_
 refine .box rfl rfl rfl rfl rfl (fun b17 hb17 => ?_)
 refine .drop (h' := WrH b17 (.slice al l.length cl) ⟨.no, [], false, .no, []⟩) (.cons_cons _ (List.nil_sublist _)) ?_
 refine .P ?_
 refine .nil (.seq (.seq (.region (.P2 ?_))))
 refine .callc (α := WrSt) (fun y' => RunP l eq (TxtW l eq (Int.ofNat q)) ⟨.no, [], false, .no, []⟩ y') (fun _ => .tuple ⟨[]⟩) (fun y' => WrH b17 (.slice al l.length cl) y') .all rfl rfl rfl rfl rfl rfl (fun m2 k1_ g2_ => text_all hWl heq hwl hn14 _ _ (Nat.lt_succ_self _) q ⟨.no, [], false, .no, []⟩ m2 hq (Nat.le_refl _) WMem.start (Nat.le_refl 0) k1_.lole' g2_ (hlS0.mono (Off.old k1_) (RTy.mono (Off.old k1_)))) (fun y1 hy1 => ?_)
 obtain ⟨ho1, ho2, n1, S1, hn1⟩ := text_out hWl hwl hn14 hy1
 refine .nil (.seq (.seq (.region (.P2 ?_))))
 refine .F fa113_2 ?_
 refine .callc (α := Unit) (fun _ => True) (fun _ => .string ⟨⟨y1.out⟩⟩) (fun _ => []) .here rfl rfl rfl rfl rfl rfl (fun m2 k1_ g2_ => wsee_ok (sg := y1.sg) (S := y1.S) (bg := y1.bg) (ad := y1.ad) k1_.lole' g2_ hy1.mem.okb ho1 ho2) (fun _ _ => ?_)
 refine .P2 ?_
 refine .nil (.seq (.ret ?_))
 exact .end_ rfl rfl (fun m hm => ⟨(⟨⟨y1.out⟩⟩, 0), ⟨he, fun _ => ⟨eq, q, n1, S1, heq, rfl, hn1⟩⟩, rfl, hm.ext, News.nil _ _⟩)
/-! The law on canonical texts. -/
theorem two_val {F : Nat → Nat → Prop} {l : List Ty} {p q : Nat} {x : Bool × Int} (h : TwoP F l (Int.ofNat p) (Int.ofNat q) x) (he : ChkP l 0) (hp : p < l.length) (hq : q < l.length) : ∃ b : Bool, x = (b, 0) ∧ (b = true ↔ F p q) := by
 obtain ⟨x1, x2⟩ := x
 have e := h.err (AskP.twoE he hp hq)
 simp only at e
 subst e
 obtain ⟨p', q', h1, h2, h3⟩ := h.2.2 rfl
 cases h1
 cases h2
 exact ⟨x1, rfl, h3⟩
theorem text_val {l : List Ty} {p : Nat} {x : ByteArray × Int} (h : TextP l (Int.ofNat p) x) (he : ChkP l 0) (hp : p < l.length) : ∃ s : ByteArray, x = (s, 0) ∧ ∃ eq n S, IsEq l eq ∧ txF l eq n [] (Int.ofNat p) = some (s.data.toList, S) := by
 obtain ⟨x1, x2⟩ := x
 have e := h.1.uniq (AskP.oneE he hp)
 simp only at e
 subst e
 obtain ⟨eq, q, n, S, h0, h1, h2⟩ := h.2 rfl
 cases h1
 exact ⟨x1, rfl, eq, n, S, h0, h2⟩
theorem text_same {l : List Ty} (hW : Well l) {p q : Nat} {s u : ByteArray} {b : Bool} (hb : b = true ↔ EqT l p q) (hs : ∃ eq n S, IsEq l eq ∧ txF l eq n [] (Int.ofNat p) = some (s.data.toList, S)) (hu : ∃ eq n S, IsEq l eq ∧ txF l eq n [] (Int.ofNat q) = some (u.data.toList, S)) : eqBytes s.data.toList u.data.toList = b := by
 obtain ⟨e, n, S, he, hs⟩ := hs
 obtain ⟨f, m, T, hf, hu⟩ := hu
 cases he.uniq hf
 rw [eqBytes_eq, Bool.eq_iff_iff, decide_eq_true_iff, text_iff hW he hs hu, hb]
theorem eq_symB {l : List Ty} (hW : Well l) {p q : Nat} {b c : Bool} (hb : b = true ↔ EqT l p q) (hc : c = true ↔ EqT l q p) : b = c := by
 rw [Bool.eq_iff_iff, hb, hc]
 exact ⟨fun h => h.symm hW, fun h => h.symm hW⟩
theorem eq_traB {l : List Ty} (hW : Well l) {p q i : Nat} {b c d : Bool} (hb : b = true ↔ EqT l p q) (hc : c = true ↔ EqT l p i) (hd : d = true ↔ EqT l q i) (h : b = true) : c = d := by
 rw [Bool.eq_iff_iff, hc, hd]
 exact ⟨fun k => ((hb.1 h).symm hW).trans hW k, fun k => (hb.1 h).trans hW k⟩
theorem eq_clsB {l : List Ty} (hW : Well l) {p q i : Nat} {b c d : Bool} (hb : b = true ↔ EqT l p q) (hc : c = true ↔ EqT l p i) (hd : d = true ↔ EqT l q i) (h : c = true) (k : d = true) : b = true := hb.2 ((hc.1 h).trans hW ((hd.1 k).symm hW))
set_option maxRecDepth 100000 in
theorem canonical_ok {l : List Ty} {vl : Value} {t u : Int} {m : AW} (hm : m.lo ≤ m.next) (hlS : Sl (Mem m) 5 (RTy (Mem m)) l vl) : Fc prog 5 [vl, .int .i64 t, .int .i64 u] m fun v m' => v = .bool true ∧ Ext m m' := by
 have hlA := hlS
 obtain ⟨aA, cA, rfl, hnA, -⟩ := hlS
 refine Fc.body (c := _) func5 rfl rfl rfl rfl hm ?_
 refine .seq (.region (.P ?_))
 refine .nil (.seq (.seq (.seq (.region ?_))))
 refine .call _ rfl rfl rfl rfl rfl rfl (fun m hm => awake_ok) ?_
 refine .P3 ?_
 refine .call _ rfl rfl rfl rfl rfl rfl (fun m hm => few_ok hm.lole (hlA.mono (Mem.kr hm) (RTy.mono (Mem.kr hm)))) ?_
 refine .P3 ?_
 refine .splitB 27 rfl (fun hs_27 => ?_) (fun hs_27 => ?_)
 ·try simp only [nz] at hs_27
  iterate 4 refine .O ?_
  refine .P2 ?_
  iterate 3 refine .O ?_
  refine .P ?_
  refine .nil (.seq (.cond_true rfl (.seq (.region ?_))))
  refine .call _ rfl rfl rfl rfl rfl rfl (fun m hm => awake_ok) ?_
  refine .P ?_
  refine .nil (.seq (.ret (.seq ?_)))
  exact .end_ rfl rfl (fun m hm => ⟨rfl, hm.ext⟩)
 try simp only [nz] at hs_27
 obtain ⟨hn14, hwl⟩ := few_all hs_27
 refine .P ?_
 refine .calln _ _ _ rfl rfl rfl rfl rfl rfl (fun m hm => own_ok hm.lole (hlA.mono (Mem.kr hm) (RTy.mono (Mem.kr hm))) hwl hn14) (fun z0 hz0 => ?_)
 refine .calln _ _ _ rfl rfl rfl rfl rfl rfl (fun m hm => check_ok hm.lole (hz0.mono (InH.kr hm fun p_ hp_ => (List.mem_append_left _ hp_)) fun x_ cs_ h_ => RTy.mono (InH.kr hm fun p_ hp_ => (List.mem_append_left _ hp_)) x_ cs_ h_.1) hwl hn14) (fun e0 he0 => ?_)
 refine .drop (h' := []) (List.nil_sublist _) ?_
 refine .P3 ?_
 refine .splitB 33 rfl (fun hs_33 => ?_) (fun hs_33 => ?_)
 ·try simp only [nz] at hs_33
  iterate 3 refine .O ?_
  refine .P ?_
  refine .nil (.seq (.cond_true rfl (.seq (.region ?_))))
  refine .call _ rfl rfl rfl rfl rfl rfl (fun m hm => awake_ok) ?_
  refine .P ?_
  refine .nil (.seq (.ret (.seq ?_)))
  exact .end_ rfl rfl (fun m hm => ⟨rfl, hm.ext⟩)
 try simp only [nz] at hs_33
 have he00 : e0 = 0 := by omega
 subst he00
 have hFi := he0.fine
 have hWl := hFi.well
 refine .P ?_
 refine .G (ln22 ..) ?_
 refine .P2 ?_
 refine .nil (.seq (.cond rfl (fun ht37 => ?_) fun ht37 => ?_))
 ·try simp only [nz] at ht37
  refine .seq (.region ?_)
  refine .call _ rfl rfl rfl rfl rfl rfl (fun m hm => awake_ok) ?_
  refine .P ?_
  refine .nil (.seq (.ret (.seq ?_)))
  exact .end_ rfl rfl (fun m hm => ⟨rfl, hm.ext⟩)
 try simp only [nz] at ht37
 have h0 : 0 < l.length := by omega
 obtain ⟨p, hp, hpe⟩ := idx_ex t h0 (by omega)
 obtain ⟨q, hq, hqe⟩ := idx_ex u h0 (by omega)
 refine .skip (.seq (.seq ?_))
 refine .D [(15, 0), (15, 1), (15, 0), (3, 4), (15, 12), (15, 31), (15, 63), (15, 0), (15, 128), (15, 0), (3, 512), (15, 1536), (15, 3968), (15, 8064), (15, 127), (15, 32767)] (by kernel_rfl) (by kernel_rfl) (fun base hbase hB => ?_)
 refine .P ?_
 refine .convInt rfl rfl rfl rfl rfl underlying3 underlying34 rfl (.P ?_)
 refine .len rfl rfl rfl rfl rfl rfl (ln22 ..) ?_
 refine .convInt rfl rfl rfl rfl rfl underlying3 underlying34 rfl ?_
 refine .as 43 (.int .u64 (Int.ofNat l.length)) rfl (congrArg (Value.int .u64) (by rw [wr_in] <;> simp [IntKind.min, IntKind.max, IntKind.signed, IntKind.bits] <;> omega)) ?_
 refine .bin rfl rfl rfl rfl rfl rfl rfl (binS_rem (b := Int.ofNat l.length) (by simp only [Int.ofNat_eq_natCast]; omega)) ?_
 refine .convInt rfl rfl rfl rfl rfl underlying34 underlying3 rfl ?_
 refine .as 45 (.int .i64 (Int.ofNat p)) rfl (congrArg (Value.int .i64) hpe) ?_
 refine .P ?_
 refine .convInt rfl rfl rfl rfl rfl underlying3 underlying34 rfl (.P ?_)
 refine .len rfl rfl rfl rfl rfl rfl (ln22 ..) ?_
 refine .convInt rfl rfl rfl rfl rfl underlying3 underlying34 rfl ?_
 refine .as 50 (.int .u64 (Int.ofNat l.length)) rfl (congrArg (Value.int .u64) (by rw [wr_in] <;> simp [IntKind.min, IntKind.max, IntKind.signed, IntKind.bits] <;> omega)) ?_
 refine .bin rfl rfl rfl rfl rfl rfl rfl (binS_rem (b := Int.ofNat l.length) (by simp only [Int.ofNat_eq_natCast]; omega)) ?_
 refine .convInt rfl rfl rfl rfl rfl underlying34 underlying3 rfl ?_
 refine .as 52 (.int .i64 (Int.ofNat q)) rfl (congrArg (Value.int .i64) hqe) ?_
 iterate 2 refine .P ?_
 refine .nil (.seq (.seq (.region (.P ?_))))
 refine .calln _ _ _ rfl rfl rfl rfl rfl rfl (fun m hm => own_ok hm.lole (hlA.mono (Mem.kr hm) (RTy.mono (Mem.kr hm))) hwl hn14) (fun z1 hz1 => ?_)
 refine .P2 ?_
 refine .calln _ _ _ rfl rfl rfl rfl rfl rfl (fun m hm => Equal_ok (t := Int.ofNat p) (u := Int.ofNat q) hm.lole (hz1.mono (InH.kr hm fun p_ hp_ => (List.mem_append_left _ hp_)) fun x_ cs_ h_ => RTy.mono (InH.kr hm fun p_ hp_ => (List.mem_append_left _ hp_)) x_ cs_ h_.1) hwl hn14) (fun x1 hx1 => ?_)
 obtain ⟨b1, x1e, hb1⟩ := two_val hx1 he0 hp hq
 subst x1e
 iterate 5 refine .P ?_
 refine .nil (.seq (.seq (.region (.P ?_))))
 refine .calln _ _ _ rfl rfl rfl rfl rfl rfl (fun m hm => own_ok hm.lole (hlA.mono (Mem.kr hm) (RTy.mono (Mem.kr hm))) hwl hn14) (fun z2 hz2 => ?_)
 refine .P2 ?_
 refine .calln _ _ _ rfl rfl rfl rfl rfl rfl (fun m hm => Equal_ok (t := Int.ofNat q) (u := Int.ofNat p) hm.lole (hz2.mono (InH.kr hm fun p_ hp_ => (List.mem_append_left _ hp_)) fun x_ cs_ h_ => RTy.mono (InH.kr hm fun p_ hp_ => (List.mem_append_left _ hp_)) x_ cs_ h_.1) hwl hn14) (fun x2 hx2 => ?_)
 obtain ⟨b2, x2e, hb2⟩ := two_val hx2 he0 hq hp
 subst x2e
 iterate 5 refine .P ?_
 refine .nil (.seq (.seq (.region (.P ?_))))
 refine .calln _ _ _ rfl rfl rfl rfl rfl rfl (fun m hm => own_ok hm.lole (hlA.mono (Mem.kr hm) (RTy.mono (Mem.kr hm))) hwl hn14) (fun z3 hz3 => ?_)
 refine .P ?_
 refine .calln _ _ _ rfl rfl rfl rfl rfl rfl (fun m hm => Text_ok (t := Int.ofNat p) hm.lole (hz3.mono (InH.kr hm fun p_ hp_ => (List.mem_append_left _ hp_)) fun x_ cs_ h_ => RTy.mono (InH.kr hm fun p_ hp_ => (List.mem_append_left _ hp_)) x_ cs_ h_.1) hwl hn14) (fun x3 hx3 => ?_)
 obtain ⟨s1, x3e, hs1⟩ := text_val hx3 he0 hp
 subst x3e
 iterate 5 refine .P ?_
 refine .nil (.seq (.seq (.region (.P ?_))))
 refine .calln _ _ _ rfl rfl rfl rfl rfl rfl (fun m hm => own_ok hm.lole (hlA.mono (Mem.kr hm) (RTy.mono (Mem.kr hm))) hwl hn14) (fun z4 hz4 => ?_)
 refine .P ?_
 refine .calln _ _ _ rfl rfl rfl rfl rfl rfl (fun m hm => Text_ok (t := Int.ofNat q) hm.lole (hz4.mono (InH.kr hm fun p_ hp_ => (List.mem_append_left _ hp_)) fun x_ cs_ h_ => RTy.mono (InH.kr hm fun p_ hp_ => (List.mem_append_left _ hp_)) x_ cs_ h_.1) hwl hn14) (fun x4 hx4 => ?_)
 obtain ⟨s2, x4e, hs2⟩ := text_val hx4 he0 hq
 subst x4e
 have hsb := text_same hWl hb1 hs1 hs2
 have hb12 := eq_symB hWl hb1 hb2
 subst hb12
 iterate 4 refine .P ?_
 refine .drop (h' := []) (List.nil_sublist _) ?_
 refine .P ?_
 refine .nil (.seq ?_)
 refine .joinA (True) [] ?_ (fun _ => ?_)
 ·refine .seq (.region (.P2 ?_))
  refine .as 84 (.bool false) rfl (congrArg Value.bool (rfl)) ?_
  refine .P3 ?_
  refine .as 87 (.bool false) rfl (congrArg Value.bool (rfl)) ?_
  iterate 4 refine .P ?_
  refine .as 91 (.bool false) rfl (congrArg Value.bool (rfl)) ?_
  iterate 4 refine .P ?_
  refine .as 95 (.bool false) rfl (congrArg Value.bool (rfl)) ?_
  iterate 4 refine .P ?_
  refine .p (v := .bool false) rfl rfl rfl (by simp only [opE, evE, look]; cases b1 <;> kernel_rfl) ?_
  iterate 6 refine .P ?_
  refine .as 106 (.bool b1) rfl (congrArg Value.bool hsb) ?_
  refine .p (v := .bool false) rfl rfl rfl (by simp only [opE, evE, look]; cases b1 <;> kernel_rfl) ?_
  iterate 6 refine .P ?_
  refine .splitB 113 rfl (fun hs_113 => ?_) (fun hs_113 => ?_)
  ·try simp only [nz] at hs_113
   have hb1t : b1 = true := hb1.2 (by rw [show p = q by omega]; exact EqT.refl l q)
   refine .P2 ?_
   refine .as 115 (.bool false) rfl (congrArg Value.bool (by rw [hb1t]; rfl)) ?_
   refine .P2 ?_
   refine .nil (.seq (.cond_false rfl (.skip ?_)))
   exact .J (trivial)
  try simp only [nz] at hs_113
  iterate 2 refine .O ?_
  refine .P2 ?_
  refine .nil (.seq (.cond_false rfl (.skip ?_)))
  exact .J (trivial)
 refine .seq (.seq (.region (.P ?_)))
 refine .nil (.seq (.block ?_))
 refine .loop (α := Nat) (fun i => [(0, .slice aA l.length cA), (1, .int .i64 (Int.ofNat (p))), (2, .int .i64 (Int.ofNat (q))), (7, .bool b1), (15, .int .i64 (Int.ofNat (i)))]) (fun i => []) (fun i => i ≤ l.length) (fun i => l.length - i) 0 (Nat.zero_le _) ⟨rfl, rfl, rfl, rfl, rfl, trivial⟩ (List.nil_sublist _) (fun i hi => ?_)
 refine .seq (.seq (.region (.P2 ?_)))
 refine .G (ln22 ..) ?_
 refine .P ?_
 refine .nil (.seq (.cond rfl (fun ht121 => ?_) fun ht121 => ?_))
 ·try simp only [nz] at ht121
  refine .skip (.seq (.seq (.block (.seq (.region (.P ?_))))))
  refine .calln _ _ _ rfl rfl rfl rfl rfl rfl (fun m hm => own_ok hm.lole (hlA.mono (Mem.kr hm) (RTy.mono (Mem.kr hm))) hwl hn14) (fun z5 hz5 => ?_)
  refine .P2 ?_
  refine .calln _ _ _ rfl rfl rfl rfl rfl rfl (fun m hm => Equal_ok (t := Int.ofNat p) (u := Int.ofNat i) hm.lole (hz5.mono (InH.kr hm fun p_ hp_ => (List.mem_append_left _ hp_)) fun x_ cs_ h_ => RTy.mono (InH.kr hm fun p_ hp_ => (List.mem_append_left _ hp_)) x_ cs_ h_.1) hwl hn14) (fun x5 hx5 => ?_)
  obtain ⟨b3, x5e, hb3⟩ := two_val hx5 he0 hp (by omega)
  subst x5e
  iterate 5 refine .P ?_
  refine .nil (.seq (.seq (.region (.P ?_))))
  refine .calln _ _ _ rfl rfl rfl rfl rfl rfl (fun m hm => own_ok hm.lole (hlA.mono (Mem.kr hm) (RTy.mono (Mem.kr hm))) hwl hn14) (fun z6 hz6 => ?_)
  refine .P2 ?_
  refine .calln _ _ _ rfl rfl rfl rfl rfl rfl (fun m hm => Equal_ok (t := Int.ofNat q) (u := Int.ofNat i) hm.lole (hz6.mono (InH.kr hm fun p_ hp_ => (List.mem_append_left _ hp_)) fun x_ cs_ h_ => RTy.mono (InH.kr hm fun p_ hp_ => (List.mem_append_left _ hp_)) x_ cs_ h_.1) hwl hn14) (fun x6 hx6 => ?_)
  obtain ⟨b4, x6e, hb4⟩ := two_val hx6 he0 hq (by omega)
  subst x6e
  iterate 5 refine .P ?_
  refine .nil (.seq (.seq (.region (.P2 ?_))))
  refine .as 141 (.bool false) rfl (congrArg Value.bool (rfl)) ?_
  refine .P3 ?_
  refine .as 144 (.bool false) rfl (congrArg Value.bool (rfl)) ?_
  iterate 4 refine .P ?_
  refine .splitB 148 rfl (fun hs_148 => ?_) (fun hs_148 => ?_)
  ·try simp only [nz] at hs_148
   have h34 := eq_traB hWl hb1 hb3 hb4 hs_148
   refine .P2 ?_
   refine .p (v := .bool false) rfl rfl rfl (by simp only [opE, evE, look]; rw [h34]; cases b4 <;> kernel_rfl) ?_
   iterate 5 refine .P ?_
   refine .splitB 156 rfl (fun hs_156 => ?_) (fun hs_156 => ?_)
   ·try simp only [nz] at hs_156
    refine .P3 ?_
    refine .splitB 159 rfl (fun hs_159 => ?_) (fun hs_159 => ?_)
    ·try simp only [nz] at hs_159
     have hb1t := eq_clsB hWl hb1 hb3 hb4 hs_156 hs_159
     refine .P2 ?_
     refine .as 161 (.bool false) rfl (congrArg Value.bool (by rw [hb1t]; rfl)) ?_
     refine .P2 ?_
     refine .nil (.seq (.cond_false rfl (.skip (.blk (.seq (.region (.P2 ?_)))))))
     refine .W 123 i ?_
     refine .P ?_
     refine .nil ?_
     exact .loop (i + 1) (by omega) (by omega) ⟨rfl, rfl, rfl, rfl, rfl, trivial⟩ (List.nil_sublist _)
    try simp only [nz] at hs_159
    iterate 2 refine .O ?_
    refine .P2 ?_
    refine .nil (.seq (.cond_false rfl (.skip (.blk (.seq (.region (.P2 ?_)))))))
    refine .W 123 i ?_
    refine .P ?_
    refine .nil ?_
    exact .loop (i + 1) (by omega) (by omega) ⟨rfl, rfl, rfl, rfl, rfl, trivial⟩ (List.nil_sublist _)
   try simp only [nz] at hs_156
   refine .O ?_
   refine .P2 ?_
   iterate 2 refine .O ?_
   refine .P2 ?_
   refine .nil (.seq (.cond_false rfl (.skip (.blk (.seq (.region (.P2 ?_)))))))
   refine .W 123 i ?_
   refine .P ?_
   refine .nil ?_
   exact .loop (i + 1) (by omega) (by omega) ⟨rfl, rfl, rfl, rfl, rfl, trivial⟩ (List.nil_sublist _)
  try simp only [nz] at hs_148
  iterate 3 refine .O ?_
  iterate 5 refine .P ?_
  refine .splitB 156 rfl (fun hs_156 => ?_) (fun hs_156 => ?_)
  ·try simp only [nz] at hs_156
   refine .P3 ?_
   refine .splitB 159 rfl (fun hs_159 => ?_) (fun hs_159 => ?_)
   ·try simp only [nz] at hs_159
    have hb1t := eq_clsB hWl hb1 hb3 hb4 hs_156 hs_159
    refine .P2 ?_
    refine .as 161 (.bool false) rfl (congrArg Value.bool (by rw [hb1t]; rfl)) ?_
    refine .P2 ?_
    refine .nil (.seq (.cond_false rfl (.skip (.blk (.seq (.region (.P2 ?_)))))))
    refine .W 123 i ?_
    refine .P ?_
    refine .nil ?_
    exact .loop (i + 1) (by omega) (by omega) ⟨rfl, rfl, rfl, rfl, rfl, trivial⟩ (List.nil_sublist _)
   try simp only [nz] at hs_159
   iterate 2 refine .O ?_
   refine .P2 ?_
   refine .nil (.seq (.cond_false rfl (.skip (.blk (.seq (.region (.P2 ?_)))))))
   refine .W 123 i ?_
   refine .P ?_
   refine .nil ?_
   exact .loop (i + 1) (by omega) (by omega) ⟨rfl, rfl, rfl, rfl, rfl, trivial⟩ (List.nil_sublist _)
  try simp only [nz] at hs_156
  refine .O ?_
  refine .P2 ?_
  iterate 2 refine .O ?_
  refine .P2 ?_
  refine .nil (.seq (.cond_false rfl (.skip (.blk (.seq (.region (.P2 ?_)))))))
  refine .W 123 i ?_
  refine .P ?_
  refine .nil ?_
  exact .loop (i + 1) (by omega) (by omega) ⟨rfl, rfl, rfl, rfl, rfl, trivial⟩ (List.nil_sublist _)
 try simp only [nz] at ht121
 refine .exit (.seq (.loop (.here (.seq (.seq (.region (.P ?_)))))))
 refine .nil (.seq (.ret ?_))
 exact .end_ rfl rfl (fun m hm => ⟨rfl, hm.ext⟩)
end Go.Proofs.YtmfbljaemhpokaaGreatDoor
