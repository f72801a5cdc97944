/-
  TypesChecks: the functions that it calls, followed, 2. Conditions: none.
-/
import Derived.Test.YtmfbljaemhpokaaGreatDoorAwk
import Derived.Test.YtmfbljaemhpokaaGreatDoorGra
import Derived.Test.YtmfbljaemhpokaaGreatDoorChecks1
namespace Go.Proofs.YtmfbljaemhpokaaGreatDoor
open Go Go.Ab
set_option linter.unusedVariables false
set_option linter.unusedSimpArgs false
set_option linter.unusedSectionVars false
theorem rcheck_ok {l : List Ty} {vl : Value} {m : AW} (hm : m.lo ≤ m.next) (hlS : Sl (Mem m) 5 (RTy (Mem m)) l vl) (hwl : ∀ (i : Nat) (a : Ty), l[i]? = some a → FewT a) (hn14 : l.length ≤ 14) : Fc Tryz.prog 17 [vl] m fun v m' => ∃ e : Int, ChkP l e ∧ v = .int .i64 e ∧ Ext m m' ∧ News m m' [] := by
 have hlS0 := hlS
 obtain ⟨al, cl, rfl, hnl, hl⟩ := hlS
 refine Fc.body (c := _) Tryz.func17 rfl rfl rfl rfl hm ?_
 refine Ce.seq (Ce.region (Ie.p rfl rfl rfl rfl (Ie.nil (Ne.seq (Ce.seq (Ce.seq (Ce.region (Ie.p rfl rfl rfl rfl ?_))))))))
 refine Ie.len rfl rfl rfl rfl rfl (ln22 ..) ?_
 refine Ie.p rfl rfl rfl rfl (Ie.nil (Ne.seq ?_))
 refine Ce.cond rfl (fun ht13 => ?_) (fun ht13 => ?_)
 ·try simp only [nz] at ht13
  exfalso; omega
 ·try simp only [nz] at ht13
  refine Ce.skip (Ne.seq (Ce.seq (Ce.seq (Ce.region (Ie.p rfl rfl rfl rfl (Ie.nil (Ne.seq (Ce.block ?_))))))))
 
  refine Ce.loop (α := Nat) (fun i => [(0, .slice al l.length cl), (3, .int .i64 (Int.ofNat (i)))]) (fun i => []) (fun i => i ≤ l.length ∧ ∀ (j : Nat) (x : Ty), j < i → l[j]? = some x → singleE l.length x = 0) (fun i => l.length - i) 0 ⟨Nat.zero_le _, fun _ _ h => (by cases h)⟩ ⟨rfl, rfl, trivial⟩ (List.nil_sublist _) (fun i hi => ?_)
  refine Ce.seq (Ce.seq (Ce.region ?_))
  iterate 2 refine Ie.p rfl rfl rfl rfl ?_
  refine Ie.len rfl rfl rfl rfl rfl (ln22 ..) ?_
  refine Ie.p rfl rfl rfl rfl (Ie.nil (Ne.seq ?_))
  refine Ce.cond rfl (fun ht17 => ?_) (fun ht17 => ?_)
  ·try simp only [nz] at ht17
   have hlt : i < l.length := by omega
   obtain ⟨a, ha⟩ : ∃ w_, l[i]? = some w_ := ⟨_, List.getElem?_eq_getElem hlt⟩
   rcases hl with ⟨e0, -⟩ | ⟨b, off, cs, el, g, md, mate, rfl, ⟨hb, hh⟩, hle, hc⟩
   ·rw [e0] at hlt; simp at hlt
   have hr := hc i a ha
   obtain ⟨ve, vf, va, hr, he, hf, hga⟩ := hr
   have hraS : RTy (Mem m) a [.int .i64 a.kind, ve, .string a.name, vf, va] := ⟨ve, vf, va, rfl, he, hf, hga⟩
   obtain ⟨ae, ce, rfl, hne, he⟩ := he
   obtain ⟨af, cf, rfl, hnf, hf⟩ := hf
   obtain ⟨aa, ca, rfl, hna, hga⟩ := hga
   have hw := hwl i a ha
   refine Ce.skip (Ne.seq (Ce.seq (Ce.block (Ce.seq (Ce.region ?_)))))
   iterate 3 refine Ie.p rfl rfl rfl rfl ?_
   refine Ie.indexAddr rfl rfl rfl rfl Tryz.underlying22 sz50 rfl rfl (by omega) ?_
   refine Ie.loadAgg rfl rfl rfl rfl rfl ag50 sz50 (.base hh hb (by simp)) (by omega) hr ?_
   refine Ie.call _ rfl rfl rfl rfl rfl rfl (fun m hm => rown_ok hm.lole (RTy.mono (Mem.kr hm) _ _ hraS) hw) ?_
   refine Ie.p rfl rfl rfl rfl (Ie.nil (Ne.seq (Ce.seq (Ce.region ?_))))
   iterate 2 refine Ie.p rfl rfl rfl rfl ?_
   refine Ie.nil (Ne.seq ?_)
   refine Ce.cond rfl (fun ht27 => ?_) (fun ht27 => ?_)
   ·try simp only [nz] at ht27
    refine Ce.seq (Ce.region ?_)
    iterate 2 refine Ie.p rfl rfl rfl rfl ?_
    refine Ie.nil (Ne.seq (Ce.ret (Re.blk (Re.seq (Re.loop (Re.blk (Re.seq ?_)))))))
    exact Re.end_ rfl rfl (fun m hm => ⟨_, .inl ⟨by rw [first_at ha hi.2 (by assumption)]; assumption, (first_at ha hi.2 (by assumption)).symm⟩, rfl, hm.ext, News.nil _ _⟩)
   ·try simp only [nz] at ht27
    refine Ce.skip (Ne.blk (Ne.seq (Ce.region ?_)))
    iterate 2 refine Ie.p rfl rfl rfl rfl ?_
    refine Ie.as 19 (.int .i64 (Int.ofNat (i + 1))) rfl (congrArg (Value.int .i64) (wr_succ (by omega))) ?_
    refine Ie.p rfl rfl rfl rfl (Ie.nil ?_)
    exact Ne.loop (i + 1) ⟨hlt, upto_succ hi.2 ha (by assumption)⟩ (by omega) ⟨rfl, rfl, trivial⟩ (List.nil_sublist _)
  ·try simp only [nz] at ht17
   have hWl : Well l := well_of (by omega) hi.2
   have hbd : ∀ (i : Nat) (a : Ty), l[i]? = some a → badB l.length a = false := fun i a ha => hWl.sound i a ha
   refine Ce.exit (Xe.seq (Xe.loop (Xe.here (Ne.seq (Ce.seq (Ce.seq (Ce.region (Ie.p rfl rfl rfl rfl (Ie.nil (Ne.seq (Ce.block ?_)))))))))))
  
   refine Ce.loop (α := Nat) (fun i => [(0, .slice al l.length cl), (5, .int .i64 (Int.ofNat (i)))]) (fun i => []) (fun i => i ≤ l.length ∧ ∀ (j : Nat) (x : Ty), j < i → l[j]? = some x → fitE l x = 0) (fun i => l.length - i) 0 ⟨Nat.zero_le _, fun _ _ h => (by cases h)⟩ ⟨rfl, rfl, trivial⟩ (List.nil_sublist _) (fun i hj => ?_)
   refine Ce.seq (Ce.seq (Ce.region ?_))
   iterate 2 refine Ie.p rfl rfl rfl rfl ?_
   refine Ie.len rfl rfl rfl rfl rfl (ln22 ..) ?_
   refine Ie.p rfl rfl rfl rfl (Ie.nil (Ne.seq ?_))
   refine Ce.cond rfl (fun ht32 => ?_) (fun ht32 => ?_)
   ·try simp only [nz] at ht32
    have hlt : i < l.length := by omega
    obtain ⟨a, ha⟩ : ∃ w_, l[i]? = some w_ := ⟨_, List.getElem?_eq_getElem hlt⟩
    rcases hl with ⟨e0, -⟩ | ⟨b, off, cs, el, g, md, mate, rfl, ⟨hb, hh⟩, hle, hc⟩
    ·rw [e0] at hlt; simp at hlt
    have hr := hc i a ha
    obtain ⟨ve, vf, va, hr, he, hf, hga⟩ := hr
    have hraS : RTy (Mem m) a [.int .i64 a.kind, ve, .string a.name, vf, va] := ⟨ve, vf, va, rfl, he, hf, hga⟩
    obtain ⟨ae, ce, rfl, hne, he⟩ := he
    obtain ⟨af, cf, rfl, hnf, hf⟩ := hf
    obtain ⟨aa, ca, rfl, hna, hga⟩ := hga
    have hw := hwl i a ha
    refine Ce.skip (Ne.seq (Ce.seq (Ce.block (Ce.seq (Ce.region ?_)))))
    iterate 3 refine Ie.p rfl rfl rfl rfl ?_
    refine Ie.indexAddr rfl rfl rfl rfl Tryz.underlying22 sz50 rfl rfl (by omega) ?_
    refine Ie.loadAgg rfl rfl rfl rfl rfl ag50 sz50 (.base hh hb (by simp)) (by omega) hr ?_
    refine Ie.call _ rfl rfl rfl rfl rfl rfl (fun m hm => rfits_ok hm.lole (hlS0.mono (Mem.kr hm) (RTy.mono (Mem.kr hm))) hwl (RTy.mono (Mem.kr hm) _ _ hraS) hw (single_zero (hWl.all i a ha)).1 (hbd i a ha)) ?_
    refine Ie.p rfl rfl rfl rfl (Ie.nil (Ne.seq (Ce.seq (Ce.region ?_))))
    iterate 2 refine Ie.p rfl rfl rfl rfl ?_
    refine Ie.nil (Ne.seq ?_)
    refine Ce.cond rfl (fun ht42 => ?_) (fun ht42 => ?_)
    ·try simp only [nz] at ht42
     refine Ce.seq (Ce.region ?_)
     iterate 2 refine Ie.p rfl rfl rfl rfl ?_
     refine Ie.nil (Ne.seq (Ce.ret (Re.blk (Re.seq (Re.loop (Re.blk (Re.seq ?_)))))))
     exact Re.end_ rfl rfl (fun m hm => ⟨_, .inr (.inl ⟨hWl.first, by rw [first_at ha hj.2 (by assumption)]; assumption, (first_at ha hj.2 (by assumption)).symm⟩), rfl, hm.ext, News.nil _ _⟩)
    ·try simp only [nz] at ht42
     refine Ce.skip (Ne.blk (Ne.seq (Ce.region ?_)))
     iterate 2 refine Ie.p rfl rfl rfl rfl ?_
     refine Ie.as 34 (.int .i64 (Int.ofNat (i + 1))) rfl (congrArg (Value.int .i64) (wr_succ (by omega))) ?_
     refine Ie.p rfl rfl rfl rfl (Ie.nil ?_)
     exact Ne.loop (i + 1) ⟨hlt, upto_succ hj.2 ha (by assumption)⟩ (by omega) ⟨rfl, rfl, trivial⟩ (List.nil_sublist _)
   ·try simp only [nz] at ht32
    have hfit0 : firstE (fitE l) l = 0 := first_none fun j y hj_ hy => hj.2 j y (by omega) hy
    refine Ce.exit (Xe.seq (Xe.loop (Xe.here (Ne.seq (Ce.seq (Ce.region (Ie.p rfl rfl rfl rfl ?_)))))))
    refine Ie.calln _ _ _ rfl rfl rfl rfl rfl rfl (fun m hm => rsteps_ok hm.lole (hlS0.mono (Mem.kr hm) (RTy.mono (Mem.kr hm))) hwl hbd hn14) (fun x hx => ?_)
    obtain ⟨xh, xv⟩ := x
    obtain ⟨rows, hvS, hrl, hrows⟩ := hx
    simp only at hvS
    refine Ie.p rfl rfl rfl rfl (Ie.nil (Ne.seq (Ce.seq (Ce.seq (Ce.region (Ie.p rfl rfl rfl rfl (Ie.nil (Ne.seq (Ce.block ?_)))))))))
   
    refine Ce.loop (α := Nat) (fun i => [(0, .slice al l.length cl), (7, xv), (8, .int .i64 (Int.ofNat (i)))]) (fun i => xh ++ []) (fun i => i ≤ l.length ∧ ∀ u : Nat, u < i → ¬ Path l u u) (fun i => l.length - i) 0 ⟨Nat.zero_le _, fun _ h => absurd h (Nat.not_lt_zero _)⟩ ⟨rfl, rfl, rfl, trivial⟩ (List.Sublist.refl _) (fun i hk => ?_)
    refine Ce.seq (Ce.seq (Ce.region ?_))
    iterate 2 refine Ie.p rfl rfl rfl rfl ?_
    refine Ie.len rfl rfl rfl rfl rfl (ln22 ..) ?_
    refine Ie.p rfl rfl rfl rfl (Ie.nil (Ne.seq ?_))
    refine Ce.cond rfl (fun ht49 => ?_) (fun ht49 => ?_)
    ·try simp only [nz] at ht49
     have hlt : i < l.length := by omega
     obtain ⟨row, hrow⟩ : ∃ row, rows[i]? = some row := ⟨_, List.getElem?_eq_getElem (by rw [hrl]; exact hlt)⟩
     obtain ⟨hrw, hcell⟩ := hrows i row hrow
     obtain ⟨b0, hb0⟩ : ∃ b0, row[i]? = some b0 := ⟨_, List.getElem?_eq_getElem (by rw [hrw]; exact hlt)⟩
     have hcyc := hcell i b0 hb0
     obtain ⟨av, capv, rfl, hnv, hvS⟩ := hvS
     have hltV : i < rows.length := by rw [hrl]; exact hlt
     rcases hvS with ⟨e0, -⟩ | ⟨bV, offV, csV, elV, gV, mdV, mateV, rfl, hbV, hleV, hcV⟩
     ·rw [e0] at hltV; simp at hltV
     obtain ⟨vr, hrV, aR, capR, rfl, hnR, hvR⟩ := hcV i row hrow
     have hltR : i < row.length := by rw [hrw]; exact hlt
     rcases hvR with ⟨e0, -⟩ | ⟨bR, offR, csR, elR, gR, mdR, mateR, rfl, hbR, hleR, hcR⟩
     ·rw [e0] at hltR; simp at hltR
     have hrR := hcR i b0 hb0
     refine Ce.skip (Ne.seq (Ce.seq (Ce.block (Ce.seq (Ce.region ?_)))))
     iterate 2 refine Ie.p rfl rfl rfl rfl ?_
     refine Ie.indexAddr rfl rfl rfl rfl Tryz.underlying97 sz99 rfl rfl (hltV) ?_
     refine Ie.load rfl rfl rfl rfl rfl ag99 (InH.sees (l := xh) (fun p_ hp_ => List.mem_append_left _ hp_) _ _ hbV) (cell_of_take hrV (k := 0) rfl) ?_
     refine Ie.p rfl rfl rfl rfl ?_
     refine Ie.indexAddr rfl rfl rfl rfl Tryz.underlying99 sz4 rfl rfl (hltR) ?_
     refine Ie.load rfl rfl rfl rfl rfl ag4 (InH.sees (l := xh) (fun p_ hp_ => List.mem_append_left _ hp_) _ _ hbR) (cell_of_take hrR (k := 0) rfl) ?_
     refine Ie.nil (Ne.seq ?_)
     refine Ce.cond rfl (fun ht58 => ?_) (fun ht58 => ?_)
     ·refine Ce.seq (Ce.region (Ie.p rfl rfl rfl rfl (Ie.nil (Ne.seq (Ce.ret (Re.blk (Re.seq (Re.loop (Re.blk (Re.seq ?_))))))))))
      exact Re.end_ rfl rfl (fun m hm => ⟨10, .inr (.inr ⟨hWl.first, hfit0, hWl.sound, .inl ⟨⟨i, hcyc.1 ht58⟩, rfl⟩⟩), rfl, hm.ext, News.nil _ _⟩)
     ·refine Ce.skip (Ne.blk (Ne.seq (Ce.region ?_)))
      iterate 2 refine Ie.p rfl rfl rfl rfl ?_
      refine Ie.as 51 (.int .i64 (Int.ofNat (i + 1))) rfl (congrArg (Value.int .i64) (wr_succ (by omega))) ?_
      refine Ie.p rfl rfl rfl rfl (Ie.nil ?_)
      exact Ne.loop (i + 1) ⟨hlt, upto_not (P := fun u => Path l u u) hk.2 fun p => (by have := hcyc.2 p; rw [this] at ht58; cases ht58)⟩ (by omega) ⟨rfl, rfl, rfl, trivial⟩ (List.Sublist.refl _)
    ·try simp only [nz] at ht49
     obtain ⟨r0, hr00⟩ := ranked_of_far hWl.sound (farF_path hWl.sound hrl hrows) (fun u p => hk.2 u (by have := p.lt; omega) p)
     obtain ⟨r, hr0, hrn⟩ := hr00.small hWl.sound
     obtain ⟨sz, hz⟩ := SzFix.exists_ hWl.sound hr0
     refine Ce.exit (Xe.seq (Xe.loop (Xe.here (Ne.seq (Ce.seq (Ce.region (Ie.p rfl rfl rfl rfl ?_)))))))
     refine Ie.calln _ _ _ rfl rfl rfl rfl rfl rfl (fun m hm => rsizes_ok hm.lole (hlS0.mono (Mem.kr hm) (RTy.mono (Mem.kr hm))) hwl hbd hn14 hr0 hrn hz) (fun bz _ => ?_)
     refine Ie.p rfl rfl rfl rfl (Ie.nil (Ne.seq (Ce.seq (Ce.seq (Ce.region (Ie.p rfl rfl rfl rfl (Ie.nil (Ne.seq (Ce.block ?_)))))))))
    
     refine Ce.loop (α := Nat) (fun i => [(0, .slice al l.length cl), (9, .slice (some ⟨bz, 0, none⟩) l.length l.length), (10, .int .i64 (Int.ofNat (i)))]) (fun i => [(bz, .cells (ints sz) 3 false .plain none)]) (fun i => i ≤ l.length ∧ allN (bigAt sz l) i = true) (fun i => l.length - i) 0 ⟨Nat.zero_le _, rfl⟩ ⟨rfl, rfl, rfl, trivial⟩ (.cons_cons _ (List.nil_sublist _)) (fun i hA => ?_)
     refine Ce.seq (Ce.seq (Ce.region ?_))
     iterate 2 refine Ie.p rfl rfl rfl rfl ?_
     refine Ie.len rfl rfl rfl rfl rfl (ln22 ..) ?_
     refine Ie.p rfl rfl rfl rfl (Ie.nil (Ne.seq ?_))
     refine Ce.cond rfl (fun ht64 => ?_) (fun ht64 => ?_)
     ·try simp only [nz] at ht64
      have hlt : i < l.length := by omega
      obtain ⟨a, ha⟩ : ∃ w_, l[i]? = some w_ := ⟨_, List.getElem?_eq_getElem hlt⟩
      rcases hl with ⟨e0, -⟩ | ⟨b, off, cs, el, g, md, mate, rfl, ⟨hb, hh⟩, hle, hc⟩
      ·rw [e0] at hlt; simp at hlt
      have hr := hc i a ha
      obtain ⟨ve, vf, va, hr, he, hf, hga⟩ := hr
      have hraS : RTy (Mem m) a [.int .i64 a.kind, ve, .string a.name, vf, va] := ⟨ve, vf, va, rfl, he, hf, hga⟩
      obtain ⟨ae, ce, rfl, hne, he⟩ := he
      obtain ⟨af, cf, rfl, hnf, hf⟩ := hf
      obtain ⟨aa, ca, rfl, hna, hga⟩ := hga
      have hw := hwl i a ha
      have hat := bigAt_get (sz := sz) ha
      obtain ⟨s0, hs0⟩ : ∃ s0, sz[i]? = some s0 := ⟨_, List.getElem?_eq_getElem (by rw [hz.len]; exact hlt)⟩
      have hs1 : szAt sz (Int.ofNat i) = s0 := szAt_get hs0
      refine Ce.skip (Ne.seq (Ce.seq (Ce.block (Ce.seq ?_))))
      refine Ce.draw [⟨0, .p, true, true, 0⟩, ⟨1, .p, true, true, 0⟩, ⟨2, .p, true, true, 0⟩, ⟨3, .p, true, true, 6⟩, ⟨4, .l, true, true, 14⟩, ⟨5, .p, true, true, 0⟩, ⟨6, .p, true, true, 0⟩, ⟨7, .p, true, true, 96⟩, ⟨8, .l, true, true, 224⟩, ⟨9, .h, true, true, 511⟩] (by kernel_rfl) (by kernel_rfl) (fun base hbase hB => ?_)
      refine De.p rfl rfl rfl rfl rfl (De.p rfl rfl rfl rfl rfl (De.p rfl rfl rfl rfl rfl ?_))
      refine De.indexAddr rfl rfl rfl rfl rfl Tryz.underlying22 sz50 rfl rfl (by omega) ?_
      refine De.loadAgg rfl rfl rfl rfl rfl rfl rfl rfl ag50 sz50 (.base hh hb (by simp)) (by omega) hr ?_
      refine De.p rfl rfl rfl rfl rfl (De.p rfl rfl rfl rfl rfl ?_)
      refine De.indexAddr rfl rfl rfl rfl rfl Tryz.underlying32 sz3 rfl rfl (hlt) ?_
      refine De.load rfl rfl rfl rfl rfl rfl rfl rfl ag3 (by repeat first | exact .head | exact .app .head | exact .base ‹_› ‹_› (by simp) | refine .tail ?_) (map_cell hs0) ?_
      refine De.call _ rfl rfl rfl rfl rfl rfl rfl rfl rfl (fun m hm => rlarge_ok hm.lole (ints_sl (l := sz) (InH.kr (l := [(bz, .cells (ints sz) 3 false .plain none)]) hm (fun p_ hp_ => by simpa using hp_) _ _ (.head _)) hz.len hnl) (RTy.mono (Mem.kr hm) _ _ hraS) hw hz.ok (by rw [hz.len]; exact hbd i a ha)) ?_
      refine De.nil (Ne.seq ?_)
      refine Ce.cond rfl (fun ht76 => ?_) (fun ht76 => ?_)
      ·refine Ce.seq (Ce.region (Ie.p rfl rfl rfl rfl (Ie.nil (Ne.seq (Ce.ret (Re.blk (Re.seq (Re.loop (Re.blk (Re.seq ?_))))))))))
       exact Re.end_ rfl rfl (fun m hm => ⟨3, .inr (.inr ⟨hWl.first, hfit0, hWl.sound, .inr ⟨r, sz, hr0, hz, by rw [if_neg (by rw [allN_false hlt (by rw [hat, hs1, ht76]; rfl)]; decide)]⟩⟩), rfl, hm.ext, News.nil _ _⟩)
      ·refine Ce.skip (Ne.blk (Ne.seq (Ce.region ?_)))
       iterate 2 refine Ie.p rfl rfl rfl rfl ?_
       refine Ie.as 66 (.int .i64 (Int.ofNat (i + 1))) rfl (congrArg (Value.int .i64) (wr_succ (by omega))) ?_
       refine Ie.p rfl rfl rfl rfl (Ie.nil ?_)
       exact Ne.loop (i + 1) ⟨hlt, by rw [allN_succ, hA.2, hat, hs1, ht76]; rfl⟩ (by omega) ⟨rfl, rfl, rfl, trivial⟩ (.cons_cons _ (List.nil_sublist _))
     ·try simp only [nz] at ht64
      refine Ce.exit (Xe.seq (Xe.loop (Xe.here (Ne.seq (Ce.seq (Ce.region (Ie.p rfl rfl rfl rfl (Ie.nil (Ne.seq (Ce.ret ?_))))))))))
      exact Re.end_ rfl rfl (fun m hm => ⟨0, .inr (.inr ⟨hWl.first, hfit0, hWl.sound, .inr ⟨r, sz, hr0, hz, by rw [if_pos (by rw [← show i = l.length by omega]; exact hA.2)]⟩⟩), rfl, hm.ext, News.nil _ _⟩)

theorem asked_ok {l : List Ty} {vl : Value} {ts : List Int} {vt : Value} {m : AW} (hm : m.lo ≤ m.next) (hlS : Sl (Mem m) 5 (RTy (Mem m)) l vl) (hwl : ∀ (i : Nat) (a : Ty), l[i]? = some a → FewT a) (hn14 : l.length ≤ 14) (hts : Sl (Mem m) 1 RInt ts vt) : Fc Tryz.prog 61 [vl, vt] m fun v m' => ∃ e : Int, AskP l ts e ∧ v = .int .i64 e ∧ Ext m m' ∧ News m m' [] := by
 have hlS0 := hlS
 obtain ⟨al, cl, rfl, hnl, hl⟩ := hlS
 obtain ⟨at_, ct, rfl, hnt, hts⟩ := hts
 refine Fc.body (c := _) Tryz.func61 rfl rfl rfl rfl hm ?_
 refine Ce.seq (Ce.region (Ie.p rfl rfl rfl rfl (Ie.nil (Ne.seq (Ce.seq (Ce.seq (Ce.region (Ie.p rfl rfl rfl rfl ?_))))))))
 refine Ie.calln _ _ _ rfl rfl rfl rfl rfl rfl (fun m hm => check_ok hm.lole (hlS0.mono (Mem.kr hm) (RTy.mono (Mem.kr hm))) hwl hn14) (fun e he => ?_)
 refine Ie.p rfl rfl rfl rfl (Ie.nil (Ne.seq (Ce.seq (Ce.region ?_))))
 iterate 2 refine Ie.p rfl rfl rfl rfl ?_
 refine Ie.nil (Ne.seq ?_)
 refine Ce.cond rfl (fun ht11 => ?_) (fun ht11 => ?_)
 ·try simp only [nz] at ht11
  refine Ce.seq (Ce.region ?_)
  iterate 2 refine Ie.p rfl rfl rfl rfl ?_
  refine Ie.nil (Ne.seq (Ce.ret (Re.seq ?_)))
  exact Re.end_ rfl rfl (fun m hm => ⟨_, AskP.bad he (by omega), rfl, hm.ext, News.nil _ _⟩)
 ·try simp only [nz] at ht11
  have he0 : e = 0 := by omega
  subst he0
  refine Ce.skip (Ne.seq (Ce.seq (Ce.seq (Ce.region (Ie.p rfl rfl rfl rfl ?_)))))
  refine Ie.len rfl rfl rfl rfl rfl (ln32 ..) ?_
  refine Ie.p rfl rfl rfl rfl (Ie.nil (Ne.seq (Ce.block ?_)))
 
  refine Ce.loop (α := Nat) (fun i => [(0, .slice al l.length cl), (13, .slice at_ ts.length ct), (14, .int .i64 (Int.ofNat (ts.length))), (15, .int .i64 (Int.ofNat (i)))]) (fun i => []) (fun i => i ≤ ts.length ∧ ∀ (j : Nat) (t : Int), j < i → ts[j]? = some t → 0 ≤ t ∧ t < l.length) (fun i => ts.length - i) 0 ⟨Nat.zero_le _, fun _ _ h => (by cases h)⟩ ⟨rfl, rfl, rfl, rfl, trivial⟩ (List.nil_sublist _) (fun i hi => ?_)
  refine Ce.seq (Ce.region (Ie.p rfl rfl rfl rfl (Ie.nil (Ne.seq (Ce.seq ?_)))))
  refine Ce.cond rfl (fun ht16 => ?_) (fun ht16 => ?_)
  ·try simp only [nz] at ht16
   have hltE : i < ts.length := by omega
   obtain ⟨t, ht⟩ : ∃ w_, ts[i]? = some w_ := ⟨_, List.getElem?_eq_getElem hltE⟩
   rcases hts with ⟨e0, -⟩ | ⟨bE, offE, csE, elE, gE, mdE, mateE, rfl, ⟨hbE, hhE⟩, hleE, hcE⟩
   ·rw [e0] at hltE; simp at hltE
   have hrt := hcE i t ht
   refine Ce.skip (Ne.seq (Ce.seq (Ce.block (Ce.seq (Ce.region ?_)))))
   refine Ie.indexAddr rfl rfl rfl rfl Tryz.underlying32 sz3 rfl rfl (by omega) ?_
   refine Ie.load rfl rfl rfl rfl rfl ag3 (.base hhE hbE (by simp)) (cell_of_take hrt (k := 0) rfl) ?_
   refine Ie.p rfl rfl rfl rfl (Ie.nil (Ne.seq ?_))
   refine Ce.joinA (True) [(26, .bool (decide (¬ (0 ≤ t ∧ t < l.length))))] ?_ (fun _ => ?_)
   ·refine Ce.region ?_
    iterate 3 refine Ie.p rfl rfl rfl rfl ?_
    refine Ie.splitB 21 rfl (fun hs0 => ?_) (fun hs0 => ?_)
    ·try simp only [nz] at hs0
     refine Ie.off rfl rfl rfl (Ie.off rfl rfl rfl (Ie.off rfl rfl rfl (Ie.off rfl rfl rfl (Ie.p rfl rfl rfl rfl (Ie.nil ?_)))))
     refine Ne.as 26 (.bool (decide (¬ (0 ≤ t ∧ t < l.length)))) rfl (congrArg Value.bool (by rw [Bool.eq_iff_iff]; simp only [nz, nb, reduceCtorEq, Classical.not_not]; (try simp only [shapeP, letterP, charP]); omega)) ?_
     exact Ne.jnx (trivial) (by repeat (first | exact trivial | refine ⟨rfl, ?_⟩)) (List.Sublist.refl _)
    ·try simp only [nz] at hs0
     iterate 2 refine Ie.p rfl rfl rfl rfl ?_
     refine Ie.len rfl rfl rfl rfl rfl (ln22 ..) ?_
     iterate 2 refine Ie.p rfl rfl rfl rfl ?_
     refine Ie.nil ?_
     refine Ne.as 26 (.bool (decide (¬ (0 ≤ t ∧ t < l.length)))) rfl (congrArg Value.bool (by rw [Bool.eq_iff_iff]; simp only [nz, nb, reduceCtorEq, Classical.not_not]; (try simp only [shapeP, letterP, charP]); omega)) ?_
     exact Ne.jnx (trivial) (by repeat (first | exact trivial | refine ⟨rfl, ?_⟩)) (List.Sublist.refl _)
   ·refine Ce.cond rfl (fun ht26 => ?_) (fun ht26 => ?_)
    ·try simp only [nz] at ht26
     refine Ce.seq (Ce.region (Ie.p rfl rfl rfl rfl (Ie.nil (Ne.seq (Ce.ret (Re.blk (Re.seq (Re.loop (Re.blk (Re.seq ?_))))))))))
     exact Re.end_ rfl rfl (fun m hm => ⟨11, AskP.out he ht (by omega), rfl, hm.ext, News.nil _ _⟩)
    ·try simp only [nz] at ht26
     refine Ce.skip (Ne.blk (Ne.seq (Ce.region (Ie.p rfl rfl rfl rfl ?_))))
     refine Ie.as 27 (.int .i64 (Int.ofNat (i + 1))) rfl (congrArg (Value.int .i64) (wr_succ (by omega))) ?_
     refine Ie.p rfl rfl rfl rfl (Ie.nil ?_)
     exact Ne.loop (i + 1) ⟨hltE, upto_succ hi.2 ht (by omega)⟩ (by omega) ⟨rfl, rfl, rfl, rfl, trivial⟩ (List.nil_sublist _)
  ·try simp only [nz] at ht16
   refine Ce.exit (Xe.seq (Xe.loop (Xe.here (Ne.seq (Ce.seq (Ce.region (Ie.p rfl rfl rfl rfl (Ie.nil (Ne.seq (Ce.ret ?_))))))))))
   exact Re.end_ rfl rfl (fun m hm => ⟨0, AskP.ok he fun j t hj ht => hi.2 j t (by omega) ht, rfl, hm.ext, News.nil _ _⟩)

theorem rasked_ok {l : List Ty} {vl : Value} {ts : List Int} {vt : Value} {m : AW} (hm : m.lo ≤ m.next) (hlS : Sl (Mem m) 5 (RTy (Mem m)) l vl) (hwl : ∀ (i : Nat) (a : Ty), l[i]? = some a → FewT a) (hn14 : l.length ≤ 14) (hts : Sl (Mem m) 1 RInt ts vt) : Fc Tryz.prog 22 [vl, vt] m fun v m' => ∃ e : Int, AskP l ts e ∧ v = .int .i64 e ∧ Ext m m' ∧ News m m' [] := by
 have hlS0 := hlS
 obtain ⟨al, cl, rfl, hnl, hl⟩ := hlS
 obtain ⟨at_, ct, rfl, hnt, hts⟩ := hts
 refine Fc.body (c := _) Tryz.func22 rfl rfl rfl rfl hm ?_
 refine Ce.seq (Ce.region (Ie.p rfl rfl rfl rfl (Ie.nil (Ne.seq (Ce.seq (Ce.seq (Ce.region (Ie.p rfl rfl rfl rfl ?_))))))))
 refine Ie.calln _ _ _ rfl rfl rfl rfl rfl rfl (fun m hm => rcheck_ok hm.lole (hlS0.mono (Mem.kr hm) (RTy.mono (Mem.kr hm))) hwl hn14) (fun e he => ?_)
 refine Ie.p rfl rfl rfl rfl (Ie.nil (Ne.seq (Ce.seq (Ce.region ?_))))
 iterate 2 refine Ie.p rfl rfl rfl rfl ?_
 refine Ie.nil (Ne.seq ?_)
 refine Ce.cond rfl (fun ht10 => ?_) (fun ht10 => ?_)
 ·try simp only [nz] at ht10
  refine Ce.seq (Ce.region ?_)
  iterate 2 refine Ie.p rfl rfl rfl rfl ?_
  refine Ie.nil (Ne.seq (Ce.ret (Re.seq ?_)))
  exact Re.end_ rfl rfl (fun m hm => ⟨_, AskP.bad he (by omega), rfl, hm.ext, News.nil _ _⟩)
 ·try simp only [nz] at ht10
  have he0 : e = 0 := by omega
  subst he0
  refine Ce.skip (Ne.seq (Ce.seq (Ce.seq (Ce.region (Ie.p rfl rfl rfl rfl (Ie.nil (Ne.seq (Ce.block ?_))))))))
 
  refine Ce.loop (α := Nat) (fun i => [(0, .slice al l.length cl), (1, .slice at_ ts.length ct), (6, .int .i64 (Int.ofNat (i)))]) (fun i => []) (fun i => i ≤ ts.length ∧ ∀ (j : Nat) (t : Int), j < i → ts[j]? = some t → 0 ≤ t ∧ t < l.length) (fun i => ts.length - i) 0 ⟨Nat.zero_le _, fun _ _ h => (by cases h)⟩ ⟨rfl, rfl, rfl, trivial⟩ (List.nil_sublist _) (fun i hi => ?_)
  refine Ce.seq (Ce.seq (Ce.region ?_))
  iterate 2 refine Ie.p rfl rfl rfl rfl ?_
  refine Ie.len rfl rfl rfl rfl rfl (ln32 ..) ?_
  refine Ie.p rfl rfl rfl rfl (Ie.nil (Ne.seq ?_))
  refine Ce.cond rfl (fun ht15 => ?_) (fun ht15 => ?_)
  ·try simp only [nz] at ht15
   have hltE : i < ts.length := by omega
   obtain ⟨t, ht⟩ : ∃ w_, ts[i]? = some w_ := ⟨_, List.getElem?_eq_getElem hltE⟩
   rcases hts with ⟨e0, -⟩ | ⟨bE, offE, csE, elE, gE, mdE, mateE, rfl, ⟨hbE, hhE⟩, hleE, hcE⟩
   ·rw [e0] at hltE; simp at hltE
   have hrt := hcE i t ht
   refine Ce.skip (Ne.seq (Ce.seq (Ce.block ?_)))
   refine Ce.joinA (True) [(31, .bool (decide (¬ (0 ≤ t ∧ t < l.length))))] ?_ (fun _ => ?_)
   ·refine Ce.region ?_
    iterate 2 refine Ie.p rfl rfl rfl rfl ?_
    refine Ie.indexAddr rfl rfl rfl rfl Tryz.underlying32 sz3 rfl rfl (by omega) ?_
    refine Ie.load rfl rfl rfl rfl rfl ag3 (.base hhE hbE (by simp)) (cell_of_take hrt (k := 0) rfl) ?_
    iterate 2 refine Ie.p rfl rfl rfl rfl ?_
    refine Ie.splitB 23 rfl (fun hs0 => ?_) (fun hs0 => ?_)
    ·try simp only [nz] at hs0
     refine Ie.off rfl rfl rfl (Ie.off rfl rfl rfl (Ie.off rfl rfl rfl (Ie.off rfl rfl rfl (Ie.off rfl rfl rfl (Ie.off rfl rfl rfl (Ie.off rfl rfl rfl (Ie.p rfl rfl rfl rfl (Ie.nil ?_))))))))
     refine Ne.as 31 (.bool (decide (¬ (0 ≤ t ∧ t < l.length)))) rfl (congrArg Value.bool (by rw [Bool.eq_iff_iff]; simp only [nz, nb, reduceCtorEq, Classical.not_not]; (try simp only [shapeP, letterP, charP]); omega)) ?_
     exact Ne.jnx (trivial) (by repeat (first | exact trivial | refine ⟨rfl, ?_⟩)) (List.Sublist.refl _)
    ·try simp only [nz] at hs0
     iterate 2 refine Ie.p rfl rfl rfl rfl ?_
     refine Ie.indexAddr rfl rfl rfl rfl Tryz.underlying32 sz3 rfl rfl (by omega) ?_
     refine Ie.load rfl rfl rfl rfl rfl ag3 (.base hhE hbE (by simp)) (cell_of_take hrt (k := 0) rfl) ?_
     refine Ie.p rfl rfl rfl rfl ?_
     refine Ie.len rfl rfl rfl rfl rfl (ln22 ..) ?_
     iterate 2 refine Ie.p rfl rfl rfl rfl ?_
     refine Ie.nil ?_
     refine Ne.as 31 (.bool (decide (¬ (0 ≤ t ∧ t < l.length)))) rfl (congrArg Value.bool (by rw [Bool.eq_iff_iff]; simp only [nz, nb, reduceCtorEq, Classical.not_not]; (try simp only [shapeP, letterP, charP]); omega)) ?_
     exact Ne.jnx (trivial) (by repeat (first | exact trivial | refine ⟨rfl, ?_⟩)) (List.Sublist.refl _)
   ·refine Ce.cond rfl (fun ht31 => ?_) (fun ht31 => ?_)
    ·try simp only [nz] at ht31
     refine Ce.seq (Ce.region (Ie.p rfl rfl rfl rfl (Ie.nil (Ne.seq (Ce.ret (Re.blk (Re.seq (Re.loop (Re.blk (Re.seq ?_))))))))))
     exact Re.end_ rfl rfl (fun m hm => ⟨11, AskP.out he ht (by omega), rfl, hm.ext, News.nil _ _⟩)
    ·try simp only [nz] at ht31
     refine Ce.skip (Ne.blk (Ne.seq (Ce.region ?_)))
     iterate 2 refine Ie.p rfl rfl rfl rfl ?_
     refine Ie.as 17 (.int .i64 (Int.ofNat (i + 1))) rfl (congrArg (Value.int .i64) (wr_succ (by omega))) ?_
     refine Ie.p rfl rfl rfl rfl (Ie.nil ?_)
     exact Ne.loop (i + 1) ⟨hltE, upto_succ hi.2 ht (by omega)⟩ (by omega) ⟨rfl, rfl, rfl, trivial⟩ (List.nil_sublist _)
  ·try simp only [nz] at ht15
   refine Ce.exit (Xe.seq (Xe.loop (Xe.here (Ne.seq (Ce.seq (Ce.region (Ie.p rfl rfl rfl rfl (Ie.nil (Ne.seq (Ce.ret ?_))))))))))
   exact Re.end_ rfl rfl (fun m hm => ⟨0, AskP.ok he fun j t hj ht => hi.2 j t (by omega) ht, rfl, hm.ext, News.nil _ _⟩)

def ValP (l : List Ty) (t : Int) (c : Bool) : Prop := ∃ e, AskP l [t] e ∧ ((e ≠ 0 ∧ c = false) ∨ (e = 0 ∧ c = valAt l t))
theorem ValP.uniq {l : List Ty} {t : Int} {c c' : Bool} (h : ValP l t c) (h' : ValP l t c') : c = c' := by
 obtain ⟨a, h1, h2⟩ := h
 obtain ⟨b, g1, g2⟩ := h'
 have := h1.uniq g1
 subst this
 rcases h2 with ⟨h3, rfl⟩ | ⟨h3, rfl⟩
 ·rcases g2 with ⟨_, rfl⟩ | ⟨g3, _⟩
  ·rfl
  ·exact absurd g3 h3
 ·rcases g2 with ⟨g3, _⟩ | ⟨_, rfl⟩
  ·exact absurd h3 g3
  ·rfl

theorem Value_ok {l : List Ty} {vl : Value} {t : Int} {m : AW} (hm : m.lo ≤ m.next) (hlS : Sl (Mem m) 5 (RTy (Mem m)) l vl) (hwl : ∀ (i : Nat) (a : Ty), l[i]? = some a → FewT a) (hn14 : l.length ≤ 14) : Fc Tryz.prog 18 [vl, .int .i64 t] m fun v m' => ∃ c : Bool, ValP l t c ∧ v = .bool c ∧ Ext m m' ∧ News m m' [] := by
 have hlS0 := hlS
 obtain ⟨al, cl, rfl, hnl, hl⟩ := hlS
 refine Fc.body (c := _) Tryz.func18 rfl rfl rfl rfl hm ?_
 refine Ce.seq (Ce.region (Ie.p rfl rfl rfl rfl (Ie.nil (Ne.seq (Ce.seq (Ce.region ?_))))))
 iterate 2 refine Ie.p rfl rfl rfl rfl ?_
 refine Ie.buildSlice rfl rfl rfl rfl rfl (bs32_1 ..) (fun b7 hb7 => ?_)
 refine Ie.calln _ _ _ rfl rfl rfl rfl rfl rfl (fun m hm => asked_ok hm.lole (hlS0.mono (Mem.kr hm) (RTy.mono (Mem.kr hm))) hwl hn14 ((Sl.single (R := RInt) (x := t) (b := b7) (c := 1) (el := 3) (g := false) (md := .plain) (mate := none) rfl rfl).mono (InH.kr (l := [(b7, .cells [.int .i64 t] 3 false .plain none)]) hm (fun p_ hp_ => by simpa using hp_)) fun _ _ h => h)) (fun e he => ?_)
 iterate 2 refine Ie.p rfl rfl rfl rfl ?_
 refine Ie.splitB 10 rfl (fun hs_10 => ?_) (fun hs_10 => ?_)
 ·try simp only [nz] at hs_10
  have he0 : e = 0 := by omega
  subst he0
  have hin := he.well.2 0 t rfl
  obtain ⟨q, rfl⟩ := Int.eq_ofNat_of_zero_le hin.1
  obtain ⟨a, ha⟩ : ∃ w_, l[q]? = some w_ := ⟨_, List.getElem?_eq_getElem (by omega)⟩
  iterate 2 refine Ie.p rfl rfl rfl rfl ?_
  refine Ie.call _ rfl rfl rfl rfl rfl rfl (fun m hm => value_ok hm.lole (hlS0.mono (Mem.kr hm) (RTy.mono (Mem.kr hm))) ha) ?_
  iterate 2 refine Ie.p rfl rfl rfl rfl ?_
  refine Ie.nil (Ne.seq (Ce.ret ?_))
  exact Re.end_ rfl rfl (fun m hm => ⟨valueB a, ⟨0, he, .inr ⟨rfl, (valAt_get ha).symm⟩⟩, rfl, hm.ext, News.nil _ _⟩)
 ·try simp only [nz] at hs_10
  have hne : e ≠ 0 := by omega
  refine Ie.off rfl rfl rfl (Ie.off rfl rfl rfl (Ie.off rfl rfl rfl ?_))
  iterate 2 refine Ie.p rfl rfl rfl rfl ?_
  refine Ie.nil (Ne.seq (Ce.ret ?_))
  exact Re.end_ rfl rfl (fun m hm => ⟨false, ⟨e, he, .inl ⟨hne, rfl⟩⟩, rfl, hm.ext, News.nil _ _⟩)

theorem rValue_ok {l : List Ty} {vl : Value} {t : Int} {m : AW} (hm : m.lo ≤ m.next) (hlS : Sl (Mem m) 5 (RTy (Mem m)) l vl) (hwl : ∀ (i : Nat) (a : Ty), l[i]? = some a → FewT a) (hn14 : l.length ≤ 14) : Fc Tryz.prog 19 [vl, .int .i64 t] m fun v m' => ∃ c : Bool, ValP l t c ∧ v = .bool c ∧ Ext m m' ∧ News m m' [] := by
 have hlS0 := hlS
 obtain ⟨al, cl, rfl, hnl, hl⟩ := hlS
 refine Fc.body (c := _) Tryz.func19 rfl rfl rfl rfl hm ?_
 refine Ce.seq (Ce.region (Ie.p rfl rfl rfl rfl (Ie.nil (Ne.seq (Ce.seq (Ce.region ?_))))))
 iterate 2 refine Ie.p rfl rfl rfl rfl ?_
 refine Ie.buildSlice rfl rfl rfl rfl rfl (bs32_1 ..) (fun b7 hb7 => ?_)
 refine Ie.calln _ _ _ rfl rfl rfl rfl rfl rfl (fun m hm => rasked_ok hm.lole (hlS0.mono (Mem.kr hm) (RTy.mono (Mem.kr hm))) hwl hn14 ((Sl.single (R := RInt) (x := t) (b := b7) (c := 1) (el := 3) (g := false) (md := .plain) (mate := none) rfl rfl).mono (InH.kr (l := [(b7, .cells [.int .i64 t] 3 false .plain none)]) hm (fun p_ hp_ => by simpa using hp_)) fun _ _ h => h)) (fun e he => ?_)
 iterate 2 refine Ie.p rfl rfl rfl rfl ?_
 refine Ie.splitB 10 rfl (fun hs_10 => ?_) (fun hs_10 => ?_)
 ·try simp only [nz] at hs_10
  have he0 : e = 0 := by omega
  subst he0
  have hin := he.well.2 0 t rfl
  obtain ⟨q, rfl⟩ := Int.eq_ofNat_of_zero_le hin.1
  obtain ⟨a, ha⟩ : ∃ w_, l[q]? = some w_ := ⟨_, List.getElem?_eq_getElem (by omega)⟩
  iterate 2 refine Ie.p rfl rfl rfl rfl ?_
  refine Ie.call _ rfl rfl rfl rfl rfl rfl (fun m hm => rvalue_ok hm.lole (hlS0.mono (Mem.kr hm) (RTy.mono (Mem.kr hm))) ha) ?_
  iterate 2 refine Ie.p rfl rfl rfl rfl ?_
  refine Ie.nil (Ne.seq (Ce.ret ?_))
  exact Re.end_ rfl rfl (fun m hm => ⟨valueB a, ⟨0, he, .inr ⟨rfl, (valAt_get ha).symm⟩⟩, rfl, hm.ext, News.nil _ _⟩)
 ·try simp only [nz] at hs_10
  have hne : e ≠ 0 := by omega
  refine Ie.off rfl rfl rfl (Ie.off rfl rfl rfl (Ie.off rfl rfl rfl ?_))
  iterate 2 refine Ie.p rfl rfl rfl rfl ?_
  refine Ie.nil (Ne.seq (Ce.ret ?_))
  exact Re.end_ rfl rfl (fun m hm => ⟨false, ⟨e, he, .inl ⟨hne, rfl⟩⟩, rfl, hm.ext, News.nil _ _⟩)

theorem RTy.flats {K : Kn} : ∀ x cs, RTy K x cs → flats cs = true := by
 rintro x cs ⟨ve, vf, va, rfl, ⟨ae, ce, rfl, _⟩, ⟨af, cf, rfl, _⟩, ⟨aa, ca, rfl, _⟩⟩
 rfl
theorem RArm.flats {K : Kn} : ∀ x cs, RArm K x cs → flats cs = true := by
 rintro x cs ⟨v, rfl, ⟨ae, ce, rfl, _⟩⟩
 rfl
theorem own_perm1 {A B C D : Hp} {x y : Nat × AObj} : (A ++ (x :: (B ++ (y :: (C ++ D))))).Perm (x :: (y :: (A ++ ((B ++ C) ++ D)))) := by
 refine List.perm_middle.trans (List.Perm.cons _ ?_)
 rw [← List.append_assoc]
 refine List.perm_middle.trans (List.Perm.cons _ ?_)
 exact List.Perm.of_eq (by simp [List.append_assoc])
theorem updo {A B : Hp} {b : Nat} {o o' : AObj} {x : Nat × AObj} {h : Hp} : Upd (A ++ (x :: (B ++ ((b, o) :: h)))) b o o' (A ++ (x :: (B ++ ((b, o') :: h)))) := by
 have key : ∀ (P : Hp) {h h' : Hp}, Upd h b o o' h' → Upd (P ++ h) b o o' (P ++ h') := fun P => by
  induction P with
  | nil => exact fun u => u
  | cons p P ih => exact fun u => .tail (ih u)
 exact key _ (.tail (key _ .head))
theorem own_arms0 {F G : Hp} {l L : List Arm} {g : Gro} {cs : List Value} {w : Value} (hF : Flat 2 (RArm (InH F)) L cs) (hO : g.Ok L.length) (hL : L = l) (hl : l.length ≤ 9223372036854775807) (hw : w = g.V L.length) : Sl (InH (g.H 55 cs ++ (F ++ G))) 2 (RArm (InH (g.H 55 cs ++ (F ++ G)))) l w := by
 subst hL hw
 exact (Gro.sl hF hO hl).mono (fun b o h => List.mem_append_left _ h) (RArm.mono fun b o h => List.mem_append_right _ (List.mem_append_left _ h))
theorem own_arms {F G : Hp} {l L : List Arm} {k : Nat} {g : Gro} {cs : List Value} {w : Value} (hF : Flat 2 (RArm (InH F)) L cs) (hO : g.Ok L.length) (hL : L = l.take k) (hk : l.length ≤ k) (hw : w = g.V L.length) (hl : l.length ≤ 9223372036854775807) : Sl (InH (g.H 55 cs ++ (F ++ G))) 2 (RArm (InH (g.H 55 cs ++ (F ++ G)))) l w := own_arms0 hF hO (hL.trans (List.take_of_length_le hk)) hl hw
theorem own_fin0 {F : Hp} {l L : List Ty} {g : Gro} {cs : List Value} (hF : Flat 5 (RTy (InH F)) L cs) (hO : g.Ok L.length) (hL : L = l) (hl : l.length ≤ 9223372036854775807) : Sl (InH (g.H 50 cs ++ F)) 5 (RTy (InH (g.H 50 cs ++ F))) l (g.V L.length) := by
 subst hL
 exact (Gro.sl hF hO hl).mono (fun b o h => List.mem_append_left _ h) (RTy.mono fun b o h => List.mem_append_right _ h)
theorem own_fin {F : Hp} {l L : List Ty} {i : Nat} {g : Gro} {cs : List Value} (hF : Flat 5 (RTy (InH F)) L cs) (hO : g.Ok L.length) (hL : L = l.take i) (hi : l.length ≤ i) (hl : l.length ≤ 9223372036854775807) : Sl (InH (g.H 50 cs ++ F)) 5 (RTy (InH (g.H 50 cs ++ F))) l (g.V L.length) := own_fin0 hF hO (hL.trans (List.take_of_length_le hi)) hl
theorem own_sub {A B C : Hp} {x : Nat × AObj} : (x :: ([] ++ ((A ++ B) ++ C))).Sublist (x :: (A ++ (B ++ C))) := by simp [List.append_assoc]
theorem inA {A B : Hp} : ∀ b o, InH A b o → InH (A ++ B) b o := fun _ _ h => List.mem_append_left _ h
theorem inB {A B : Hp} : ∀ b o, InH B b o → InH (A ++ B) b o := fun _ _ h => List.mem_append_right _ h
theorem flat_mono {α : Type} {sz : Nat} {R R' : α → List Value → Prop} {l : List α} {cs : List Value} (h : Flat sz R l cs) (k : ∀ x cs, R x cs → R' x cs) : Flat sz R' l cs := ⟨h.1, fun i x hx => k _ _ (h.2 i x hx)⟩

theorem own_ok {l : List Ty} {vl : Value} {m : AW} (hm : m.lo ≤ m.next) (hlS : Sl (Mem m) 5 (RTy (Mem m)) l vl) (hwl : ∀ (i : Nat) (a : Ty), l[i]? = some a → FewT a) (hn14 : l.length ≤ 14) : Fc Tryz.prog 16 [vl] m fun v m' => ∃ x : Hp × Value, Sl (InH x.1) 5 (RTy (InH x.1)) l x.2 ∧ v = x.2 ∧ Ext m m' ∧ News m m' x.1 := by
 obtain ⟨al, cl, rfl, hnl, hl⟩ := hlS
 refine Fc.body (c := _) Tryz.func16 rfl rfl rfl rfl hm ?_
 refine Ce.seq (Ce.region (Ie.p rfl rfl rfl rfl (Ie.nil (Ne.seq (Ce.seq (Ce.region (Ie.p rfl rfl rfl rfl (Ie.nil (Ne.seq (Ce.seq (Ce.seq ?_)))))))))))
 refine Ce.region (Ie.p rfl rfl rfl rfl (Ie.nil (Ne.seq (Ce.block ?_))))
 
 refine Ce.loop (α := Nat × Gro × List Value × List Ty × Hp) (fun q => [(0, .slice al l.length cl), (3, q.2.1.V q.2.2.2.1.length), (4, .int .i64 (Int.ofNat (q.1)))]) (fun q => q.2.1.H 50 q.2.2.1 ++ q.2.2.2.2) (fun q => q.1 ≤ l.length ∧ q.2.2.2.1 = l.take q.1 ∧ Flat 5 (RTy (InH q.2.2.2.2)) q.2.2.2.1 q.2.2.1 ∧ q.2.1.Ok q.2.2.2.1.length) (fun q => l.length - q.1) (0, .no, [], [], []) ⟨Nat.zero_le _, rfl, Flat.nil, rfl⟩ ⟨rfl, rfl, rfl, trivial⟩ (List.Sublist.refl _) (fun q hq0 => ?_)
 obtain ⟨i, g_, cs_, L, F⟩ := q
 obtain ⟨hi, hL, hF, hO⟩ := hq0
 simp only at hi hL hF hO
 have hLl : L.length = i := by rw [hL, List.length_take]; omega
 refine Ce.seq (Ce.seq (Ce.region ?_))
 iterate 2 refine Ie.p rfl rfl rfl rfl ?_
 refine Ie.len rfl rfl rfl rfl rfl (ln22 ..) ?_
 refine Ie.p rfl rfl rfl rfl (Ie.nil (Ne.seq ?_))
 refine Ce.cond rfl (fun ht10 => ?_) (fun ht10 => ?_)
 ·try simp only [nz] at ht10
  have hlt : i < l.length := by omega
  obtain ⟨a, ha⟩ : ∃ w_, l[i]? = some w_ := ⟨_, List.getElem?_eq_getElem hlt⟩
  rcases hl with ⟨e0, -⟩ | ⟨b, off, cs, el, g, md, mate, rfl, ⟨hb, hh⟩, hle, hc⟩
  ·rw [e0] at hlt; simp at hlt
  have hr := hc i a ha
  obtain ⟨ve, vf, va, hr, he, hf, hga⟩ := hr
  have heS := he
  have hfS := hf
  obtain ⟨ae, ce, rfl, hne, he⟩ := he
  obtain ⟨af, cf, rfl, hnf, hf⟩ := hf
  obtain ⟨aa, ca, rfl, hna, hga⟩ := hga
  have hw := hwl i a ha
  have k1 := hw.elems
  have k2 := hw.fields
  have k3 := hw.arms
  refine Ce.skip (Ne.seq (Ce.seq (Ce.block (Ce.seq ?_))))
  refine Ce.draw [⟨0, .p, false, true, 0⟩, ⟨1, .p, false, true, 0⟩, ⟨2, .p, false, true, 3⟩, ⟨3, .p, false, true, 7⟩, ⟨4, .l, false, true, 15⟩, ⟨5, .p, false, true, 0⟩, ⟨6, .p, false, true, 0⟩, ⟨7, .p, false, true, 96⟩, ⟨8, .p, false, true, 224⟩, ⟨9, .l, false, true, 480⟩, ⟨10, .a, true, true, 0⟩, ⟨11, .p, true, true, 0⟩, ⟨12, .p, true, true, 0⟩, ⟨13, .p, true, true, 6144⟩, ⟨14, .p, true, true, 14336⟩, ⟨15, .l, true, true, 30720⟩, ⟨16, .h, true, true, 64512⟩, ⟨17, .a, false, false, 0⟩, ⟨18, .p, false, false, 0⟩, ⟨19, .p, false, false, 0⟩, ⟨20, .p, false, false, 786432⟩, ⟨21, .p, false, false, 1835008⟩, ⟨22, .l, false, false, 3932160⟩, ⟨23, .h, true, true, 8387584⟩, ⟨24, .p, true, true, 16777215⟩, ⟨25, .a, false, false, 0⟩, ⟨26, .h, true, true, 67108863⟩] (by kernel_rfl) (by kernel_rfl) (fun base hbase hB => ?_)
  refine De.p rfl rfl rfl rfl rfl (De.p rfl rfl rfl rfl rfl ?_)
  refine De.indexAddr rfl rfl rfl rfl rfl Tryz.underlying22 sz50 rfl rfl (by omega) ?_
  refine De.fieldAddr rfl rfl rfl rfl rfl rfl fa50_0 ?_
  refine De.loadOld rfl rfl rfl rfl rfl rfl ag3 (.base hh hb (by simp)) (cell_of_take hr (k := 0) rfl) (by first | exact hB _ _ (.head _) | exact hB _ _ (.tail _ (.head _)) | exact hB _ _ (.tail _ (.tail _ (.head _))) | exact hB _ _ (.tail _ (.tail _ (.tail _ (.head _)))) | exact hB _ _ (List.mem_append_right _ (.head _)) | exact Nat.lt_of_lt_of_le ‹_› hbase) ?_
  refine De.p rfl rfl rfl rfl rfl (De.p rfl rfl rfl rfl rfl ?_)
  refine De.indexAddr rfl rfl rfl rfl rfl Tryz.underlying22 sz50 rfl rfl (by omega) ?_
  refine De.fieldAddr rfl rfl rfl rfl rfl rfl fa50_2 ?_
  refine De.loadOld rfl rfl rfl rfl rfl rfl ag9 (.base hh hb (by simp)) (cell_of_take hr (k := 2) rfl) (by first | exact hB _ _ (.head _) | exact hB _ _ (.tail _ (.head _)) | exact hB _ _ (.tail _ (.tail _ (.head _))) | exact hB _ _ (.tail _ (.tail _ (.tail _ (.head _)))) | exact hB _ _ (List.mem_append_right _ (.head _)) | exact Nat.lt_of_lt_of_le ‹_› hbase) ?_
  refine De.buildSlice rfl rfl rfl rfl rfl rfl (bs32_0) (fun b23 hn23 hb23 => ?_)
  refine De.p rfl rfl rfl rfl rfl (De.p rfl rfl rfl rfl rfl ?_)
  refine De.indexAddr rfl rfl rfl rfl rfl Tryz.underlying22 sz50 rfl rfl (by omega) ?_
  refine De.fieldAddr rfl rfl rfl rfl rfl rfl fa50_1 ?_
  refine De.loadOld rfl rfl rfl rfl rfl rfl ag32 (.base hh hb (by simp)) (cell_of_take hr (k := 1) rfl) (by first | exact hB _ _ (.head _) | exact hB _ _ (.tail _ (.head _)) | exact hB _ _ (.tail _ (.tail _ (.head _))) | exact hB _ _ (.tail _ (.tail _ (.tail _ (.head _)))) | exact hB _ _ (List.mem_append_right _ (.head _)) | exact Nat.lt_of_lt_of_le ‹_› hbase) ?_
  refine De.appendNewSl (.inr ⟨_, rfl⟩) (R := RInt) (l0 := []) (l := a.elems) (L := a.elems) (g := .emp b23) (cs := []) rfl .one Flat.nil rfl (heS) ((Mem.sees rfl rfl)) RInt.flats (by simp; omega) rfl rfl (by kernel_rfl) rfl rfl rfl rfl Tryz.underlying32 Tryz.underlying32 ap3 rfl rfl (fun g1 cs1 hF1 hO1 => ?_)
  have hS1 := Gro.sl (el := 3) hF1 hO1 (by first | omega | (simp; omega))
  obtain ⟨a1, c1, hh29, -, -⟩ := id hS1
  rw [hh29] at hS1
  refine De.as 29 (.slice a1 a.elems.length c1) rfl hh29 ?_
  refine De.buildSlice rfl rfl rfl rfl rfl rfl (bs47_0) (fun b30 hn30 hb30 => ?_)
  refine De.p rfl rfl rfl rfl rfl (De.p rfl rfl rfl rfl rfl ?_)
  refine De.indexAddr rfl rfl rfl rfl rfl Tryz.underlying22 sz50 rfl rfl (by omega) ?_
  refine De.fieldAddr rfl rfl rfl rfl rfl rfl fa50_3 ?_
  refine De.loadOld rfl rfl rfl rfl rfl rfl ag47 (.base hh hb (by simp)) (cell_of_take hr (k := 3) rfl) (by first | exact hB _ _ (.head _) | exact hB _ _ (.tail _ (.head _)) | exact hB _ _ (.tail _ (.tail _ (.head _))) | exact hB _ _ (.tail _ (.tail _ (.tail _ (.head _)))) | exact hB _ _ (List.mem_append_right _ (.head _)) | exact Nat.lt_of_lt_of_le ‹_› hbase) ?_
  refine De.appendNewSl (.inr ⟨_, rfl⟩) (R := RFld) (l0 := []) (l := a.fields) (L := a.fields) (g := .emp b30) (cs := []) rfl .one Flat.nil rfl (hfS) ((Mem.sees rfl rfl)) RFld.flats (by simp; omega) rfl rfl (by kernel_rfl) rfl rfl rfl rfl Tryz.underlying47 Tryz.underlying47 ap132 rfl rfl (fun g2 cs2 hF2 hO2 => ?_)
  have hS2 := Gro.sl (el := 132) hF2 hO2 (by first | omega | (simp; omega))
  obtain ⟨a2, c2, hh36, -, -⟩ := id hS2
  rw [hh36] at hS2
  refine De.as 36 (.slice a2 a.fields.length c2) rfl hh36 ?_
  refine De.p (v := .agg ⟨[.int .i64 a.kind, .slice a1 a.elems.length c1, .string a.name, .slice a2 a.fields.length c2, .slice none 0 0]⟩) rfl rfl rfl rfl (by kernel_rfl) ?_
  refine De.alloc rfl rfl rfl rfl rfl zr50 (fun b5 hn5 hb5 => ?_)
  refine De.store rfl rfl (by kernel_rfl) (by kernel_rfl) rfl rfl rfl rfl rfl sz50 rfl (by first | exact .head | exact .tail .head | exact .tail (.tail .head) | exact .tail (.tail (.tail .head)) | exact updo) rfl ?_
  refine De.nil (Ne.seq (Ce.seq (Ce.seq (Ce.region (Ie.p rfl rfl rfl rfl (Ie.nil (Ne.seq (Ce.block ?_))))))))
 
  refine Ce.loop (α := Nat × Gro × List Value × List Arm × Hp × Value) (fun q => [(0, .slice (some ⟨b, off, none⟩) l.length cl), (3, g_.V L.length), (4, .int .i64 (Int.ofNat (i))), (5, ptr b5), (6, .int .i64 (Int.ofNat (q.1)))]) (fun q => (b5, .cells [.int .i64 a.kind, .slice a1 a.elems.length c1, .string a.name, .slice a2 a.fields.length c2, q.2.2.2.2.2] 50 false .plain none) :: (q.2.1.H 55 q.2.2.1 ++ (q.2.2.2.2.1 ++ (g_.H 50 cs_ ++ F)))) (fun q => q.1 ≤ a.arms.length ∧ q.2.2.2.1 = a.arms.take q.1 ∧ Flat 2 (RArm (InH q.2.2.2.2.1)) q.2.2.2.1 q.2.2.1 ∧ q.2.1.Ok q.2.2.2.1.length ∧ q.2.2.2.2.2 = q.2.1.V q.2.2.2.1.length ∧ Sl (InH q.2.2.2.2.1) 1 RInt a.elems (.slice a1 a.elems.length c1) ∧ Sl (InH q.2.2.2.2.1) 2 RFld a.fields (.slice a2 a.fields.length c2)) (fun q => a.arms.length - q.1) (0, .no, [], [], (g2.H 132 cs2 ++ g1.H 3 cs1), .slice none 0 0) ⟨Nat.zero_le _, rfl, Flat.nil, rfl, rfl, hS1.mono inB fun _ _ h => h, hS2.mono inA fun _ _ h => h⟩ ⟨rfl, rfl, rfl, rfl, rfl, trivial⟩ own_sub (fun q hq0 => ?_)
  obtain ⟨k, g3, cs3, L3, F2, w⟩ := q
  obtain ⟨hk, hL3, hF3, hO3, hw3, hSe, hSf⟩ := hq0
  simp only at hk hL3 hF3 hO3 hw3 hSe hSf
  have hL3l : L3.length = k := by rw [hL3, List.length_take]; omega
  refine Ce.seq (Ce.seq (Ce.region ?_))
  iterate 3 refine Ie.p rfl rfl rfl rfl ?_
  refine Ie.indexAddr rfl rfl rfl rfl Tryz.underlying22 sz50 rfl rfl (by omega) ?_
  refine Ie.fieldAddr rfl rfl rfl rfl rfl fa50_4 ?_
  refine Ie.load rfl rfl rfl rfl rfl ag48 (.base hh hb (by simp)) (cell_of_take hr (k := 4) rfl) ?_
  refine Ie.len rfl rfl rfl rfl rfl (ln48 ..) ?_
  refine Ie.p rfl rfl rfl rfl (Ie.nil (Ne.seq ?_))
  refine Ce.cond rfl (fun ht45 => ?_) (fun ht45 => ?_)
  ·try simp only [nz] at ht45
   have hltX : k < a.arms.length := by omega
   obtain ⟨x, hx⟩ : ∃ w_, a.arms[k]? = some w_ := ⟨_, List.getElem?_eq_getElem hltX⟩
   rcases hga with ⟨e0, -⟩ | ⟨bX, offX, csX, elX, gX, mdX, mateX, rfl, ⟨hbX, hhX⟩, hleX, hcX⟩
   ·rw [e0] at hltX; simp at hltX
   have hrx := hcX k x hx
   obtain ⟨vx, hrx, hxS⟩ := hrx
   have k4 := hw.afields k x hx
   refine Ce.skip (Ne.seq (Ce.seq (Ce.block ?_)))
   refine Ce.draw [⟨0, .p, false, true, 0⟩, ⟨1, .l, false, true, 1⟩, ⟨2, .p, false, true, 0⟩, ⟨3, .p, false, true, 0⟩, ⟨4, .p, false, true, 12⟩, ⟨5, .p, false, true, 28⟩, ⟨6, .l, false, true, 60⟩, ⟨7, .p, false, true, 0⟩, ⟨8, .p, false, true, 252⟩, ⟨9, .p, false, true, 508⟩, ⟨10, .l, false, true, 1020⟩, ⟨11, .a, true, true, 0⟩, ⟨12, .p, true, true, 0⟩, ⟨13, .p, true, true, 0⟩, ⟨14, .p, true, true, 12288⟩, ⟨15, .p, true, true, 28672⟩, ⟨16, .l, true, true, 61440⟩, ⟨17, .p, true, true, 0⟩, ⟨18, .p, true, true, 258048⟩, ⟨19, .p, true, true, 520192⟩, ⟨20, .l, true, true, 1044480⟩, ⟨21, .h, true, true, 2095104⟩, ⟨22, .p, true, true, 4194300⟩, ⟨23, .a, true, true, 8388604⟩, ⟨24, .h, true, true, 16777215⟩, ⟨25, .p, true, true, 33554431⟩, ⟨26, .h, true, true, 67108863⟩] (by kernel_rfl) (by kernel_rfl) (fun base hbase hB => ?_)
   refine De.fieldAddr rfl rfl rfl rfl rfl rfl fa50_4 ?_
   refine De.loadOld rfl rfl rfl rfl rfl rfl ag48 (by repeat first | exact .head | exact .app .head | exact .base ‹_› ‹_› (by simp) | refine .tail ?_) rfl (by first | exact hB _ _ (.head _) | exact hB _ _ (.tail _ (.head _)) | exact hB _ _ (.tail _ (.tail _ (.head _))) | exact hB _ _ (.tail _ (.tail _ (.tail _ (.head _)))) | exact hB _ _ (List.mem_append_right _ (.head _)) | exact Nat.lt_of_lt_of_le ‹_› hbase) ?_
   refine De.as 49 (g3.V L3.length) rfl hw3 ?_
   refine De.p rfl rfl rfl rfl rfl (De.p rfl rfl rfl rfl rfl ?_)
   refine De.indexAddr rfl rfl rfl rfl rfl Tryz.underlying22 sz50 rfl rfl (by omega) ?_
   refine De.fieldAddr rfl rfl rfl rfl rfl rfl fa50_4 ?_
   refine De.loadOld rfl rfl rfl rfl rfl rfl ag48 (.base hh hb (by simp)) (cell_of_take hr (k := 4) rfl) (by first | exact hB _ _ (.head _) | exact hB _ _ (.tail _ (.head _)) | exact hB _ _ (.tail _ (.tail _ (.head _))) | exact hB _ _ (.tail _ (.tail _ (.tail _ (.head _)))) | exact hB _ _ (List.mem_append_right _ (.head _)) | exact Nat.lt_of_lt_of_le ‹_› hbase) ?_
   refine De.p rfl rfl rfl rfl rfl ?_
   refine De.indexAddr rfl rfl rfl rfl rfl Tryz.underlying48 sz55 rfl rfl (by omega) ?_
   refine De.fieldAddr rfl rfl rfl rfl rfl rfl fa55_0 ?_
   refine De.loadOld rfl rfl rfl rfl rfl rfl ag9 (.base hhX hbX (by simp)) (cell_of_take hrx (k := 0) rfl) (by first | exact hB _ _ (.head _) | exact hB _ _ (.tail _ (.head _)) | exact hB _ _ (.tail _ (.tail _ (.head _))) | exact hB _ _ (.tail _ (.tail _ (.tail _ (.head _)))) | exact hB _ _ (List.mem_append_right _ (.head _)) | exact Nat.lt_of_lt_of_le ‹_› hbase) ?_
   refine De.buildSlice rfl rfl rfl rfl rfl rfl (bs47_0) (fun b59 hn59 hb59 => ?_)
   refine De.p rfl rfl rfl rfl rfl (De.p rfl rfl rfl rfl rfl ?_)
   refine De.indexAddr rfl rfl rfl rfl rfl Tryz.underlying22 sz50 rfl rfl (by omega) ?_
   refine De.fieldAddr rfl rfl rfl rfl rfl rfl fa50_4 ?_
   refine De.loadOld rfl rfl rfl rfl rfl rfl ag48 (.base hh hb (by simp)) (cell_of_take hr (k := 4) rfl) (by first | exact hB _ _ (.head _) | exact hB _ _ (.tail _ (.head _)) | exact hB _ _ (.tail _ (.tail _ (.head _))) | exact hB _ _ (.tail _ (.tail _ (.tail _ (.head _)))) | exact hB _ _ (List.mem_append_right _ (.head _)) | exact Nat.lt_of_lt_of_le ‹_› hbase) ?_
   refine De.p rfl rfl rfl rfl rfl ?_
   refine De.indexAddr rfl rfl rfl rfl rfl Tryz.underlying48 sz55 rfl rfl (by omega) ?_
   refine De.fieldAddr rfl rfl rfl rfl rfl rfl fa55_1 ?_
   refine De.loadOld rfl rfl rfl rfl rfl rfl ag47 (.base hhX hbX (by simp)) (cell_of_take hrx (k := 1) rfl) (by first | exact hB _ _ (.head _) | exact hB _ _ (.tail _ (.head _)) | exact hB _ _ (.tail _ (.tail _ (.head _))) | exact hB _ _ (.tail _ (.tail _ (.tail _ (.head _)))) | exact hB _ _ (List.mem_append_right _ (.head _)) | exact Nat.lt_of_lt_of_le ‹_› hbase) ?_
   refine De.appendNewSl (.inr ⟨_, rfl⟩) (R := RFld) (l0 := []) (l := x.fields) (L := x.fields) (g := .emp b59) (cs := []) rfl .one Flat.nil rfl (hxS) ((Mem.sees rfl rfl)) RFld.flats (by simp; omega) rfl rfl (by kernel_rfl) rfl rfl rfl rfl Tryz.underlying47 Tryz.underlying47 ap132 rfl rfl (fun g4 cs4 hF4 hO4 => ?_)
   have hS4 := Gro.sl (el := 132) hF4 hO4 (by first | omega | (simp; omega))
   obtain ⟨a4, c4, hh69, -, -⟩ := id hS4
   rw [hh69] at hS4
   refine De.as 69 (.slice a4 x.fields.length c4) rfl hh69 ?_
   refine De.p (v := .agg ⟨[.string x.name, .slice a4 x.fields.length c4]⟩) rfl rfl rfl rfl (by kernel_rfl) ?_
   refine De.buildSlice rfl rfl rfl rfl rfl rfl (bs48_1 ..) (fun b71 hn71 hb71 => ?_)
   refine De.appendSl (R := RArm (InH (g4.H 132 cs4 ++ F2))) (l0 := L3) (l := [x]) (L := (L3 ++ [x])) (g := g3) (cs := cs3) rfl (.tail (.over (.tail .here))) (flat_mono hF3 (RArm.mono inB)) hO3 (Sl.single (R := RArm (InH (g4.H 132 cs4 ++ F2))) (b := b71) (c := 1) (el := 55) (g := false) (md := .plain) (mate := none) ⟨_, rfl, hS4.mono inA fun _ _ h => h⟩ rfl) ((InH.sees (by intro p hp; rw [List.mem_singleton.1 hp]; exact List.mem_cons_self))) RArm.flats (by simp; omega) rfl rfl (by kernel_rfl) (by kernel_rfl) rfl rfl rfl rfl Tryz.underlying48 Tryz.underlying48 ap55 rfl rfl (fun g5 cs5 hF5 hO5 => ?_)
   have hS5 := Gro.sl (el := 55) hF5 hO5 (by simp; omega)
   obtain ⟨a5, c5, hw5, -, -⟩ := hS5
   refine De.as 72 (.slice a5 (L3 ++ [x]).length c5) rfl hw5 ?_
   refine De.fieldAddr rfl rfl rfl rfl rfl rfl fa50_4 ?_
   refine De.store rfl rfl (by kernel_rfl) (by kernel_rfl) rfl rfl rfl rfl rfl sz48 rfl (by first | exact .head | exact .tail .head | exact .tail (.tail .head) | exact .tail (.tail (.tail .head)) | exact updo) rfl ?_
   refine De.nil (Ne.blk (Ne.seq (Ce.region ?_)))
   iterate 2 refine Ie.p rfl rfl rfl rfl ?_
   refine Ie.as 47 (.int .i64 (Int.ofNat (k + 1))) rfl (congrArg (Value.int .i64) (wr_succ (by omega))) ?_
   refine Ie.p rfl rfl rfl rfl (Ie.nil (Ne.swap own_perm1 ?_))
   exact Ne.loop (k + 1, g5, cs5, L3 ++ [x], g4.H 132 cs4 ++ F2, _) ⟨hltX, by rw [hL3, take_succ' hx], hF5, hO5, hw5.symm, hSe.mono inB fun _ _ h => h, hSf.mono inB fun _ _ h => h⟩ (by show a.arms.length - (k + 1) < a.arms.length - k; omega) ⟨rfl, rfl, rfl, rfl, rfl, trivial⟩ (.cons _ (List.Sublist.refl _))
  ·try simp only [nz] at ht45
   have hke : k = a.arms.length := by omega
   have hSa : Sl (InH (g3.H 55 cs3 ++ (F2 ++ F))) 2 (RArm (InH (g3.H 55 cs3 ++ (F2 ++ F)))) a.arms w := by exact own_arms hF3 hO3 hL3 (by omega) hw3 (by omega)
   refine Ce.exit (Xe.seq (Xe.loop (Xe.here (Ne.seq (Ce.region (Ie.p rfl rfl rfl rfl ?_))))))
   refine Ie.loadAgg rfl rfl rfl rfl rfl ag50 sz50 (by repeat first | exact .head | exact .app .head | exact .base ‹_› ‹_› (by simp) | refine .tail ?_) (Nat.le_of_ble_eq_true rfl) rfl ?_
   refine Ie.buildSlice rfl rfl rfl rfl rfl (bs22_1 ..) (fun b76 hb76 => ?_)
   refine Ie.appendSl (R := RTy (InH (g3.H 55 cs3 ++ (F2 ++ F)))) (l0 := L) (l := [a]) (L := (L ++ [a])) (g := g_) (cs := cs_) rfl (.tail (.tail (.over (.over .here)))) (flat_mono hF (RTy.mono fun b o h => inB b o (inB b o h))) hO (Sl.single (R := RTy (InH (g3.H 55 cs3 ++ (F2 ++ F)))) (b := b76) (c := 1) (el := 50) (g := false) (md := .plain) (mate := none) ⟨_, _, _, rfl, hSe.mono (fun b o h => inB b o (inA b o h)) fun _ _ h => h, hSf.mono (fun b o h => inB b o (inA b o h)) fun _ _ h => h, hSa⟩ rfl) ((InH.sees (by intro p hp; rw [List.mem_singleton.1 hp]; exact List.mem_cons_self))) RTy.flats (by simp; omega) rfl rfl rfl rfl Tryz.underlying22 Tryz.underlying22 ap50 rfl rfl (fun g6 cs6 hF6 hO6 => ?_)
   refine Ie.p rfl rfl rfl rfl (Ie.nil (Ne.blk (Ne.seq (Ce.region ?_))))
   iterate 2 refine Ie.p rfl rfl rfl rfl ?_
   refine Ie.as 12 (.int .i64 (Int.ofNat (i + 1))) rfl (congrArg (Value.int .i64) (wr_succ (by omega))) ?_
   refine Ie.p rfl rfl rfl rfl (Ie.nil ?_)
   exact Ne.loop (i + 1, g6, cs6, L ++ [a], g3.H 55 cs3 ++ (F2 ++ F)) ⟨by omega, by rw [hL, take_succ' ha], hF6, hO6⟩ (by show l.length - (i + 1) < l.length - i; omega) ⟨rfl, rfl, rfl, trivial⟩ (List.Sublist.append_left (.cons _ (.cons _ (List.Sublist.refl _))) _)
 ·try simp only [nz] at ht10
  refine Ce.exit (Xe.seq (Xe.loop (Xe.here (Ne.seq (Ce.seq (Ce.region ?_))))))
  iterate 2 refine Ie.p rfl rfl rfl rfl ?_
  refine Ie.nil (Ne.seq (Ce.ret ?_))
  exact Re.end_ rfl rfl (fun m hm => ⟨(g_.H 50 cs_ ++ F, g_.V L.length), own_fin hF hO hL (by omega) (by omega), rfl, hm.ext, hm.news (List.Sublist.refl _)⟩)

theorem mkTypes_b : (match Tryz.prog.info? 50 with | some i => Nat.ble i.bytes 65536 | none => false) = true := by kernel_rfl
theorem mkTypes : ∃ z, makeSliceA Tryz.prog 22 (some (Int.ofNat 1025)) (some (Int.ofNat 1025)) = some (newCells z 50, sliceTo 1025 1025) := by
 have h := mkTypes_b
 cases hi : Tryz.prog.info? 50 with
 | none => rw [hi] at h; cases h
 | some i =>
  rw [hi] at h
  simp only at h
  unfold makeSliceA
  simp only [Tryz.underlying22, sz50, hi]
  have e1 : (Nat.ble 1025 1025 && Nat.ble 1025 16777216 && Nat.ble i.bytes 65536) = true := by rw [h]; rfl
  rw [e1]
  unfold zerosT
  simp only [zr50]
  exact ⟨_, rfl⟩
theorem awake_ok {m : AW} : Fc Tryz.prog 13 [] m fun v m' => v = .bool true ∧ Ext m m' := Fc.said Tryz.func13 (by kernel_rfl) rfl rfl fewer ⟨rfl, fun p hp => by cases hp⟩

theorem check_long {a : Option Addr} {n c : Nat} {m : AW} (hm : m.lo ≤ m.next) (hn : 1024 < n) : Fc Tryz.prog 15 [.slice a n c] m fun v m' => v = .int .i64 3 ∧ Ext m m' := by
 refine Fc.body (c := _) Tryz.func15 rfl rfl rfl rfl hm ?_
 refine Ce.seq (Ce.region (Ie.p rfl rfl rfl rfl (Ie.nil (Ne.seq (Ce.seq (Ce.seq (Ce.region (Ie.p rfl rfl rfl rfl ?_))))))))
 refine Ie.len rfl rfl rfl rfl rfl (ln22 ..) ?_
 refine Ie.p rfl rfl rfl rfl (Ie.nil (Ne.seq ?_))
 refine Ce.cond rfl (fun ht13 => ?_) (fun ht13 => ?_)
 ·try simp only [nz] at ht13
  refine Ce.seq (Ce.region (Ie.p rfl rfl rfl rfl (Ie.nil (Ne.seq (Ce.ret (Re.seq ?_))))))
  exact Re.end_ rfl rfl (fun m hm => ⟨rfl, hm.ext⟩)
 ·try simp only [nz] at ht13
  exfalso; omega

theorem checks_ok {l : List Ty} {vl : Value} {t : Int} {m : AW} (hm : m.lo ≤ m.next) (hlS : Sl (Mem m) 5 (RTy (Mem m)) l vl) : Fc Tryz.prog 3 [vl, .int .i64 t] m fun v m' => v = .bool true ∧ Ext m m' := by
 have hlS0 := hlS
 obtain ⟨al, cl, rfl, hnl, hl⟩ := hlS
 refine Fc.body (c := _) Tryz.func3 rfl rfl rfl rfl hm ?_
 refine Ce.seq (Ce.region (Ie.p rfl rfl rfl rfl (Ie.nil (Ne.seq (Ce.seq (Ce.seq (Ce.region ?_)))))))
 refine Ie.call _ rfl rfl rfl rfl rfl rfl (fun m hm => awake_ok) ?_
 iterate 3 refine Ie.p rfl rfl rfl rfl ?_
 refine Ie.call _ rfl rfl rfl rfl rfl rfl (fun m hm => few_ok hm.lole (hlS0.mono (Mem.kr hm) (RTy.mono (Mem.kr hm)))) ?_
 iterate 2 refine Ie.p rfl rfl rfl rfl ?_
 refine Ie.nil (Ne.seq ?_)
 refine Ce.cond rfl (fun ht11 => ?_) (fun ht11 => ?_)
 ·refine Ce.seq (Ce.region ?_)
  refine Ie.call _ rfl rfl rfl rfl rfl rfl (fun m hm => awake_ok) ?_
  refine Ie.p rfl rfl rfl rfl (Ie.nil (Ne.seq (Ce.ret (Re.seq ?_))))
  exact Re.end_ rfl rfl (fun m hm => ⟨rfl, hm.ext⟩)
 ·have hfew : fewB l = true := by cases hf : fewB l with | true => rfl | false => rw [hf] at ht11; cases ht11
  obtain ⟨hn14, hwl⟩ := few_all hfew
  refine Ce.skip (Ne.seq (Ce.seq (Ce.region (Ie.p rfl rfl rfl rfl ?_))))
  refine Ie.calln _ _ _ rfl rfl rfl rfl rfl rfl (fun m hm => own_ok hm.lole (hlS0.mono (Mem.kr hm) (RTy.mono (Mem.kr hm))) hwl hn14) (fun z1 hz1 => ?_)
  refine Ie.calln _ _ _ rfl rfl rfl rfl rfl rfl (fun m hm => check_ok hm.lole (hz1.mono (InH.kr hm fun p_ hp_ => List.mem_append_left _ hp_) (RTy.mono (InH.kr hm fun p_ hp_ => List.mem_append_left _ hp_))) hwl hn14) (fun e1 he1 => ?_)
  refine Ie.p rfl rfl rfl rfl ?_
  refine Ie.calln _ _ _ rfl rfl rfl rfl rfl rfl (fun m hm => rcheck_ok hm.lole (hlS0.mono (Mem.kr hm) (RTy.mono (Mem.kr hm))) hwl hn14) (fun e2 he2 => ?_)
  refine Ie.p rfl rfl rfl rfl ?_
  have he := he1.uniq he2
  refine Ie.as 18 (.bool true) rfl (congrArg Value.bool (by rw [eqI_eq]; exact decide_eq_true he)) ?_
  iterate 2 refine Ie.p rfl rfl rfl rfl ?_
  refine Ie.calln _ _ _ rfl rfl rfl rfl rfl rfl (fun m hm => own_ok hm.lole (hlS0.mono (Mem.kr hm) (RTy.mono (Mem.kr hm))) hwl hn14) (fun z2 hz2 => ?_)
  refine Ie.p rfl rfl rfl rfl ?_
  refine Ie.calln _ _ _ rfl rfl rfl rfl rfl rfl (fun m hm => Value_ok hm.lole (hz2.mono (InH.kr hm fun p_ hp_ => List.mem_append_left _ hp_) (RTy.mono (InH.kr hm fun p_ hp_ => List.mem_append_left _ hp_))) hwl hn14) (fun c1 hc1 => ?_)
  iterate 2 refine Ie.p rfl rfl rfl rfl ?_
  refine Ie.calln _ _ _ rfl rfl rfl rfl rfl rfl (fun m hm => rValue_ok hm.lole (hlS0.mono (Mem.kr hm) (RTy.mono (Mem.kr hm))) hwl hn14) (fun c2 hc2 => ?_)
  refine Ie.eqBool rfl rfl rfl rfl Tryz.underlying4 rfl rfl ?_
  have hcc := hc1.uniq hc2
  refine Ie.as 27 (.bool true) rfl (congrArg Value.bool (by rw [hcc]; cases c2 <;> rfl)) ?_
  iterate 2 refine Ie.p rfl rfl rfl rfl ?_
  obtain ⟨z0, hz0⟩ := mkTypes
  refine Ie.makeSlice (el := 50) hz0 rfl rfl rfl rfl rfl rfl (fun b30 hb30 => ?_)
  refine Ie.call _ rfl rfl rfl rfl rfl rfl (fun m hm => check_long hm.lole (by decide)) ?_
  iterate 3 refine Ie.p rfl rfl rfl rfl ?_
  refine Ie.nil (Ne.seq (Ce.ret ?_))
  exact Re.end_ rfl rfl (fun m hm => ⟨rfl, hm.ext⟩)

end Go.Proofs.YtmfbljaemhpokaaGreatDoor
