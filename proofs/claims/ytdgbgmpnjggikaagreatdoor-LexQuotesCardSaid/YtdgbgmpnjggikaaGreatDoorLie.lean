/-
  Where the variables lie that are read. Conditions: none.
-/
import Derived.Test.YtdgbgmpnjggikaaGreatDoorAwk
namespace Go.Proofs.YtdgbgmpnjggikaaGreatDoor
open Go Go.Ab
set_option linter.unusedVariables false
set_option linter.unusedSimpArgs false
set_option linter.unusedSectionVars false

set_option maxRecDepth 100000 in
/-- Where the variables lie. -/
theorem lies {W : World} (hsh : W.ShapedOpen Tryz.prog) (h : laidMetH Tryz.prog Rows.lexQuotesRow.laid W) : ∃ m, @LiesBy (V0 m) Tryz.prog W lays := by
  rw [MakeChecks.laidMetH_plain _ _ _ (by kernel_rfl)] at h
  have hW := globals_of_shaped hsh more
  obtain ⟨f0, v0⟩ := plainVar (n := "unicode/utf8.first") (d := Rows.laid_unicode_utf8_first) (g := 0) (t := 54) (k := 256) hsh h (.tail _ (.tail _ (.tail _ (.tail _ (.tail _ (.tail _ (.tail _ (.tail _ (.tail _ (.tail _ (.tail _ (.tail _ (.tail _ (.tail _ (.tail _ (.head _)))))))))))))))) (by kernel_rfl) (by kernel_rfl) (by kernel_rfl) (by kernel_rfl) (by kernel_rfl)
  obtain ⟨f1, v1⟩ := plainVar (n := "unicode/utf8.acceptRanges") (d := Rows.laid_unicode_utf8_acceptRanges) (g := 1) (t := 57) (k := 32) hsh h (.tail _ (.tail _ (.tail _ (.tail _ (.tail _ (.tail _ (.tail _ (.tail _ (.tail _ (.head _)))))))))) (by kernel_rfl) (by kernel_rfl) (by kernel_rfl) (by kernel_rfl) (by kernel_rfl)
  obtain ⟨f2, v2⟩ := plainVar (n := "acheron/lex.signs") (d := Rows.laid_acheron_lex_signs) (g := 2) (t := 80) (k := 49) hsh h (.tail _ (.tail _ (.tail _ (.tail _ (.tail _ (.tail _ (.tail _ (.tail _ (.tail _ (.tail _ (.tail _ (.tail _ (.head _))))))))))))) (by kernel_rfl) (by kernel_rfl) (by kernel_rfl) (by kernel_rfl) (by kernel_rfl)
  obtain ⟨m, hm⟩ := cell_of_shapedOpen_int (zero := #[.int .i64 0]) (t := 3) (g := 6) hsh (of_decide_eq_true (by kernel_rfl)) (by kernel_rfl) rfl (by kernel_rfl) (by kernel_rfl) Tryz.underlying3
  obtain ⟨c1, h1, hs1, -⟩ := hsh.1 6 #[.int .i64 0] 3 (of_decide_eq_true (by kernel_rfl)) (by kernel_rfl)
  have hc1 : c1[0]? = some (.int .i64 m) := by
    unfold World.cell? at hm
    simp only [h1] at hm
    exact hm
  obtain ⟨ρ, hr⟩ : ∃ ρ : Ren, ρ = fun i => if i < Tryz.prog.globals.size then some ⟨i, 0, 0⟩ else if i < laidEnd then none else none := ⟨_, rfl⟩
  have hρ : ∀ i, i < 18 → ρ i = some ⟨i, 0, 0⟩ := fun i hi => by
    rw [hr]
    exact if_pos (by rw [show Tryz.prog.globals.size = 18 by kernel_rfl]; exact hi)
  refine ⟨m, @liesBy_of (V0 m) Tryz.prog W lays hW (Nat.le_of_ble_eq_true fewer) (fun _ => none) (fun i s hs => by cases hs) ρ hr (fun b g vs hm => ?_)⟩
  show @LaidOk (V0 m) Tryz.prog W ρ b g vs
  unfold lays at hm
  simp only [List.mem_cons, Prod.mk.injEq, List.not_mem_nil, or_false] at hm
  rcases hm with ⟨rfl, rfl, rfl⟩ | ⟨rfl, rfl, rfl⟩ | ⟨rfl, rfl, rfl⟩ | ⟨rfl, rfl, rfl⟩
  · exact @laidOk_plain (V0 m) _ _ _ _ _ _ _ (hρ _ (by decide)) v0 (by kernel_rfl)
  · exact @laidOk_plain (V0 m) _ _ _ _ _ _ _ (hρ _ (by decide)) v1 (by kernel_rfl)
  · exact @laidOk_plain (V0 m) _ _ _ _ _ _ _ (hρ _ (by decide)) v2 rfl
  · refine ⟨⟨6, 0, 0⟩, c1, 3, (0, 0), hρ _ (by decide), h1, ?_, fun i v hv => ?_, fun _ => ⟨rfl, hs1⟩, fun h => by cases h⟩
    · show 0 + 1 ≤ c1.size
      rw [hs1]
      exact Nat.le_refl _
    · cases i with
      | zero =>
        simp only [List.getElem?_cons_zero, Option.some.injEq] at hv
        subst hv
        exact ⟨_, hc1, rfl⟩
      | succ i => simp at hv

end Go.Proofs.YtdgbgmpnjggikaaGreatDoor
