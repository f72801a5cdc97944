/-
  Tables among the arguments. Conditions: none.
-/
import Derived.Test.YtmfbljaemhpokaaGreatDoorGra
import Derived.Test.YtmfbljaemhpokaaGreatDoorAwk
import Derived.WideKeyArgs
namespace Go.Proofs.YtmfbljaemhpokaaGreatDoor
open Go Go.Ab
set_option linter.unusedVariables false
set_option linter.unusedSimpArgs false
set_option linter.unusedSectionVars false
section
variable {H : Type} {enc : TypeId × Value → H} {W : World} {ρ : Ren} {held : Bool}
theorem m0_ {α : Type} {R : α → List Value → Prop} : ∀ K K' : Kn, (∀ b o, K b o → K' b o) → ∀ (a : α) cs, (fun (_ : Kn) => R) K a cs → (fun (_ : Kn) => R) K' a cs := fun _ _ _ _ _ h => h
theorem entInts : Enters enc Tryz.prog W ρ held 32 (fun K (l : List Int) cs => ∃ v, cs = [v] ∧ Sl K 1 RInt l v) :=
 enters_slice (R := fun _ (n : Int) cs => cs = [.int .i64 n]) Tryz.underlying32 (by kernel_rfl) (Nat.le_refl 1) (enters_int Tryz.underlying3) m0_
theorem entFld : Enters enc Tryz.prog W ρ held 132 (fun _ => RFld) :=
 (enters_fields (ts := [9, 3]) (by kernel_rfl) (.cons (enters_string Tryz.underlying9) m0_ (.cons (enters_int Tryz.underlying3) m0_ .nil))).map (fun p => ⟨p.1, p.2.1⟩) (fun K p cs h => by
  obtain ⟨a, b, rfl, rfl, a2, b2, rfl, rfl, rfl⟩ := h
  rfl)
theorem entFlds : Enters enc Tryz.prog W ρ held 47 (fun K (l : List Fld) cs => ∃ v, cs = [v] ∧ Sl K 2 RFld l v) :=
 enters_slice (R := fun _ => RFld) Tryz.underlying47 (by kernel_rfl) (by decide) entFld m0_
theorem monoS {α : Type} {sz : Nat} {R : α → List Value → Prop} : ∀ K K' : Kn, (∀ b o, K b o → K' b o) → ∀ (l : List α) cs, (∃ v, cs = [v] ∧ Sl K sz R l v) → ∃ v, cs = [v] ∧ Sl K' sz R l v := fun _ _ k _ _ ⟨v, e, h⟩ => ⟨v, e, h.mono k fun _ _ h => h⟩
theorem entArm : Enters enc Tryz.prog W ρ held 55 RArm :=
 (enters_fields (ts := [9, 47]) (by kernel_rfl) (.cons (enters_string Tryz.underlying9) m0_ (.cons entFlds monoS .nil))).map (fun p => ⟨p.1, p.2.1⟩) (fun K p cs h => by
  obtain ⟨a, b, rfl, rfl, a2, b2, rfl, ⟨v, rfl, hs⟩, rfl⟩ := h
  exact ⟨v, rfl, hs⟩)
theorem entArms : Enters enc Tryz.prog W ρ held 48 (fun K (l : List Arm) cs => ∃ v, cs = [v] ∧ Sl K 2 (RArm K) l v) :=
 enters_slice Tryz.underlying48 (by kernel_rfl) (by decide) entArm fun _ _ k => RArm.mono k
theorem monoA : ∀ K K' : Kn, (∀ b o, K b o → K' b o) → ∀ (l : List Arm) cs, (∃ v, cs = [v] ∧ Sl K 2 (RArm K) l v) → ∃ v, cs = [v] ∧ Sl K' 2 (RArm K') l v := fun _ _ k _ _ ⟨v, e, h⟩ => ⟨v, e, h.mono k (RArm.mono k)⟩
theorem entTy : Enters enc Tryz.prog W ρ held 50 RTy :=
 (enters_fields (ts := [3, 32, 9, 47, 48]) (by kernel_rfl) (.cons (enters_int Tryz.underlying3) m0_ (.cons entInts monoS (.cons (enters_string Tryz.underlying9) m0_ (.cons entFlds monoS (.cons entArms monoA .nil)))))).map (fun p => ⟨p.1, p.2.1, p.2.2.1, p.2.2.2.1, p.2.2.2.2.1⟩) (fun K p cs h => by
  obtain ⟨a, b, rfl, rfl, a2, b2, rfl, ⟨ve, rfl, he⟩, a3, b3, rfl, rfl, a4, b4, rfl, ⟨vf, rfl, hf⟩, a5, b5, rfl, ⟨va, rfl, ha⟩, rfl⟩ := h
  exact ⟨ve, vf, va, rfl, he, hf, ha⟩)
theorem entTys : Enters enc Tryz.prog W ρ held 22 (fun K (l : List Ty) cs => ∃ v, cs = [v] ∧ Sl K 5 (RTy K) l v) :=
 enters_slice Tryz.underlying22 (by kernel_rfl) (by decide) entTy fun _ _ k => RTy.mono k
end
theorem still_trod {H : Type} {enc : TypeId × Value → H} {P : Program} {t : TypeId} (hl : laidOutB P = true) (hr : P.readableRec t = true) (hrow : t < P.types.size) {W W' : World} (hk : Still W W') {v : Value} {d : DataW H} {ps : List MemPlace} (h : DataW.Trod enc P W 0 (fun _ => true) true t v d ps) (hlt : ∀ p ∈ ps, p.block < W.heap.size) {sp : Nat → Bool} (hs : ∀ p ∈ ps, sp p.block = true) : DataW.Trod enc P W' 0 sp true t v d ps :=
 WideElems.Trod_stays hl hr hrow h (fun p hp => by
  have hb := hk.2.2 _ (hlt p hp)
  cases p with
  | cell b off =>
   show W'.cell? ⟨b, off, none⟩ = W.cell? ⟨b, off, none⟩
   unfold World.cell?
   have hb' : W'.heap[b]? = W.heap[b]? := hb
   simp only [hb']
  | map b => exact hb) hs
end Go.Proofs.YtmfbljaemhpokaaGreatDoor
