/-
  awake() is reckoned by the kernel; where the variables lie that it reads. Conditions: none.
-/
import Derived.Test.YtmcjihhfgmfcpaaGreatDoorRea
import Derived.Test.YtmcjihhfgmfcpaaGreatDoorProg
import Derived.Test.YtmcjihhfgmfcpaaGreatDoorRows
import GoSem.PinnedTables
import Derived.KernelRfl
import Derived.ProofKit
import Derived.MakeChecks
import Derived.LaidMore
import Derived.Lay
namespace Go.Proofs.YtmcjihhfgmfcpaaGreatDoor
open Go Go.Ab
set_option linter.unusedVariables false
set_option linter.unusedSimpArgs false
set_option linter.unusedSectionVars false
theorem names : plainNamesB Tryz.prog = true := by kernel_rfl
theorem mixed : Tryz.prog.follows .mixedOrders = true := by kernel_rfl
theorem fewer : Nat.ble Tryz.prog.globals.size laidEnd = true := by kernel_rfl
theorem more : Nat.blt Tryz.prog.globals.size (begin Tryz.prog (fun _ _ => 0) default).world.heap.size = true := by kernel_rfl
theorem own : ownKnob Tryz.prog.godebug = none := by kernel_rfl
/-- The variables that awake() reads: their cells. -/
def lays : List (Nat × Bool × List Value) := (12, false, dcells Rows.laid_internal_strconv_pow10Tab) :: [(1, false, [.int .u64 1, .int .u64 10, .int .u64 100, .int .u64 1000, .int .u64 10000, .int .u64 100000, .int .u64 1000000, .int .u64 10000000, .int .u64 100000000, .int .u64 1000000000, .int .u64 10000000000, .int .u64 100000000000, .int .u64 1000000000000, .int .u64 10000000000000, .int .u64 100000000000000, .int .u64 1000000000000000, .int .u64 10000000000000000, .int .u64 100000000000000000, .int .u64 1000000000000000000, .int .u64 10000000000000000000]),
  (2, false, [.bool true]),
  (8, false, [.int .u8 0, .int .u8 1, .int .u8 28, .int .u8 2, .int .u8 29, .int .u8 14, .int .u8 24, .int .u8 3, .int .u8 30, .int .u8 22, .int .u8 20, .int .u8 15, .int .u8 25, .int .u8 17, .int .u8 4, .int .u8 8, .int .u8 31, .int .u8 27, .int .u8 13, .int .u8 23, .int .u8 21, .int .u8 19, .int .u8 16, .int .u8 7, .int .u8 26, .int .u8 12, .int .u8 18, .int .u8 6, .int .u8 11, .int .u8 5, .int .u8 10, .int .u8 9]),
  (9, false, [.int .u8 0, .int .u8 1, .int .u8 56, .int .u8 2, .int .u8 57, .int .u8 49, .int .u8 28, .int .u8 3, .int .u8 61, .int .u8 58, .int .u8 42, .int .u8 50, .int .u8 38, .int .u8 29, .int .u8 17, .int .u8 4, .int .u8 62, .int .u8 47, .int .u8 59, .int .u8 36, .int .u8 45, .int .u8 43, .int .u8 51, .int .u8 22, .int .u8 53, .int .u8 39, .int .u8 33, .int .u8 30, .int .u8 24, .int .u8 18, .int .u8 12, .int .u8 5, .int .u8 63, .int .u8 55, .int .u8 48, .int .u8 27, .int .u8 60, .int .u8 41, .int .u8 37, .int .u8 16, .int .u8 46, .int .u8 35, .int .u8 44, .int .u8 21, .int .u8 52, .int .u8 32, .int .u8 23, .int .u8 11, .int .u8 54, .int .u8 26, .int .u8 40, .int .u8 15, .int .u8 34, .int .u8 20, .int .u8 31, .int .u8 10, .int .u8 25, .int .u8 14, .int .u8 19, .int .u8 9, .int .u8 13, .int .u8 8, .int .u8 7, .int .u8 6]),
  (11, false, [.int .u64 52, .int .u64 11, .int .i64 (-1023)]),
  (15, false, [.slice (some ⟨515, 0, none⟩) 9 9]),
  (515, true, [.int .i64 1, .int .i64 3, .int .i64 6, .int .i64 9, .int .i64 13, .int .i64 16, .int .i64 19, .int .i64 23, .int .i64 26]),
  (16, false, [.slice (some ⟨516, 0, none⟩) 23 23]),
  (516, true, [.float .f64 4607182418800017408, .float .f64 4621819117588971520, .float .f64 4636737291354636288, .float .f64 4652007308841189376, .float .f64 4666723172467343360, .float .f64 4681608360884174848, .float .f64 4696837146684686336, .float .f64 4711630319722168320, .float .f64 4726483295884279808, .float .f64 4741671816366391296, .float .f64 4756540486875873280, .float .f64 4771362005757984768, .float .f64 4786511204640096256, .float .f64 4801453603149578240, .float .f64 4816244402031689728, .float .f64 4831355200913801216, .float .f64 4846369599423283200, .float .f64 4861130398305394688, .float .f64 4876203697187506176, .float .f64 4891288408196988160, .float .f64 4906019910204099648, .float .f64 4921056587992461136, .float .f64 4936209963552724370])]
theorem awake_run (tt : Nat → TypeId) : saysB true (@irun noVals Tryz.prog 100000 noFr (.fn 15 []) ⟨laidT tt lays, 1000, 0, []⟩) = true := by kernel_rfl

theorem awake_calls {W : World} (hl : LiesBy Tryz.prog W lays) : Calls Tryz.prog 15 ⟨[]⟩ W fun e W' => e = .returned (.bool true) ∧ Still W W' :=
  calls_laid0 (args := []) (args' := []) (plainNames_of names) mixed awake_run Tryz.func15 (by kernel_rfl) hl (by kernel_rfl) (fun _ => @VsRel.nil noVals _)

/-- The operations of reals of the program and of the reference. -/
def realC (f : FuncId) (a b : Int) : Option Value :=
  bif Nat.beq f 128 then some (.int .i64 (realV .add (flb a) (flb b))) else bif Nat.beq f 129 then some (.int .i64 (realV .sub (flb a) (flb b))) else bif Nat.beq f 130 then some (.int .i64 (realV .mul (flb a) (flb b))) else bif Nat.beq f 131 then some (.int .i64 (realV .quo (flb a) (flb b))) else none
def realR (o : Int) (x y : Nat) : Option Value := match o with
  | 0 => some (.int .i64 (realV .add x y))
  | 1 => some (.int .i64 (realV .sub x y))
  | 2 => some (.int .i64 (realV .mul x y))
  | 3 => some (.int .i64 (realV .quo x y))
  | _ => none
/-- awake() is known, and what operations of reals give. -/
def callV (f : FuncId) (args : List Value) : Option Value := match args with
  | [] => bif Nat.beq f 15 then some (.bool true) else none
  | [.int .i64 a, .int .i64 b] => realC f a b
  | [.int .i64 o, .float .f64 x, .float .f64 y] => bif Nat.beq f 54 then realR o x y else none
  | _ => none
instance V : Vals := { noVals with
  call := callV
  laid := lays }
theorem bif_some2 {c : Bool} {a b : Option Value} {v : Value} (h : (bif c then a else b) = some v) : (c = true ∧ a = some v) ∨ (c = false ∧ b = some v) := by
  cases c
  · exact .inr ⟨rfl, h⟩
  · exact .inl ⟨rfl, h⟩
theorem qt_still {W W' : World} {e : Ending} {v : Value} (h : e = .returned v ∧ Qt W W') : e = .returned v ∧ (W'.os = W.os ∧ W'.tape = W.tape ∧ W'.output = W.output) ∧ W.heap.size ≤ W'.heap.size ∧ ∀ b, b < W.heap.size → W'.heap[b]? = W.heap[b]? :=
  ⟨h.1, h.2.1, by rw [h.2.2]; exact Nat.le_refl _, fun b _ => by rw [h.2.2]⟩
theorem realC_calls {f : FuncId} {a b : Int} {v : Value} (h : realC f a b = some v) (W : World) : Calls Tryz.prog f #[.int .i64 a, .int .i64 b] W fun e W' => e = .returned v ∧ Qt W W' := by
  unfold realC at h
  rcases bif_some2 h with ⟨hf, h⟩ | ⟨-, h⟩
  · cases h; rw [Nat.eq_of_beq_eq_true hf]; exact @add_any noVals a b W
  rcases bif_some2 h with ⟨hf, h⟩ | ⟨-, h⟩
  · cases h; rw [Nat.eq_of_beq_eq_true hf]; exact @sub_any noVals a b W
  rcases bif_some2 h with ⟨hf, h⟩ | ⟨-, h⟩
  · cases h; rw [Nat.eq_of_beq_eq_true hf]; exact @mul_any noVals a b W
  rcases bif_some2 h with ⟨hf, h⟩ | ⟨-, h⟩
  · cases h; rw [Nat.eq_of_beq_eq_true hf]; exact @quo_any noVals a b W
  cases h
theorem realC_int {f : FuncId} {a b : Int} {v : Value} (h : realC f a b = some v) : ∃ n, v = .int .i64 n := by
  unfold realC at h
  rcases bif_some2 h with ⟨-, h⟩ | ⟨-, h⟩
  · exact ⟨_, (Option.some.inj h).symm⟩
  rcases bif_some2 h with ⟨-, h⟩ | ⟨-, h⟩
  · exact ⟨_, (Option.some.inj h).symm⟩
  rcases bif_some2 h with ⟨-, h⟩ | ⟨-, h⟩
  · exact ⟨_, (Option.some.inj h).symm⟩
  rcases bif_some2 h with ⟨-, h⟩ | ⟨-, h⟩
  · exact ⟨_, (Option.some.inj h).symm⟩
  cases h
theorem realR_int {o : Int} {x y : Nat} {v : Value} (h : realR o x y = some v) : ∃ n, v = .int .i64 n := by
  unfold realR at h
  split at h
  any_goals exact ⟨_, (Option.some.inj h).symm⟩
  cases h
theorem realR_calls {o : Int} {x y : Nat} {v : Value} (h : realR o x y = some v) (W : World) : Calls Tryz.prog 54 #[.int .i64 o, .float .f64 x, .float .f64 y] W fun e W' => e = .returned v ∧ Qt W W' := by
  unfold realR at h
  split at h <;> cases h
  · exact @radd_any noVals x y W
  · exact @rsub_any noVals x y W
  · exact @rmul_any noVals x y W
  · exact @rquo_any noVals x y W
theorem call_facts (f : FuncId) (args : List Value) (v : Value) (h : callV f args = some v) (W : World) (hl : LiesBy Tryz.prog W lays) : Calls Tryz.prog f ⟨args.map (@den V)⟩ W fun e W' => e = .returned (@denT V v) ∧ (W'.os = W.os ∧ W'.tape = W.tape ∧ W'.output = W.output) ∧ W.heap.size ≤ W'.heap.size ∧ ∀ b, b < W.heap.size → W'.heap[b]? = W.heap[b]? := by
  unfold callV at h
  split at h
  · rcases bif_some2 h with ⟨hf, h⟩ | ⟨-, h⟩
    · cases h
      rw [Nat.eq_of_beq_eq_true hf]
      exact (awake_calls hl).mono fun e W' ⟨h1, h2⟩ => ⟨h1, ⟨h2.1.1, h2.1.2.1, h2.1.2.2⟩, h2.2.1, h2.2.2⟩
    · cases h
  · obtain ⟨n, rfl⟩ := realC_int h
    exact (realC_calls h W).mono fun _ _ => qt_still
  · rcases bif_some2 h with ⟨hf, h⟩ | ⟨-, h⟩
    · obtain ⟨n, rfl⟩ := realR_int h
      rw [Nat.eq_of_beq_eq_true hf]
      exact (realR_calls h W).mono fun _ _ => qt_still
    · cases h
  · cases h
instance facts : @FactsOk V Tryz.prog :=
  @FactsOk.mk V Tryz.prog (fun _ _ _ _ _ h => by cases h) (fun _ _ _ h => by cases h) (fun _ _ _ _ h => by cases h) (fun _ _ _ h => by cases h) fun f args v h W hl => call_facts f args v h W hl
theorem awake_ok {m : AW} (hl : LaidAt lays m) : Fc Tryz.prog 15 [] m fun v m' => v = .bool true ∧ Ext m m' :=
  Fc.said Tryz.func15 (by kernel_rfl) rfl rfl fewer hl

def powtab : List (DataW Unit) := match (Rows.laid_internal_strconv_powtab : DataW Unit) with | .slice l _ => l | _ => []
def fpow10 : List (DataW Unit) := match (Rows.laid_internal_strconv_float64pow10 : DataW Unit) with | .slice l _ => l | _ => []

set_option maxRecDepth 100000 in
/-- Where the variables lie. -/
theorem lies {W : World} (hsh : W.ShapedOpen Tryz.prog) (h : laidMetH Tryz.prog Rows.numberRingRow.laid W) : LiesBy Tryz.prog W lays := by
  rw [MakeChecks.laidMetH_plain _ _ _ (by kernel_rfl)] at h
  have hW := globals_of_shaped hsh more
  obtain ⟨f8, v8⟩ := plainVar (n := "math/bits.deBruijn32tab") (d := Rows.laid_math_bits_deBruijn32tab) (g := 8) (t := 167) (k := 32) hsh h (.head _) (by kernel_rfl) (by kernel_rfl) (by kernel_rfl) (by kernel_rfl) (by kernel_rfl)
  obtain ⟨f9, v9⟩ := plainVar (n := "math/bits.deBruijn64tab") (d := Rows.laid_math_bits_deBruijn64tab) (g := 9) (t := 195) (k := 64) hsh h (.tail _ (.head _)) (by kernel_rfl) (by kernel_rfl) (by kernel_rfl) (by kernel_rfl) (by kernel_rfl)
  obtain ⟨f11, v11⟩ := plainVar (n := "internal/strconv.float64info") (d := Rows.laid_internal_strconv_float64info) (g := 11) (t := 218) (k := 3) hsh h (.tail _ (.tail _ (.tail _ (.head _)))) (by kernel_rfl) (by kernel_rfl) (by kernel_rfl) (by kernel_rfl) (by kernel_rfl)
  obtain ⟨f2, v2⟩ := plainVar (n := "internal/strconv.optimize") (d := Rows.laid_internal_strconv_optimize) (g := 2) (t := 4) (k := 1) hsh h (.tail _ (.tail _ (.tail _ (.tail _ (.head _))))) (by kernel_rfl) (by kernel_rfl) (by kernel_rfl) (by kernel_rfl) (by kernel_rfl)
  obtain ⟨b15, o15, ⟨f15, v15⟩, s15, c15, u15, g15, w15, l15, e15⟩ := sliceVar (n := "internal/strconv.powtab") (ds := powtab) (g := 15) (t := 248) (e := 3) (k := 1) hsh h (.tail _ (.tail _ (.tail _ (.tail _ (.tail _ (.head _)))))) (by kernel_rfl) (by kernel_rfl) (by kernel_rfl) (by kernel_rfl) (by kernel_rfl) (by kernel_rfl) (by decide +kernel) (by decide +kernel) (by decide +kernel)
  obtain ⟨b16, o16, ⟨f16, v16⟩, s16, c16, u16, g16, w16, l16, e16⟩ := sliceVar (n := "internal/strconv.float64pow10") (ds := fpow10) (g := 16) (t := 249) (e := 63) (k := 1) hsh h (.tail _ (.tail _ (.tail _ (.tail _ (.tail _ (.tail _ (.head _))))))) (by kernel_rfl) (by kernel_rfl) (by kernel_rfl) (by kernel_rfl) (by kernel_rfl) (by kernel_rfl) (by decide +kernel) (by decide +kernel) (by decide +kernel)
  obtain ⟨f1, v1⟩ := plainVar (n := "internal/strconv.uint64pow10") (d := Rows.laid_internal_strconv_uint64pow10) (g := 1) (t := 139) (k := 20) hsh h (.tail _ (.tail _ (.tail _ (.tail _ (.tail _ (.tail _ (.tail _ (.tail _ (.head _))))))))) (by kernel_rfl) (by kernel_rfl) (by kernel_rfl) (by kernel_rfl) (by kernel_rfl)
  obtain ⟨f12, v12⟩ := plainVar (n := "internal/strconv.pow10Tab") (d := Rows.laid_internal_strconv_pow10Tab) (g := 12) (t := 239) (k := 1392) hsh h (.tail _ (.tail _ (.tail _ (.tail _ (.tail _ (.tail _ (.tail _ (.tail _ (.tail _ (.tail _ (.tail _ (.tail _ (.tail _ (.head _)))))))))))))) (by kernel_rfl) (by kernel_rfl) (by kernel_rfl) (by kernel_rfl) (by kernel_rfl)
  obtain ⟨sl, hsl⟩ : ∃ sl : Nat → Option Spot, sl = fun i => if i = 515 then some ⟨b15, o15, 0⟩ else if i = 516 then some ⟨b16, o16, 0⟩ else none := ⟨_, rfl⟩
  obtain ⟨ρ, hr⟩ : ∃ ρ : Ren, ρ = fun i => if i < Tryz.prog.globals.size then some ⟨i, 0, 0⟩ else if i < laidEnd then sl i else none := ⟨_, rfl⟩
  have hρ : ∀ i, i < 17 → ρ i = some ⟨i, 0, 0⟩ := fun i hi => by
    rw [hr]
    exact if_pos (by rw [show Tryz.prog.globals.size = 17 by kernel_rfl]; exact hi)
  have hn : ∀ i, 17 ≤ i → i < laidEnd → ρ i = sl i := fun i hi hl => by
    rw [hr]
    exact (if_neg (by rw [show Tryz.prog.globals.size = 17 by kernel_rfl]; omega)).trans (if_pos hl)
  refine liesBy_of hW (Nat.le_of_ble_eq_true fewer) sl (fun i s hs => ?_) hr (fun b g vs hm => ?_)
  · rw [hsl] at hs
    simp only at hs
    split at hs
    · cases hs; exact s15
    · split at hs
      · cases hs; exact s16
      · cases hs
  · have r515 : ρ 515 = some ⟨b15, o15, 0⟩ := by rw [hn 515 (by decide) (by decide), hsl]; rfl
    have r516 : ρ 516 = some ⟨b16, o16, 0⟩ := by rw [hn 516 (by decide) (by decide), hsl]; rfl
    show LaidOk Tryz.prog W ρ b g vs
    unfold lays at hm
    simp only [List.mem_cons, Prod.mk.injEq, List.not_mem_nil, or_false] at hm
    rcases hm with ⟨rfl, rfl, rfl⟩ | ⟨rfl, rfl, rfl⟩ | ⟨rfl, rfl, rfl⟩ | ⟨rfl, rfl, rfl⟩ | ⟨rfl, rfl, rfl⟩ | ⟨rfl, rfl, rfl⟩ | ⟨rfl, rfl, rfl⟩ | ⟨rfl, rfl, rfl⟩ | ⟨rfl, rfl, rfl⟩ | ⟨rfl, rfl, rfl⟩
    · exact laidOk_plain (hρ _ (by decide)) v12 (by kernel_rfl)
    · exact laidOk_plain (hρ _ (by decide)) v1 rfl
    · exact laidOk_plain (hρ _ (by decide)) v2 rfl
    · exact laidOk_plain (hρ _ (by decide)) v8 rfl
    · exact laidOk_plain (hρ _ (by decide)) v9 rfl
    · exact laidOk_plain (hρ _ (by decide)) v11 rfl
    · exact laidOk_slice (hρ _ (by decide)) r515 (by decide +kernel) v15
    · exact laidOk_elems r515 w15 l15 e15 rfl
    · exact laidOk_slice (hρ _ (by decide)) r516 (by decide +kernel) v16
    · exact laidOk_elems r516 w16 l16 e16 rfl

theorem laid0 (tt : Nat → TypeId) : LaidAt lays ⟨laidT tt lays, 1000, 0, []⟩ :=
  ⟨by kernel_rfl, fun p hp => by
    have := List.all_eq_true.1 (show lays.all (fun p => Nat.blt p.1 1000) = true by kernel_rfl) p hp
    rw [nblt, decide_eq_true_eq] at this
    exact this⟩

end Go.Proofs.YtmcjihhfgmfcpaaGreatDoor
