/-
  Plain laws of words, numbers and literals. Conditions: none.
-/
import Derived.Test.YtdgbgmpnjggikaaGreatDoorEng6
import Derived.Lib.IndexMore
import Derived.Lib.MapLaws
import Derived.Lib.ValidLaws
import Derived.Lib.QuoteLoop
import Derived.Shelf.Unicode.DecodeSlow
namespace Go.Proofs.YtdgbgmpnjggikaaGreatDoor
open Go Go.Ab
set_option linter.unusedVariables false
set_option linter.unusedSimpArgs false
set_option linter.unusedSectionVars false
variable [Vals]
theorem _root_.Go.Ab.LaidAt.krS {l : List (Nat × Bool × List Value)} {S : List Nat} {m0 m : AW} {h : Hp} (x : LaidAt l m0) (hK : ∀ p ∈ l, p.1 ∉ S) (k : KR S m0 m h) : LaidAt l m :=
  ⟨(hasL_congr fun p hp => k.keep p.1 (x.2 p hp) (hK p hp)).trans x.1, fun p hp => Nat.lt_of_lt_of_le (x.2 p hp) k.next⟩
/-! Letters, digits, words. -/
def letB (c : Nat) : Bool := decide (97 ≤ c ∧ c ≤ 122 ∨ 65 ≤ c ∧ c ≤ 90 ∨ c = 95)
def digB (c : Nat) : Bool := decide (48 ≤ c ∧ c ≤ 57)
def wrdB (c : Nat) : Bool := letB c || digB c
def wordC (c : UInt8) : Bool := wrdB c.toNat
theorem wr_succ {i : Nat} (h : i + 1 ≤ 9223372036854775807) : wr .i64 (Int.ofNat i + 1) = Int.ofNat (i + 1) := by
  show (bif Nat.ble (i + 1) 9223372036854775807 then Int.ofNat (i + 1) else _) = _
  rw [nble, decide_eq_true h]
  rfl
theorem ba_app (a b : ByteArray) : (a ++ b).data.toList = a.data.toList ++ b.data.toList := by simp
theorem binS_cat {P : Program} {x y : Operand} {ty : TypeId} {a b : ByteArray} (h : (a ++ b).size ≤ 4294967296) : binS P .add ty x y (.string a) (.string b) = some (.string (a ++ b)) := by
  have h : binA P .add ty x y (.string a) (.string b) = some (.string (a ++ b)) := by
    show (bif Nat.ble (a.size + b.size) 9223372036854775807 then some (Value.string (a ++ b)) else none) = _
    rw [ByteArray.size_append] at h
    rw [nble, decide_eq_true (by omega)]
    rfl
  unfold binS
  rw [h]
/-! Strings as lists of bytes. -/
theorem ba_eq {a b : ByteArray} (h : a.data.toList = b.data.toList) : a = b := by
  cases a with
  | mk a => cases b with
    | mk b => rw [show a = b from Array.toList_inj.1 h]
theorem ba_cat (a b : List UInt8) : (⟨⟨a⟩⟩ : ByteArray) ++ ⟨⟨b⟩⟩ = ⟨⟨a ++ b⟩⟩ := ba_eq (ba_app _ _)
theorem binS_catL {P : Program} {x y : Operand} {ty : TypeId} {a b : List UInt8} (h : a.length + b.length ≤ 4294967296) : binS P .add ty x y (.string ⟨⟨a⟩⟩) (.string ⟨⟨b⟩⟩) = some (.string ⟨⟨a ++ b⟩⟩) := by
  rw [← ba_cat]
  refine binS_cat ?_
  rw [ByteArray.size_append]
  exact h
theorem ext_drop {l : List UInt8} {a : Nat} : (⟨⟨l⟩⟩ : ByteArray).extract a l.length = ⟨⟨l.drop a⟩⟩ := by
  refine ba_eq ?_
  rw [ByteArray.data_extract, Array.toList_extract]
  show (l.drop a).take (l.length - a) = l.drop a
  rw [List.take_of_length_le (by rw [List.length_drop]; exact Nat.le_refl _)]
section
variable {P : Program} {e : Env} {ty : TypeId} {x y : Operand} {l : List UInt8} {a : Nat} {k : IntKind}
theorem bound_at {d n : Nat} (ha : a ≤ n) : boundA (some (.int k (Int.ofNat a))) d n = some a := by
  unfold boundA
  simp only [asInt?]
  rw [nble, decide_eq_true ha]
  rfl
theorem slice_from (hu : P.underlying ty = some .string) (ha : a ≤ l.length) : sliceA P ty (.string ⟨⟨l⟩⟩) (some (.int k (Int.ofNat a))) none none = some (.string ⟨⟨l.drop a⟩⟩) := by
  unfold sliceA
  simp only [hu]
  show ((some l.length).bind fun h => (boundA (some (.int k (Int.ofNat a))) 0 h).bind fun l_1 => some (Value.string ((⟨⟨l⟩⟩ : ByteArray).extract l_1 h))) = _
  rw [Option.bind_some, bound_at ha, Option.bind_some, ext_drop]
theorem strFrom_E (hx : evE P e x = some (.string ⟨⟨l⟩⟩)) (hy : evE P e y = some (.int k (Int.ofNat a))) (hu : P.underlying ty = some .string) (ha : a ≤ l.length) : opE P e (.slice ty x (some y) none none) = some (.string ⟨⟨l.drop a⟩⟩) := by
  simp only [opE, evoE, hx, hy]
  exact slice_from hu ha
end
/-! Values of digits. -/
def valN (c : Nat) : Nat := if 48 ≤ c ∧ c ≤ 57 then c - 48 else if 97 ≤ c ∧ c ≤ 122 then c - 87 else if 65 ≤ c ∧ c ≤ 90 then c - 55 else 36
def valL (b n : Nat) (l : List UInt8) : Nat := l.foldl (fun n c => n * b + valN c.toNat) n
theorem valL_snoc (b n : Nat) (l : List UInt8) (c : UInt8) : valL b n (l ++ [c]) = valL b n l * b + valN c.toNat := by
  unfold valL
  rw [List.foldl_append]
  rfl
theorem valL_ge {b : Nat} (hb : 1 ≤ b) : ∀ (l : List UInt8) (n : Nat), n ≤ valL b n l
  | [], n => Nat.le_refl _
  | c :: l, n => Nat.le_trans (Nat.le_trans (Nat.le_mul_of_pos_right n hb) (Nat.le_add_right _ _)) (valL_ge hb l (n * b + valN c.toNat))
theorem valL_take {b i : Nat} {l : List UInt8} (hb : 1 ≤ b) : valL b 0 (l.take i) ≤ valL b 0 l := by
  have : valL b 0 l = valL b (valL b 0 (l.take i)) (l.drop i) := by
    unfold valL
    rw [← List.foldl_append, List.take_append_drop]
  rw [this]
  exact valL_ge hb _ _
theorem at_len {l : List UInt8} {i : Nat} (h : i < l.length) : ∃ x, l[i]? = some x := ⟨_, List.getElem?_eq_getElem h⟩
theorem take_succ' {α : Type} {l : List α} {i : Nat} {x : α} (h : l[i]? = some x) : l.take (i + 1) = l.take i ++ [x] := by
  rw [List.take_add_one, h]
  rfl
theorem wr8 {n : Nat} (h : n < 256) : wr .u8 (Int.ofNat n) = Int.ofNat n := by rw [wr_in] <;> simp [IntKind.min, IntKind.max, IntKind.signed, IntKind.bits] <;> omega
theorem wr64 {n : Nat} (h : n < 18446744073709551616) : wr .u64 (Int.ofNat n) = Int.ofNat n := by rw [wr_in] <;> simp [IntKind.min, IntKind.max, IntKind.signed, IntKind.bits] <;> omega
theorem wri {n : Nat} (h : n < 9223372036854775808) : wr .i64 (Int.ofNat n) = Int.ofNat n := by rw [wr_in] <;> simp [IntKind.min, IntKind.max, IntKind.signed, IntKind.bits] <;> omega
theorem wr32 {n : Nat} (h : n < 2147483648) : wr .i32 (Int.ofNat n) = Int.ofNat n := by rw [wr_in] <;> simp [IntKind.min, IntKind.max, IntKind.signed, IntKind.bits] <;> omega
theorem subN {a b : Nat} (h : b ≤ a) : Int.ofNat a - Int.ofNat b = Int.ofNat (a - b) := by simp only [Int.ofNat_eq_natCast]; omega
theorem map_cell {α : Type} {l : List α} {f : α → Value} {i : Nat} {x : α} (h : l[i]? = some x) : (l.map f)[0 + i * 1]? = some (f x) := by
  rw [Nat.zero_add, Nat.mul_one, List.getElem?_map, h]
  rfl
abbrev AllD (D : List UInt8) : Prop := ∀ c ∈ D, digB c.toNat = true
theorem drop_app {α : Type} (D A : List α) : (D ++ A).drop D.length = A := by rw [List.drop_append_of_le_length (Nat.le_refl _), List.drop_length, List.nil_append]
theorem mulN {a b : Nat} (h : a * b < 18446744073709551616) : wr .u64 (Int.ofNat a * Int.ofNat b) = Int.ofNat (a * b) := by
  rw [show Int.ofNat a * Int.ofNat b = Int.ofNat (a * b) from rfl, wr64 h]
theorem addN {a b : Nat} (h : a + b < 18446744073709551616) : wr .u64 (Int.ofNat a + Int.ofNat b) = Int.ofNat (a + b) := by
  rw [show Int.ofNat a + Int.ofNat b = Int.ofNat (a + b) from rfl, wr64 h]
theorem addI {a b : Nat} (h : a + b < 9223372036854775808) : wr .i64 (Int.ofNat a + Int.ofNat b) = Int.ofNat (a + b) := by
  rw [show Int.ofNat a + Int.ofNat b = Int.ofNat (a + b) from rfl, wri h]
/-- No underscore. -/
theorem no_under : ∀ {l : List UInt8}, (∀ c ∈ l, c ≠ 95) → Lib.contains l [95] = false
  | [], _ => rfl
  | c :: l, h => by
    have ih := no_under (l := l) fun x hx => h x (List.mem_cons_of_mem _ hx)
    have hc := h c (List.mem_cons_self ..)
    unfold Lib.contains at ih ⊢
    have ih := of_decide_eq_false ih
    have hp : List.isPrefixOf [95] (c :: l) = false := by
      simp only [List.isPrefixOf_cons_cons, Bool.and_eq_false_imp, beq_iff_eq]
      intro e
      exact absurd e.symm hc
    unfold Lib.index
    rw [hp]
    simp only [Bool.false_eq_true, if_false]
    have := Lib.index_ge l [95]
    rw [if_pos (by simp only [beq_iff_eq]; omega)]
    rfl
/-- A number's text and its value. -/
def NumW (w : List UInt8) (n : Nat) : Prop := (AllD w ∧ 0 < w.length ∧ valL 10 0 w = n ∧ n ≤ 9223372036854775807) ∨ ∃ D A b, w = D ++ 114 :: A ∧ AllD D ∧ 0 < D.length ∧ valL 10 0 D = b ∧ 2 ≤ b ∧ b ≤ 36 ∧ (∀ c ∈ A, wordC c = true) ∧ (∀ c ∈ A, c ≠ 95) ∧ 0 < A.length ∧ (∀ c ∈ A, valN c.toNat < b) ∧ valL b 0 A = n ∧ n ≤ 9223372036854775807
def RTok (t : Int × Int × Int) (cs : List Value) : Prop := cs = [.int .i64 t.1, .string ⟨⟨[]⟩⟩, .int .i64 t.2.1, .int .i64 t.2.2]
theorem RTok.flats : ∀ x cs, RTok x cs → flats cs = true := by
  intro x cs h
  rw [h]
  rfl
theorem NumW.head {w : List UInt8} {n : Nat} (h : NumW w n) : ∃ c r, w = c :: r ∧ digB c.toNat = true := by
  rcases h with ⟨hD, h0, _⟩ | ⟨D, A, b, rfl, hD, h0, _⟩
  · cases w with
    | nil => simp at h0
    | cons c r => exact ⟨c, r, rfl, hD c (List.mem_cons_self ..)⟩
  · cases D with
    | nil => simp at h0
    | cons c r => exact ⟨c, r ++ 114 :: A, rfl, hD c (List.mem_cons_self ..)⟩
theorem get_laid {h : Tr AObj} : ∀ {l : List (Nat × Bool × List Value)} {p : Nat × Bool × List Value}, hasL h l = true → p ∈ l → ∃ o, h.get p.1 = some o
  | (b, g, vs) :: l, p, hl, hp => by
    unfold hasL at hl
    simp only [Bool.and_eq_true] at hl
    rcases List.mem_cons.1 hp with rfl | hp
    · cases e : h.get b with
      | none => rw [e] at hl; simp at hl
      | some o => exact ⟨o, rfl⟩
    · exact get_laid hl.2.2 hp
theorem _root_.Go.Ab.LaidAt.off {l : List (Nat × Bool × List Value)} {S K : List Nat} {m0 m : AW} (x : LaidAt l m0) (hS : ∀ p ∈ l, p.1 ∉ S) (ho : ∀ b o, Off S m0 b o → Off K m b o) : LaidAt l m ∧ ∀ p ∈ l, p.1 ∉ K := by
  have key : ∀ p ∈ l, p.1 < m.next ∧ p.1 ∉ K ∧ m.heap.get p.1 = m0.heap.get p.1 := fun p hp => by
    obtain ⟨o, h⟩ := get_laid x.1 hp
    obtain ⟨a, b, c⟩ := ho p.1 o ⟨x.2 p hp, hS p hp, h⟩
    exact ⟨a, b, c.trans h.symm⟩
  exact ⟨⟨(hasL_congr fun p hp => (key p hp).2.2).trans x.1, fun p hp => (key p hp).1⟩, fun p hp => (key p hp).2.1⟩
theorem _root_.Go.Ab.Gro.len {g : Gro} {n : Nat} (h : g.Ok n) : ∃ a c, g.V n = .slice a n c := by
  cases g with
  | no =>
    have : n = 0 := h
    subst this
    exact ⟨none, 0, rfl⟩
  | emp b =>
    have : n = 0 := h
    subst this
    exact ⟨_, 0, rfl⟩
  | one b => exact ⟨_, _, rfl⟩
  | two b b0 old => exact ⟨_, _, rfl⟩
/-! Writing numbers. -/
def chrD (d : Nat) : UInt8 := if d < 10 then UInt8.ofNat (48 + d) else UInt8.ofNat (55 + d)
theorem chrD_ok : ∀ d, d < 36 → valN (chrD d).toNat = d ∧ wordC (chrD d) = true ∧ chrD d ≠ 95 ∧ (d < 10 → digB (chrD d).toNat = true) := by decide +kernel
def GoodC (b : Nat) (c : UInt8) : Prop := wordC c = true ∧ c ≠ 95 ∧ valN c.toNat < b ∧ (b ≤ 10 → digB c.toNat = true)
theorem goodD {b d : Nat} (hd : d < b) (hb : b ≤ 36) : GoodC b (chrD d) := by
  obtain ⟨h1, h2, h3, h4⟩ := chrD_ok d (by omega)
  exact ⟨h2, h3, by omega, fun h => h4 (by omega)⟩
theorem valL_cons (b v : Nat) (c : UInt8) (s : List UInt8) : valL b v (c :: s) = valL b (v * b + valN c.toNat) s := rfl
/-- The digits that are written so far, and what is left. -/
def DI (b v : Nat) (s : List UInt8) (N : Nat) : Prop := valL b v s = N ∧ (∀ c ∈ s, GoodC b c) ∧ v * 2 ^ s.length ≤ N ∧ (s = [] ∨ 1 ≤ v)
theorem DI.start {b N : Nat} : DI b N [] N := ⟨rfl, (fun _ h => by cases h), by simp, .inl rfl⟩
theorem DI.len {b v N : Nat} {s : List UInt8} (h : DI b v s N) (hN : N < 9223372036854775808) : s.length ≤ 62 := by
  obtain ⟨-, -, h2, h3⟩ := h
  rcases h3 with rfl | h3
  · exact Nat.zero_le _
  · have h4 : 2 ^ s.length ≤ N := Nat.le_trans (Nat.le_mul_of_pos_left _ h3) h2
    have h5 : 2 ^ s.length < 2 ^ 63 := by omega
    have := (Nat.pow_lt_pow_iff_right (by decide : 1 < 2)).1 h5
    omega
theorem DI.le {b v N : Nat} {s : List UInt8} (h : DI b v s N) : v ≤ N := Nat.le_trans (Nat.le_mul_of_pos_right v (Nat.two_pow_pos _)) h.2.2.1
theorem chrD_val {b v : Nat} {s : List UInt8} (hb : 2 ≤ b) (hb2 : b ≤ 36) : valL b (v / b) (chrD (v % b) :: s) = valL b v s := by
  rw [valL_cons, (chrD_ok (v % b) (Nat.lt_of_lt_of_le (Nat.mod_lt v (by omega)) hb2)).1]
  congr 1
  rw [Nat.mul_comm, Nat.div_add_mod]
theorem DI.good {b v N : Nat} {s : List UInt8} (h : DI b v s N) (hb : 2 ≤ b) (hb2 : b ≤ 36) : ∀ c ∈ chrD (v % b) :: s, GoodC b c := fun c hc => by
  rcases List.mem_cons.1 hc with rfl | hc
  · exact goodD (Nat.mod_lt v (by omega)) hb2
  · exact h.2.1 c hc
theorem DI.step {b v N : Nat} {s : List UInt8} (h : DI b v s N) (hb : 2 ≤ b) (hb2 : b ≤ 36) (hv : b ≤ v) : DI b (v / b) (chrD (v % b) :: s) N := by
  refine ⟨(chrD_val hb hb2).trans h.1, h.good hb hb2, ?_, .inr ((Nat.one_le_div_iff (by omega)).2 hv)⟩
  refine Nat.le_trans ?_ h.2.2.1
  rw [List.length_cons, Nat.pow_succ, Nat.mul_comm (2 ^ s.length) 2, ← Nat.mul_assoc]
  refine Nat.mul_le_mul_right _ ?_
  exact Nat.le_trans (Nat.mul_le_mul_left _ hb) (Nat.div_mul_le_self v b)
/-- The digits of a number. -/
def DF (b : Nat) (s : List UInt8) (N : Nat) : Prop := valL b 0 s = N ∧ (∀ c ∈ s, GoodC b c) ∧ 0 < s.length ∧ s.length ≤ 63
theorem DI.done {b v N : Nat} {s : List UInt8} (h : DI b v s N) (hb : 2 ≤ b) (hb2 : b ≤ 36) (hv : v < b) (hN : N < 9223372036854775808) : DF b (chrD (v % b) :: s) N := by
  refine ⟨?_, h.good hb hb2, Nat.succ_pos _, Nat.succ_le_succ (h.len hN)⟩
  have := chrD_val (v := v) (s := s) hb hb2
  rw [Nat.div_eq_of_lt hv] at this
  exact this.trans h.1
theorem _root_.Go.Ab.Gro.first {g : Gro} {n : Nat} {el : TypeId} {cs : List Value} (h : g.Ok n) (hn : 0 < n) : ∃ b mate r, g.V n = .slice (some ⟨b, 0, none⟩) n top ∧ g.H el cs = (b, .cells cs el true .plain mate) :: r := by
  cases g with
  | no => exact absurd h (by show ¬ n = 0; omega)
  | emp b => exact absurd h (by show ¬ n = 0; omega)
  | one b => exact ⟨b, none, [], rfl, rfl⟩
  | two b b0 old => exact ⟨b, some b0, _, rfl, rfl⟩
/-! Characters as bytes. -/
def okR (r : Nat) : Prop := r < 55296 ∨ (57344 ≤ r ∧ r ≤ 1114111)
instance (r : Nat) : Decidable (okR r) := inferInstanceAs (Decidable (_ ∨ _))
def encN (r : Nat) : List UInt8 :=
  if r < 128 then [UInt8.ofNat r] else if r < 2048 then [UInt8.ofNat (192 + r / 64), UInt8.ofNat (128 + r % 64)]
  else if r < 65536 then [UInt8.ofNat (224 + r / 4096), UInt8.ofNat (128 + r / 64 % 64), UInt8.ofNat (128 + r % 64)]
  else [UInt8.ofNat (240 + r / 262144), UInt8.ofNat (128 + r / 4096 % 64), UInt8.ofNat (128 + r / 64 % 64), UInt8.ofNat (128 + r % 64)]
theorem enc_N {r : Nat} (h : okR r) : Utf8.encode (Int.ofNat r) = ⟨⟨encN r⟩⟩ := by
  have hv : Utf8.valid (Int.ofNat r) = true := by
    unfold Utf8.valid
    unfold okR at h
    simp only [Int.ofNat_eq_natCast, Bool.or_eq_true, Bool.and_eq_true, decide_eq_true_eq]
    omega
  unfold Utf8.encode encN
  rw [hv]
  simp only [if_true]
  rw [show (Int.ofNat r).toNat = r from rfl]
  split
  · rfl
  · split
    · rfl
    · split <;> rfl
theorem get_list (l : List UInt8) (i : Nat) : (⟨⟨l⟩⟩ : ByteArray).get! i = l.getD i 0 := by
  show (⟨l⟩ : Array UInt8)[i]! = _
  simp [List.getD_eq_getElem?_getD]
  rfl
theorem u8n {n : Nat} (h : n < 256) : (UInt8.ofNat n).toNat = n := by
  rw [UInt8.toNat_ofNat']
  exact Nat.mod_eq_of_lt h
theorem getD_at (p q : List UInt8) (k : Nat) : (p ++ q).getD (p.length + k) 0 = q.getD k 0 := by
  rw [List.getD_eq_getElem?_getD, List.getD_eq_getElem?_getD, List.getElem?_append_right (Nat.le_add_right _ _), Nat.add_sub_cancel_left]
/-- What was encoded is decoded. -/
theorem dec_enc {r : Nat} (h : okR r) (p q : List UInt8) : Utf8.decode ⟨⟨p ++ (encN r ++ q)⟩⟩ p.length = (r, (encN r).length) := by
  have hs : (⟨⟨p ++ (encN r ++ q)⟩⟩ : ByteArray).size = p.length + ((encN r).length + q.length) := by
    show (p ++ (encN r ++ q)).length = _
    rw [List.length_append, List.length_append]
  have g : ∀ k, (⟨⟨p ++ (encN r ++ q)⟩⟩ : ByteArray).get! (p.length + k) = (encN r ++ q).getD k 0 := fun k => by rw [get_list, getD_at]
  have g0 := g 0
  rw [Nat.add_zero] at g0
  rw [Lib.decode_at, hs, g0, g 1, g 2, g 3, Nat.add_sub_cancel_left]
  unfold okR at h
  unfold encN Lib.decodeN
  by_cases h1 : r < 128
  · simp only [if_pos h1, List.cons_append, List.getD_cons_zero, u8n (show r < 256 by omega), List.length_cons, List.length_nil]
  · by_cases h2 : r < 2048
    · simp only [if_neg h1, if_pos h2, List.cons_append, List.nil_append, List.getD_cons_zero, List.getD_cons_succ, u8n (show 192 + r / 64 < 256 by omega), u8n (show 128 + r % 64 < 256 by omega), List.length_cons, List.length_nil]
      rw [if_neg (by omega), if_pos (by omega), if_pos (by omega)]
      exact Prod.ext (by show _ = r; omega) rfl
    · by_cases h3 : r < 65536
      · simp only [if_neg h1, if_neg h2, if_pos h3, List.cons_append, List.nil_append, List.getD_cons_zero, List.getD_cons_succ, u8n (show 224 + r / 4096 < 256 by omega), u8n (show 128 + r / 64 % 64 < 256 by omega), u8n (show 128 + r % 64 < 256 by omega), List.length_cons, List.length_nil]
        rw [if_neg (by omega), if_neg (by omega), if_pos (by omega), if_pos (by omega)]
        exact Prod.ext (by show _ = r; omega) rfl
      · simp only [if_neg h1, if_neg h2, if_neg h3, List.cons_append, List.nil_append, List.getD_cons_zero, List.getD_cons_succ, u8n (show 240 + r / 262144 < 256 by omega), u8n (show 128 + r / 4096 % 64 < 256 by omega), u8n (show 128 + r / 64 % 64 < 256 by omega), u8n (show 128 + r % 64 < 256 by omega), List.length_cons, List.length_nil]
        rw [if_neg (by omega), if_neg (by omega), if_neg (by omega), if_pos (by omega), if_pos (by omega)]
        exact Prod.ext (by show _ = r; omega) rfl
/-- What is decoded was encoded. -/
theorem dec_bytes {l : List UInt8} (hne : l ≠ []) (hv : ¬ ((Lib.decodeL l).1 = 65533 ∧ (Lib.decodeL l).2 = 1)) : okR (Lib.decodeL l).1 ∧ encN (Lib.decodeL l).1 = l.take (Lib.decodeL l).2 ∧ 0 < (Lib.decodeL l).2 := by
  have hl : 0 < l.length := List.length_pos_iff.2 hne
  rw [Lib.decodeL_N] at hv ⊢
  have k0 := (l.getD 0 0).toNat_lt
  have k1 := (l.getD 1 0).toNat_lt
  have k2 := (l.getD 2 0).toNat_lt
  have k3 := (l.getD 3 0).toNat_lt
  have tb : ∀ (n : Nat) (x : UInt8), n = x.toNat → UInt8.ofNat n = x := fun n x h => by rw [h]; simp
  unfold okR encN
  rcases Lib.decodeN_shape l.length (l.getD 0 0).toNat (l.getD 1 0).toNat (l.getD 2 0).toNat (l.getD 3 0).toNat with ⟨c, e⟩ | ⟨c1, c2, c3, cv, e⟩ | ⟨c1, c2, c3, c4, cv, cs, e⟩ | ⟨c1, c2, c3, c4, c5, cv, cw, e⟩ | e
  · rw [e]
    dsimp only
    rw [if_pos (by omega), Lib.takeA l hl, tb _ (l.getD 0 0) rfl]
    exact ⟨by omega, rfl, by decide⟩
  · rw [e]
    dsimp only
    rw [if_neg (by omega), if_pos (by omega), Lib.takeB l c2, tb _ (l.getD 0 0) (by omega), tb _ (l.getD 1 0) (by omega)]
    exact ⟨by omega, rfl, by decide⟩
  · rw [e]
    dsimp only
    rw [if_neg (by omega), if_neg (by omega), if_pos (by omega), Lib.takeC l c2, tb _ (l.getD 0 0) (by omega), tb _ (l.getD 1 0) (by omega), tb _ (l.getD 2 0) (by omega)]
    exact ⟨by omega, rfl, by decide⟩
  · rw [e]
    dsimp only
    rw [if_neg (by omega), if_neg (by omega), if_neg (by omega), Lib.takeD l c2, tb _ (l.getD 0 0) (by omega), tb _ (l.getD 1 0) (by omega), tb _ (l.getD 2 0) (by omega), tb _ (l.getD 3 0) (by omega)]
    exact ⟨by omega, rfl, by decide⟩
  · rw [e] at hv
    exact absurd ⟨rfl, rfl⟩ hv
abbrev encL (R : List Nat) : List UInt8 := R.flatMap encN
theorem encN_pos (r : Nat) : 0 < (encN r).length := by
  unfold encN
  split
  · exact Nat.succ_pos _
  · split
    · exact Nat.succ_pos _
    · split <;> exact Nat.succ_pos _
/-- A valid string is that of its characters. -/
theorem runes_of : ∀ (n : Nat) {l : List UInt8}, Lib.validGoD n l = true → l.length ≤ n → ∃ R : List Nat, (∀ r ∈ R, okR r) ∧ l = encL R
  | 0, l, _, h => ⟨[], (fun _ h => by cases h), List.eq_nil_of_length_eq_zero (by omega)⟩
  | n + 1, l, hv, h => by
    unfold Lib.validGoD at hv
    by_cases hl : l = []
    · exact ⟨[], (fun _ h => by cases h), hl⟩
    · rw [if_neg hl] at hv
      by_cases hb : (Lib.decodeL l).1 = 65533 ∧ (Lib.decodeL l).2 = 1
      · rw [if_pos hb] at hv
        cases hv
      · rw [if_neg hb] at hv
        obtain ⟨h1, h2, h3⟩ := dec_bytes hl hb
        obtain ⟨R, g1, g2⟩ := runes_of n hv (by rw [List.length_drop]; omega)
        refine ⟨(Lib.decodeL l).1 :: R, fun r hr => ?_, ?_⟩
        · rcases List.mem_cons.1 hr with rfl | hr
          · exact h1
          · exact g1 r hr
        · rw [encL, List.flatMap_cons, h2, ← encL, ← g2, List.take_append_drop]
/-- How a character stands in a string's literal. -/
def hexC (n : Nat) : UInt8 := if n < 10 then UInt8.ofNat (48 + n) else UInt8.ofNat (87 + n)
def escN (r : Nat) : List UInt8 :=
  if r = 34 ∨ r = 92 then [92, UInt8.ofNat r] else if r = 10 then [92, 110] else if r = 9 then [92, 116] else if r = 13 then [92, 114] else if r = 0 then [92, 48]
  else if r < 32 ∨ r = 127 then [92, 117, 48, 48, hexC (r / 16), hexC (r % 16)] else encN r
abbrev escL (R : List Nat) : List UInt8 := R.flatMap escN
theorem dec_go {c : Nat} (h : okR c) (q : List UInt8) : Lib.decodeGo ⟨⟨encN c ++ q⟩⟩ = (c, (encN c).length) := by
  unfold Lib.decodeGo
  have hp := encN_pos c
  have hs : ¬ (⟨⟨encN c ++ q⟩⟩ : ByteArray).size = 0 := by
    show ¬ (encN c ++ q).length = 0
    rw [List.length_append]
    omega
  rw [if_neg hs]
  exact dec_enc h [] q
theorem enc_fffd {c : Nat} (h : (c : Int) = 65533) : (encN c).length = 3 := by
  have : c = 65533 := by omega
  rw [this]
  rfl
section
variable {P : Program} {e : Env} {ty : TypeId} {x y z : Operand} {l : List UInt8} {a b : Nat} {k k2 : IntKind}
theorem ext_mid {l : List UInt8} {a b : Nat} : (⟨⟨l⟩⟩ : ByteArray).extract a b = ⟨⟨(l.take b).drop a⟩⟩ := by
  refine ba_eq ?_
  rw [ByteArray.data_extract, Array.toList_extract]
  show (l.drop a).take (b - a) = (l.take b).drop a
  rw [List.drop_take]
theorem slice_mid (hu : P.underlying ty = some .string) (ha : a ≤ b) (hb : b ≤ l.length) : sliceA P ty (.string ⟨⟨l⟩⟩) (some (.int k (Int.ofNat a))) (some (.int k2 (Int.ofNat b))) none = some (.string ⟨⟨(l.take b).drop a⟩⟩) := by
  unfold sliceA
  simp only [hu]
  show ((boundA (some (.int k2 (Int.ofNat b))) l.length l.length).bind fun h => (boundA (some (.int k (Int.ofNat a))) 0 h).bind fun l_1 => some (Value.string ((⟨⟨l⟩⟩ : ByteArray).extract l_1 h))) = _
  rw [bound_at hb, Option.bind_some, bound_at ha, Option.bind_some, ext_mid]
theorem strMid_E (hx : evE P e x = some (.string ⟨⟨l⟩⟩)) (hy : evE P e y = some (.int k (Int.ofNat a))) (hz : evE P e z = some (.int k2 (Int.ofNat b))) (hu : P.underlying ty = some .string) (ha : a ≤ b) (hb : b ≤ l.length) : opE P e (.slice ty x (some y) (some z) none) = some (.string ⟨⟨(l.take b).drop a⟩⟩) := by
  simp only [opE, evoE, hx, hy, hz]
  exact slice_mid hu ha hb
end
/-- A digit of a number in base 16, as it is written here. -/
def hexB (c : UInt8) : Prop := (48 ≤ c.toNat ∧ c.toNat ≤ 57) ∨ (97 ≤ c.toNat ∧ c.toNat ≤ 102)
theorem hexB_val {c : UInt8} (h : hexB c) : valN c.toNat < 16 := by
  unfold hexB at h
  unfold valN
  split
  · omega
  · split
    · omega
    · omega
theorem low_or {c : Nat} (h1 : 97 ≤ c) (h2 : c ≤ 102) : wr .u8 (Int.ofNat ((Int.ofNat c % 2 ^ IntKind.u8.bits).toNat ||| ((32 : Int) % 2 ^ IntKind.u8.bits).toNat)) = Int.ofNat c := by
  have : ∀ c, c < 103 → 97 ≤ c → wr .u8 (Int.ofNat ((Int.ofNat c % 2 ^ IntKind.u8.bits).toNat ||| ((32 : Int) % 2 ^ IntKind.u8.bits).toNat)) = Int.ofNat c := by decide +kernel
  exact this c (by omega) h1
theorem hexC_ok : ∀ n, n < 16 → hexB (hexC n) ∧ valN (hexC n).toNat = n ∧ hexC n ≠ 95 := by
  have : ∀ n, n < 16 → ((48 ≤ (hexC n).toNat ∧ (hexC n).toNat ≤ 57) ∨ (97 ≤ (hexC n).toNat ∧ (hexC n).toNat ≤ 102)) ∧ valN (hexC n).toNat = n ∧ hexC n ≠ 95 := by decide +kernel
  exact this
theorem str_ne {l : List UInt8} (h : 0 < l.length) : eqBytes l [] = false := by
  rw [eqBytes_eq]
  exact decide_eq_false (fun e => by rw [e] at h; exact absurd h (by decide))
/-! Literals. -/
def RRune (r : Nat) (cs : List Value) : Prop := cs = [.int .i32 (Int.ofNat r)]
theorem RRune.flats : ∀ x cs, RRune x cs → flats cs = true := by
  intro x cs h
  rw [h]
  rfl
theorem flat_runes : ∀ {R : List Nat} {cs : List Value}, Flat 1 RRune R cs → cs = R.map fun r => .int .i32 (Int.ofNat r)
  | [], cs, h => List.eq_nil_of_length_eq_zero (by simpa using h.1)
  | r :: R, cs, h => by
    have h0 : cs.take 1 = [.int .i32 (Int.ofNat r)] := by
      have h1 := h.2 0 r rfl
      rw [Nat.zero_mul, List.drop_zero] at h1
      exact h1
    have ht : Flat 1 RRune R (cs.drop 1) := ⟨by rw [List.length_drop, h.1, List.length_cons]; omega, fun i x hx => by
      have := h.2 (i + 1) x (by simpa using hx)
      rw [List.drop_drop]
      rw [show 1 + i * 1 = (i + 1) * 1 by omega]
      exact this⟩
    rw [← List.take_append_drop 1 cs, h0, flat_runes ht]
    rfl
theorem runes_bytes : ∀ {R : List Nat}, (∀ r ∈ R, okR r) → runesOf (R.map fun r => .int .i32 (Int.ofNat r)) = some (encL R)
  | [], _ => rfl
  | r :: R, h => by
    show (runesOf (R.map fun r => .int .i32 (Int.ofNat r))).map ((Utf8.encode (Int.ofNat r)).data.toList ++ ·) = _
    rw [runes_bytes fun x hx => h x (List.mem_cons_of_mem _ hx), enc_N (h r (List.mem_cons_self ..))]
    rfl
def escd (r : Nat) : Prop := r = 34 ∨ r = 92 ∨ r < 32 ∨ r = 127
theorem esc_not {r : Nat} (h : ¬ escd r) : escN r = encN r := by
  unfold escd at h
  unfold escN
  rw [if_neg (by omega), if_neg (by omega), if_neg (by omega), if_neg (by omega), if_neg (by omega), if_neg (by omega)]
theorem esc_is {r : Nat} (h : escd r) : ∃ q, escN r = 92 :: q := by
  unfold escd at h
  unfold escN
  split
  · exact ⟨_, rfl⟩
  · split
    · exact ⟨_, rfl⟩
    · split
      · exact ⟨_, rfl⟩
      · split
        · exact ⟨_, rfl⟩
        · split
          · exact ⟨_, rfl⟩
          · split
            · exact ⟨_, rfl⟩
            · omega
def litP (a : Nat) (R : List Nat) (i : Nat) : Nat := a + 1 + (escL (R.take i)).length
theorem litP_step {a i r : Nat} {R : List Nat} (h : R[i]? = some r) : litP a R (i + 1) = litP a R i + (escN r).length := by
  unfold litP escL
  rw [take_succ' h, List.flatMap_append, List.length_append, List.flatMap_singleton]
  omega
theorem lit_drop {T : List UInt8} {a i : Nat} {R : List Nat} {rest : List UInt8} (h : T.drop a = 34 :: (escL R ++ 34 :: rest)) : T.drop (litP a R i) = escL (R.drop i) ++ 34 :: rest := by
  have h1 : escL R = escL (R.take i) ++ escL (R.drop i) := by
    unfold escL
    rw [← List.flatMap_append, List.take_append_drop]
  have e : litP a R i = a + (1 + (escL (R.take i)).length) := by unfold litP; omega
  rw [e, ← List.drop_drop, h, Nat.add_comm 1, List.drop_succ_cons, h1, List.append_assoc, drop_app]
theorem lit_case {R : List Nat} (hR : ∀ r ∈ R, okR r) {i : Nat} (hi : i ≤ R.length) (rest : List UInt8) :
    ∃ c q, okR c ∧ escL (R.drop i) ++ 34 :: rest = encN c ++ q ∧ ((c = 34 ∧ i = R.length) ∨ (c = 92 ∧ ∃ r, R[i]? = some r ∧ escd r ∧ escL (R.drop i) ++ 34 :: rest = escN r ++ (escL (R.drop (i + 1)) ++ 34 :: rest)) ∨ (R[i]? = some c ∧ ¬ escd c ∧ escN c = encN c)) := by
  by_cases h : i = R.length
  · refine ⟨34, rest, by decide, ?_, .inl ⟨rfl, h⟩⟩
    rw [List.drop_of_length_le (by omega)]
    rfl
  · obtain ⟨r, hr⟩ : ∃ r, R[i]? = some r := ⟨_, List.getElem?_eq_getElem (by omega)⟩
    have hd : R.drop i = r :: R.drop (i + 1) := by
      have hlt := (List.getElem?_eq_some_iff.1 hr).1
      rw [List.drop_eq_getElem_cons hlt, (List.getElem?_eq_some_iff.1 hr).2]
    have he : escL (R.drop i) ++ 34 :: rest = escN r ++ (escL (R.drop (i + 1)) ++ 34 :: rest) := by
      rw [hd]
      unfold escL
      rw [List.flatMap_cons, List.append_assoc]
    by_cases hs : escd r
    · obtain ⟨q, hq⟩ := esc_is hs
      exact ⟨92, q ++ (escL (R.drop (i + 1)) ++ 34 :: rest), by decide, by rw [he, hq]; rfl, .inr (.inl ⟨rfl, r, hr, hs, he⟩)⟩
    · exact ⟨r, _, hR r (List.mem_of_getElem? hr), by rw [he, esc_not hs], .inr (.inr ⟨hr, hs, esc_not hs⟩)⟩
theorem escL_le : ∀ R : List Nat, R.length ≤ (escL R).length
  | [] => Nat.le_refl _
  | r :: R => by
    have h := escL_le R
    have h1 : 0 < (escN r).length := by
      by_cases hs : escd r
      · obtain ⟨q, hq⟩ := esc_is hs
        rw [hq]
        exact Nat.succ_pos _
      · rw [esc_not hs]
        exact encN_pos r
    unfold escL at h ⊢
    rw [List.flatMap_cons, List.length_append, List.length_cons]
    omega
def RTk (x : Int × List UInt8 × Int × Int) (cs : List Value) : Prop := cs = [.int .i64 x.1, .string ⟨⟨x.2.1⟩⟩, .int .i64 x.2.2.1, .int .i64 x.2.2.2]
theorem RTk.flats : ∀ x cs, RTk x cs → flats cs = true := by
  intro x cs h
  rw [h]
  rfl
/-- A literal, whole. -/
def litT (R : List Nat) : List UInt8 := 34 :: (escL R ++ [34])
def atQ (R : List Nat) (b : Bool) : Nat := bif b then (litT R).length else 0
def tkQ (R : List Nat) (b : Bool) : List (Int × List UInt8 × Int × Int) := bif b then [(6, encL R, 0, Int.ofNat 0)] else []
theorem litT_len {R : List Nat} : (litT R).length = (escL R).length + 2 := by
  unfold litT
  rw [List.length_cons, List.length_append, List.length_singleton]
theorem litP_end {R : List Nat} : litP 0 R R.length + 1 = (litT R).length := by
  rw [litT_len]
  unfold litP
  rw [List.take_length]
  omega
theorem atQ_f {R : List Nat} {b : Bool} (h : ¬ (litT R).length ≤ atQ R b) : b = false := by
  cases b with
  | true => exact absurd (Nat.le_refl _) h
  | false => rfl
theorem atQ_t {R : List Nat} {b : Bool} (h : (litT R).length ≤ atQ R b) : b = true := by
  cases b with
  | true => rfl
  | false =>
    have h : (litT R).length ≤ 0 := h
    rw [litT_len] at h
    omega
theorem conv_run {P : Program} {s d : TypeId} {u : TypeDesc} {k : IntKind} {c : Nat} (hs : P.underlying s = some u) (hd : P.underlying d = some .string) (h : okR c) : convS P s d (.int k (Int.ofNat c)) = some (.string ⟨⟨encN c⟩⟩) := by
  unfold convS convA
  rw [hs, hd]
  simp only [enc_N h]
def hexL : List UInt8 := [48, 49, 50, 51, 52, 53, 54, 55, 56, 57, 97, 98, 99, 100, 101, 102]
theorem hex_at : ∀ n, n < 16 → hexL[n]? = some (hexC n) := by decide +kernel
theorem esc_q {c : Nat} (h : c = 34 ∨ c = 92) : [92] ++ encN c = escN c := by rcases h with rfl | rfl <;> rfl
theorem esc_c {c : Nat} (h : c = 10) : [92, 110] = escN c := by subst h; rfl
theorem esc_t {c : Nat} (h : c = 9) : [92, 116] = escN c := by subst h; rfl
theorem esc_r {c : Nat} (h : c = 13) : [92, 114] = escN c := by subst h; rfl
theorem esc_0 {c : Nat} (h : c = 0) : [92, 48] = escN c := by subst h; rfl
theorem esc_h {c : Nat} (h : c < 32 ∨ c = 127) (h1 : c ≠ 10) (h2 : c ≠ 9) (h3 : c ≠ 13) (h4 : c ≠ 0) : [92, 117, 48, 48, hexC (c / 16), hexC (c % 16)] = escN c := by
  unfold escN
  rw [if_neg (by omega), if_neg h1, if_neg h2, if_neg h3, if_neg h4, if_pos h]
theorem esc_o {c : Nat} (h : ¬ (c < 32 ∨ c = 127)) (h1 : c ≠ 34) (h2 : c ≠ 92) : encN c = escN c := by
  refine (esc_not fun h => ?_).symm
  unfold escd at h
  omega
/-! What is written. -/
def adB (b : Nat) : Bool → Value
  | true => .pointer (some ⟨b, 0, none⟩)
  | false => .pointer none
def BuX (b : Nat) (ad : Bool) (bg : Gro) (out : List UInt8) : Hp := (b, .cells [adB b ad, bg.V out.length] 37 false .plain none) :: (bg.H 5 (byC out))
theorem bu_perm {b : Nat} {bg : Gro} {out s : List UInt8} {r : Hp} : (bg.H 5 (byC out ++ byC s) ++ ((b, AObj.cells [adB b true, bg.V (out.length + s.length)] 37 false .plain none) :: r)).Perm (BuX b true bg (out ++ s) ++ r) := by
  unfold BuX
  rw [List.length_append, byC_append]
  refine List.perm_middle.trans (.cons _ ?_)
  exact .refl _
theorem encN_le (c : Nat) : (encN c).length ≤ 4 := by
  unfold encN
  split
  · simp
  · split
    · simp
    · split <;> simp
theorem shr4 {c : Nat} (h : c < 128) : (Int.ofNat c).fdiv (2 ^ 4) = Int.ofNat (c / 16) := by
  have : ∀ c, c < 128 → (Int.ofNat c).fdiv (2 ^ 4) = Int.ofNat (c / 16) := by decide +kernel
  exact this c h
theorem and15 {n : Nat} (h : n < 128) : wr .i32 (Int.ofNat ((Int.ofNat n % 2 ^ IntKind.i32.bits).toNat &&& ((15 : Int) % 2 ^ IntKind.i32.bits).toNat)) = Int.ofNat (n % 16) := by
  have : ∀ n, n < 128 → wr .i32 (Int.ofNat ((Int.ofNat n % 2 ^ IntKind.i32.bits).toNat &&& ((15 : Int) % 2 ^ IntKind.i32.bits).toNat)) = Int.ofNat (n % 16) := by decide +kernel
  exact this n h
def RBy (x : UInt8) (cs : List Value) : Prop := cs = [.int .u8 (Int.ofNat x.toNat)]
theorem RBy.flats : ∀ x cs, RBy x cs → flats cs = true := by
  intro x cs h
  rw [h]
  rfl
theorem flat_by : ∀ {out : List UInt8}, Flat 1 RBy out (byC out)
  | [] => Flat.nil
  | x :: out => Flat.append (l := [x]) (vs := [.int .u8 (Int.ofNat x.toNat)]) (Flat.one rfl rfl) flat_by
theorem flat_byE : ∀ {out : List UInt8} {cs : List Value}, Flat 1 RBy out cs → cs = byC out
  | [], cs, h => List.eq_nil_of_length_eq_zero (by simpa using h.1)
  | r :: R, cs, h => by
    have h0 : cs.take 1 = [.int .u8 (Int.ofNat r.toNat)] := by
      have h1 := h.2 0 r rfl
      rw [Nat.zero_mul, List.drop_zero] at h1
      exact h1
    have ht : Flat 1 RBy R (cs.drop 1) := ⟨by rw [List.length_drop, h.1, List.length_cons]; omega, fun i x hx => by
      have := h.2 (i + 1) x (by simpa using hx)
      rw [List.drop_drop]
      rw [show 1 + i * 1 = (i + 1) * 1 by omega]
      exact this⟩
    rw [← List.take_append_drop 1 cs, h0, flat_byE ht]
    rfl
theorem enc_at {R : List Nat} {i r : Nat} (h : R[i]? = some r) : encL R = encL (R.take i) ++ (encN r ++ encL (R.drop (i + 1))) := by
  have hlt := (List.getElem?_eq_some_iff.1 h).1
  have hd : R.drop i = r :: R.drop (i + 1) := by rw [List.drop_eq_getElem_cons hlt, (List.getElem?_eq_some_iff.1 h).2]
  unfold encL
  rw [← List.flatMap_cons, ← hd, ← List.flatMap_append, List.take_append_drop]
theorem dec_run {R : List Nat} {i r : Nat} (hR : ∀ r ∈ R, okR r) (h : R[i]? = some r) : Utf8.decode ⟨⟨encL R⟩⟩ (encL (R.take i)).length = (r, (encN r).length) := by
  rw [enc_at h]
  exact dec_enc (hR r (List.mem_of_getElem? h)) _ _
theorem enc_lt {R : List Nat} {i r : Nat} (h : R[i]? = some r) : (encL (R.take i)).length < (⟨⟨encL R⟩⟩ : ByteArray).size := by
  show _ < (encL R).length
  have h1 := encN_pos r
  rw [enc_at h, List.length_append, List.length_append]
  omega
theorem enc_step {R : List Nat} {i r : Nat} (h : R[i]? = some r) : (encL (R.take i)).length + (encN r).length = (encL (R.take (i + 1))).length := by
  unfold encL
  rw [take_succ' h, List.flatMap_append, List.length_append, List.flatMap_singleton]
theorem esc_step {R : List Nat} {i r : Nat} (h : R[i]? = some r) : escL (R.take i) ++ escN r = escL (R.take (i + 1)) := by
  unfold escL
  rw [take_succ' h, List.flatMap_append, List.flatMap_singleton]
theorem enc_end {R : List Nat} {i : Nat} (h : R.length ≤ i) : ¬ (encL (R.take i)).length < (⟨⟨encL R⟩⟩ : ByteArray).size := by
  rw [List.take_of_length_le h]
  exact Nat.lt_irrefl _
theorem escN_le6 (r : Nat) : (escN r).length ≤ 6 * (encN r).length := by
  have h := encN_pos r
  by_cases hs : escd r
  · have : (escN r).length ≤ 6 := by
      unfold escd at hs
      unfold escN
      split
      · simp
      · split
        · simp
        · split
          · simp
          · split
            · simp
            · split
              · simp
              · split
                · simp
                · omega
    omega
  · rw [esc_not hs]
    omega
theorem escL_le6 : ∀ R : List Nat, (escL R).length ≤ 6 * (encL R).length
  | [] => Nat.le_refl _
  | r :: R => by
    have h := escL_le6 R
    have h1 := escN_le6 r
    unfold escL encL at h ⊢
    rw [List.flatMap_cons, List.flatMap_cons, List.length_append, List.length_append]
    omega
theorem escL_take {R : List Nat} {i : Nat} : (escL (R.take i)).length ≤ (escL R).length := by
  have h1 : escL R = escL (R.take i) ++ escL (R.drop i) := by
    unfold escL
    rw [← List.flatMap_append, List.take_append_drop]
  rw [h1, List.length_append]
  exact Nat.le_add_right _ _
def hexD (c : Nat) : Nat → List UInt8
  | 0 => []
  | i + 1 => hexC (c / 16 ^ i % 16) :: hexD c i
theorem hexD_len (c : Nat) : ∀ i, (hexD c i).length = i
  | 0 => rfl
  | i + 1 => by rw [hexD, List.length_cons, hexD_len c i]
theorem hexD_four {c : Nat} (h : c < 128) : hexD c 4 = [48, 48, hexC (c / 16), hexC (c % 16)] := by
  have : ∀ c, c < 128 → hexD c 4 = [48, 48, hexC (c / 16), hexC (c % 16)] := by decide +kernel
  exact this c h
theorem hex_mid {n : Nat} (h : n < 16) : (hexL.take (n + 1)).drop n = [hexC n] := by
  have : ∀ n, n < 16 → (hexL.take (n + 1)).drop n = [hexC n] := by decide +kernel
  exact this n h
theorem div_pow {c i : Nat} (h : c < 128) : wr .i32 ((Int.ofNat (c / 16 ^ i)).tdiv (Int.ofNat 16)) = Int.ofNat (c / 16 ^ (i + 1)) := by
  rw [show (Int.ofNat (c / 16 ^ i)).tdiv (Int.ofNat 16) = Int.ofNat (c / 16 ^ i / 16) from rfl, Nat.div_div_eq_div_mul, ← Nat.pow_succ]
  have := Nat.div_le_self c (16 ^ i.succ)
  exact wr32 (by omega)
theorem esc_b {c : Nat} (h : c = 92) : [92, 92] = escN c := by subst h; rfl
theorem two_of {α : Type} {l a b : List α} (hl : l.length = 8) (h0 : (l.drop 0).take 4 = a) (h1 : (l.drop 4).take 4 = b) : l = a ++ b := by
  rw [List.drop_zero] at h0
  have h3 : (l.drop 4).take 4 = l.drop 4 := List.take_of_length_le (by rw [List.length_drop, hl]; decide)
  rw [← h0, ← h1, h3, List.take_append_drop]

end Go.Proofs.YtdgbgmpnjggikaaGreatDoor
