/-
  Plain laws of words. Conditions: none.
-/
import Derived.Test.YtpokggpohmojlaaGreatDoorEng6
import Derived.Lib.IndexMore
namespace Go.Proofs.YtpokggpohmojlaaGreatDoor
open Go Go.Ab
set_option linter.unusedVariables false
set_option linter.unusedSimpArgs false
set_option linter.unusedSectionVars false
variable [Vals]
theorem _root_.Go.Ab.LaidAt.krS {l : List (Nat × Bool × List Value)} {S : List Nat} {m0 m : AW} {h : Hp} (x : LaidAt l m0) (hK : ∀ p ∈ l, p.1 ∉ S) (k : KR S m0 m h) : LaidAt l m :=
  ⟨(hasL_congr fun p hp => k.keep p.1 (x.2 p hp) (hK p hp)).trans x.1, fun p hp => Nat.lt_of_lt_of_le (x.2 p hp) k.next⟩
/-! Letters, digits, words. -/
def letB (c : Nat) : Bool := decide (97 ≤ c ∧ c ≤ 122 ∨ 65 ≤ c ∧ c ≤ 90 ∨ c = 95)
def digB (c : Nat) : Bool := decide (48 ≤ c ∧ c ≤ 57)
def wrdB (c : Nat) : Bool := letB c || digB c
def wordC (c : UInt8) : Bool := wrdB c.toNat
theorem take_len {α : Type} {p : α → Bool} : ∀ {l : List α} {i : Nat}, i ≤ l.length → (∀ (j : Nat) x, j < i → l[j]? = some x → p x = true) → (i = l.length ∨ ∃ x, l[i]? = some x ∧ p x = false) → (l.takeWhile p).length = i
  | [], i, h, _, _ => by simp at h; simp [h]
  | a :: l, 0, _, _, h2 => by
    rcases h2 with h2 | ⟨x, h3, h4⟩
    · simp at h2
    · simp at h3
      subst h3
      simp [List.takeWhile_cons, h4]
  | a :: l, i + 1, h, h1, h2 => by
    have ha := h1 0 a (Nat.succ_pos i) rfl
    rw [List.takeWhile_cons, if_pos ha, List.length_cons, take_len (i := i) (by simpa using h) (fun j x hj hx => h1 (j + 1) x (Nat.succ_lt_succ hj) (by simpa using hx)) (by simpa using h2)]
theorem upto_succ {α : Type} {l : List α} {P : α → Prop} {i : Nat} {y : α} (h : ∀ (j : Nat) x, j < i → l[j]? = some x → P x) (hy : l[i]? = some y) (hP : P y) : ∀ (j : Nat) x, j < i + 1 → l[j]? = some x → P x := by
  intro j x hj hx
  by_cases e : j = i
  · subst e
    rw [hy] at hx
    cases hx
    exact hP
  · exact h j x (by omega) hx
theorem wr_succ {i : Nat} (h : i + 1 ≤ 9223372036854775807) : wr .i64 (Int.ofNat i + 1) = Int.ofNat (i + 1) := by
  show (bif Nat.ble (i + 1) 9223372036854775807 then Int.ofNat (i + 1) else _) = _
  rw [nble, decide_eq_true h]
  rfl
theorem ba_app (a b : ByteArray) : (a ++ b).data.toList = a.data.toList ++ b.data.toList := by simp
theorem binS_cat {P : Program} {x y : Operand} {ty : TypeId} {a b : ByteArray} (h : (a ++ b).size ≤ 4294967296) : binS P .add ty x y (.string a) (.string b) = some (.string (a ++ b)) := by
  have h : binA P .add ty x y (.string a) (.string b) = some (.string (a ++ b)) := by
    show (bif Nat.ble (a.size + b.size) 9223372036854775807 then some (Value.string (a ++ b)) else none) = _
    rw [ByteArray.size_append] at h
    rw [nble, decide_eq_true (by omega)]
    rfl
  unfold binS
  rw [h]
/-! Strings as lists of bytes. -/
theorem ba_eq {a b : ByteArray} (h : a.data.toList = b.data.toList) : a = b := by
  cases a with
  | mk a => cases b with
    | mk b => rw [show a = b from Array.toList_inj.1 h]
theorem ba_cat (a b : List UInt8) : (⟨⟨a⟩⟩ : ByteArray) ++ ⟨⟨b⟩⟩ = ⟨⟨a ++ b⟩⟩ := ba_eq (ba_app _ _)
theorem binS_catL {P : Program} {x y : Operand} {ty : TypeId} {a b : List UInt8} (h : a.length + b.length ≤ 4294967296) : binS P .add ty x y (.string ⟨⟨a⟩⟩) (.string ⟨⟨b⟩⟩) = some (.string ⟨⟨a ++ b⟩⟩) := by
  rw [← ba_cat]
  refine binS_cat ?_
  rw [ByteArray.size_append]
  exact h
theorem ext_drop {l : List UInt8} {a : Nat} : (⟨⟨l⟩⟩ : ByteArray).extract a l.length = ⟨⟨l.drop a⟩⟩ := by
  refine ba_eq ?_
  rw [ByteArray.data_extract, Array.toList_extract]
  show (l.drop a).take (l.length - a) = l.drop a
  rw [List.take_of_length_le (by rw [List.length_drop]; exact Nat.le_refl _)]
theorem ext_take {l : List UInt8} {b : Nat} : (⟨⟨l⟩⟩ : ByteArray).extract 0 b = ⟨⟨l.take b⟩⟩ := by
  refine ba_eq ?_
  rw [ByteArray.data_extract, Array.toList_extract]
  show (l.drop 0).take (b - 0) = l.take b
  rw [List.drop_zero, Nat.sub_zero]
section
variable {P : Program} {e : Env} {ty : TypeId} {x y : Operand} {l : List UInt8} {a : Nat} {k : IntKind}
theorem bound_at {d n : Nat} (ha : a ≤ n) : boundA (some (.int k (Int.ofNat a))) d n = some a := by
  unfold boundA
  simp only [asInt?]
  rw [nble, decide_eq_true ha]
  rfl
theorem slice_from (hu : P.underlying ty = some .string) (ha : a ≤ l.length) : sliceA P ty (.string ⟨⟨l⟩⟩) (some (.int k (Int.ofNat a))) none none = some (.string ⟨⟨l.drop a⟩⟩) := by
  unfold sliceA
  simp only [hu]
  show ((some l.length).bind fun h => (boundA (some (.int k (Int.ofNat a))) 0 h).bind fun l_1 => some (Value.string ((⟨⟨l⟩⟩ : ByteArray).extract l_1 h))) = _
  rw [Option.bind_some, bound_at ha, Option.bind_some, ext_drop]
theorem slice_to (hu : P.underlying ty = some .string) (ha : a ≤ l.length) : sliceA P ty (.string ⟨⟨l⟩⟩) none (some (.int k (Int.ofNat a))) none = some (.string ⟨⟨l.take a⟩⟩) := by
  unfold sliceA
  simp only [hu]
  show ((boundA (some (.int k (Int.ofNat a))) l.length l.length).bind fun h => (some 0).bind fun l_1 => some (Value.string ((⟨⟨l⟩⟩ : ByteArray).extract l_1 h))) = _
  rw [bound_at ha, Option.bind_some, Option.bind_some, ext_take]
theorem strFrom_E (hx : evE P e x = some (.string ⟨⟨l⟩⟩)) (hy : evE P e y = some (.int k (Int.ofNat a))) (hu : P.underlying ty = some .string) (ha : a ≤ l.length) : opE P e (.slice ty x (some y) none none) = some (.string ⟨⟨l.drop a⟩⟩) := by
  simp only [opE, evoE, hx, hy]
  exact slice_from hu ha
theorem strTo_E (hx : evE P e x = some (.string ⟨⟨l⟩⟩)) (hy : evE P e y = some (.int k (Int.ofNat a))) (hu : P.underlying ty = some .string) (ha : a ≤ l.length) : opE P e (.slice ty x none (some y) none) = some (.string ⟨⟨l.take a⟩⟩) := by
  simp only [opE, evoE, hx, hy]
  exact slice_to hu ha
end
theorem enc_chr {c : Nat} (h : c < 128) : Utf8.encode (Int.ofNat c) = ⟨⟨[UInt8.ofNat c]⟩⟩ := by
  unfold Utf8.encode
  have hv : Utf8.valid (Int.ofNat c) = true := by
    unfold Utf8.valid
    simp only [Int.ofNat_eq_natCast, Bool.or_eq_true, Bool.and_eq_true, decide_eq_true_eq]
    left
    omega
  rw [hv]
  simp only [if_true]
  rw [if_pos (show (Int.ofNat c).toNat < 128 from h)]
  rfl
theorem conv_chr {P : Program} {s d : TypeId} {u : TypeDesc} {k : IntKind} {c : Nat} (hs : P.underlying s = some u) (hd : P.underlying d = some .string) (h : c < 128) : convS P s d (.int k (Int.ofNat c)) = some (.string ⟨⟨[UInt8.ofNat c]⟩⟩) := by
  unfold convS convA
  rw [hs, hd]
  simp only [enc_chr h]
/-! Values of digits. -/
def valN (c : Nat) : Nat := if 48 ≤ c ∧ c ≤ 57 then c - 48 else if 97 ≤ c ∧ c ≤ 122 then c - 87 else if 65 ≤ c ∧ c ≤ 90 then c - 55 else 36
def valL (b n : Nat) (l : List UInt8) : Nat := l.foldl (fun n c => n * b + valN c.toNat) n
theorem valN_le (c : Nat) : valN c ≤ 36 := by unfold valN; split <;> (try split) <;> (try split) <;> omega
theorem valL_snoc (b n : Nat) (l : List UInt8) (c : UInt8) : valL b n (l ++ [c]) = valL b n l * b + valN c.toNat := by
  unfold valL
  rw [List.foldl_append]
  rfl
theorem valL_ge {b : Nat} (hb : 1 ≤ b) : ∀ (l : List UInt8) (n : Nat), n ≤ valL b n l
  | [], n => Nat.le_refl _
  | c :: l, n => Nat.le_trans (Nat.le_trans (Nat.le_mul_of_pos_right n hb) (Nat.le_add_right _ _)) (valL_ge hb l (n * b + valN c.toNat))
theorem valL_take {b i : Nat} {l : List UInt8} (hb : 1 ≤ b) : valL b 0 (l.take i) ≤ valL b 0 l := by
  have : valL b 0 l = valL b (valL b 0 (l.take i)) (l.drop i) := by
    unfold valL
    rw [← List.foldl_append, List.take_append_drop]
  rw [this]
  exact valL_ge hb _ _
def digN (l : List UInt8) : Nat := (l.takeWhile fun c => digB c.toNat).length
theorem at_len {l : List UInt8} {i : Nat} (h : i < l.length) : ∃ x, l[i]? = some x := ⟨_, List.getElem?_eq_getElem h⟩
theorem take_succ' {α : Type} {l : List α} {i : Nat} {x : α} (h : l[i]? = some x) : l.take (i + 1) = l.take i ++ [x] := by
  rw [List.take_add_one, h]
  rfl
theorem digB_iff {c : Nat} : digB c = true ↔ 48 ≤ c ∧ c ≤ 57 := by unfold digB; exact decide_eq_true_iff
theorem digB_not {c : Nat} : digB c = false ↔ ¬ (48 ≤ c ∧ c ≤ 57) := by unfold digB; exact decide_eq_false_iff_not
theorem wr8 {n : Nat} (h : n < 256) : wr .u8 (Int.ofNat n) = Int.ofNat n := by rw [wr_in] <;> simp [IntKind.min, IntKind.max, IntKind.signed, IntKind.bits] <;> omega
theorem wr64 {n : Nat} (h : n < 18446744073709551616) : wr .u64 (Int.ofNat n) = Int.ofNat n := by rw [wr_in] <;> simp [IntKind.min, IntKind.max, IntKind.signed, IntKind.bits] <;> omega
theorem wri {n : Nat} (h : n < 9223372036854775808) : wr .i64 (Int.ofNat n) = Int.ofNat n := by rw [wr_in] <;> simp [IntKind.min, IntKind.max, IntKind.signed, IntKind.bits] <;> omega
theorem wr32 {n : Nat} (h : n < 2147483648) : wr .i32 (Int.ofNat n) = Int.ofNat n := by rw [wr_in] <;> simp [IntKind.min, IntKind.max, IntKind.signed, IntKind.bits] <;> omega
theorem subN {a b : Nat} (h : b ≤ a) : Int.ofNat a - Int.ofNat b = Int.ofNat (a - b) := by simp only [Int.ofNat_eq_natCast]; omega
theorem val_d {c : Nat} (h : 48 ≤ c ∧ c ≤ 57) : wr .u64 (wr .u8 (Int.ofNat c - 48)) = Int.ofNat (valN c) := by
  unfold valN
  rw [if_pos h, show (48 : Int) = Int.ofNat 48 from rfl, subN h.1, wr8 (by omega), wr64 (by omega)]
theorem val_l {c : Nat} (h : 97 ≤ c ∧ c ≤ 122) : wr .u64 (wr .u64 (wr .u8 (Int.ofNat c - 97)) + 10) = Int.ofNat (valN c) := by
  unfold valN
  rw [if_neg (by omega), if_pos h, show (97 : Int) = Int.ofNat 97 from rfl, subN h.1, wr8 (by omega), wr64 (by omega), show Int.ofNat (c - 97) + 10 = Int.ofNat (c - 87) by simp only [Int.ofNat_eq_natCast]; omega, wr64 (by omega)]
theorem val_u {c : Nat} (h : 65 ≤ c ∧ c ≤ 90) : wr .u64 (wr .u64 (wr .u8 (Int.ofNat c - 65)) + 10) = Int.ofNat (valN c) := by
  unfold valN
  rw [if_neg (by omega), if_neg (by omega), if_pos h, show (65 : Int) = Int.ofNat 65 from rfl, subN h.1, wr8 (by omega), wr64 (by omega), show Int.ofNat (c - 65) + 10 = Int.ofNat (c - 55) by simp only [Int.ofNat_eq_natCast]; omega, wr64 (by omega)]
theorem val_n {c : Nat} (h1 : ¬ (48 ≤ c ∧ c ≤ 57)) (h2 : ¬ (97 ≤ c ∧ c ≤ 122)) (h3 : ¬ (65 ≤ c ∧ c ≤ 90)) : (36 : Int) = Int.ofNat (valN c) := by
  unfold valN
  rw [if_neg h1, if_neg h2, if_neg h3]
  rfl
theorem map_cell {α : Type} {l : List α} {f : α → Value} {i : Nat} {x : α} (h : l[i]? = some x) : (l.map f)[0 + i * 1]? = some (f x) := by
  rw [Nat.zero_add, Nat.mul_one, List.getElem?_map, h]
  rfl
def wrdN (l : List UInt8) : Nat := (l.takeWhile wordC).length
theorem take_app {α : Type} {p : α → Bool} : ∀ {D : List α} {c : α} {A : List α}, (∀ x ∈ D, p x = true) → p c = false → ((D ++ c :: A).takeWhile p).length = D.length
  | [], c, A, _, hc => by simp [List.takeWhile_cons, hc]
  | d :: D, c, A, hD, hc => by
    rw [List.cons_append, List.takeWhile_cons, if_pos (hD d (List.mem_cons_self ..)), List.length_cons, List.length_cons, take_app (fun x hx => hD x (List.mem_cons_of_mem _ hx)) hc]
theorem take_full {α : Type} {p : α → Bool} : ∀ {D : List α}, (∀ x ∈ D, p x = true) → (D.takeWhile p).length = D.length
  | [], _ => rfl
  | d :: D, hD => by rw [List.takeWhile_cons, if_pos (hD d (List.mem_cons_self ..)), List.length_cons, List.length_cons, take_full fun x hx => hD x (List.mem_cons_of_mem _ hx)]
abbrev AllD (D : List UInt8) : Prop := ∀ c ∈ D, digB c.toNat = true
theorem digN_app {D A : List UInt8} (hD : AllD D) : digN (D ++ 114 :: A) = D.length := take_app hD rfl
theorem digN_full {D : List UInt8} (hD : AllD D) : digN D = D.length := take_full hD
theorem drop_app {α : Type} (D A : List α) : (D ++ A).drop D.length = A := by rw [List.drop_append_of_le_length (Nat.le_refl _), List.drop_length, List.nil_append]
theorem take_app' {α : Type} (D A : List α) : (D ++ A).take D.length = D := by rw [List.take_append_of_le_length (Nat.le_refl _), List.take_length]
theorem val_lt {b n : Nat} {c : Nat} {M : Nat} (h : n * b + valN c ≤ M) (hb : 0 < b) : n ≤ (M - valN c) / b := by
  rw [Nat.le_div_iff_mul_le hb]
  omega
theorem quoN {a b : Nat} (hb : 0 < b) (ha : a < 18446744073709551616) : wr .u64 ((Int.ofNat a).tdiv (Int.ofNat b)) = Int.ofNat (a / b) := by
  rw [show (Int.ofNat a).tdiv (Int.ofNat b) = Int.ofNat (a / b) from rfl, wr64 (Nat.lt_of_le_of_lt (Nat.div_le_self a b) ha)]
theorem mulN {a b : Nat} (h : a * b < 18446744073709551616) : wr .u64 (Int.ofNat a * Int.ofNat b) = Int.ofNat (a * b) := by
  rw [show Int.ofNat a * Int.ofNat b = Int.ofNat (a * b) from rfl, wr64 h]
theorem addN {a b : Nat} (h : a + b < 18446744073709551616) : wr .u64 (Int.ofNat a + Int.ofNat b) = Int.ofNat (a + b) := by
  rw [show Int.ofNat a + Int.ofNat b = Int.ofNat (a + b) from rfl, wr64 h]
theorem subU {a b : Nat} (h : b ≤ a) (ha : a < 18446744073709551616) : wr .u64 (Int.ofNat a - Int.ofNat b) = Int.ofNat (a - b) := by
  rw [subN h, wr64 (by omega)]
theorem addI {a b : Nat} (h : a + b < 9223372036854775808) : wr .i64 (Int.ofNat a + Int.ofNat b) = Int.ofNat (a + b) := by
  rw [show Int.ofNat a + Int.ofNat b = Int.ofNat (a + b) from rfl, wri h]
theorem subI {a b : Nat} (h : b ≤ a) (ha : a < 9223372036854775808) : wr .i64 (Int.ofNat a - Int.ofNat b) = Int.ofNat (a - b) := by
  rw [subN h, wri (by omega)]
/-- No underscore. -/
theorem no_under : ∀ {l : List UInt8}, (∀ c ∈ l, c ≠ 95) → Lib.contains l [95] = false
  | [], _ => rfl
  | c :: l, h => by
    have ih := no_under (l := l) fun x hx => h x (List.mem_cons_of_mem _ hx)
    have hc := h c (List.mem_cons_self ..)
    unfold Lib.contains at ih ⊢
    have ih := of_decide_eq_false ih
    have hp : List.isPrefixOf [95] (c :: l) = false := by
      simp only [List.isPrefixOf_cons_cons, Bool.and_eq_false_imp, beq_iff_eq]
      intro e
      exact absurd e.symm hc
    unfold Lib.index
    rw [hp]
    simp only [Bool.false_eq_true, if_false]
    have := Lib.index_ge l [95]
    rw [if_pos (by simp only [beq_iff_eq]; omega)]
    rfl
/-- What may follow a number here. -/
abbrev EndB (rest : List UInt8) : Prop := rest = [] ∨ ∃ r, rest = 32 :: r
theorem num_at {w rest : List UInt8} (hw : ∀ c ∈ w, wordC c = true) (hr : EndB rest) {i : Nat} {x : UInt8} (hi : i ≤ w.length) (hx : (w ++ rest)[i]? = some x) : (i < w.length ∧ wordC x = true) ∨ (i = w.length ∧ x = 32) := by
  rcases Nat.lt_or_ge i w.length with h | h
  · rw [List.getElem?_append_left h] at hx
    exact .inl ⟨h, hw x (List.mem_of_getElem? hx)⟩
  · have e : i = w.length := by omega
    subst e
    rw [List.getElem?_append_right (Nat.le_refl _), Nat.sub_self] at hx
    rcases hr with rfl | ⟨r, rfl⟩
    · simp at hx
    · simp at hx
      exact .inr ⟨rfl, hx.symm⟩
theorem word_ne {x : UInt8} (h : wordC x = true) : x.toNat ≠ 46 ∧ x.toNat ≠ 43 ∧ x.toNat ≠ 45 ∧ x.toNat ≠ 32 := by
  unfold wordC wrdB letB digB at h
  simp only [Bool.or_eq_true, decide_eq_true_eq] at h
  omega
theorem num_next {w rest : List UInt8} (hw : ∀ c ∈ w, wordC c = true) (hr : EndB rest) {i : Nat} {y : UInt8} (hi : i < w.length) (hy : (w ++ rest)[i + 1]? = some y) : y.toNat ≠ 43 ∧ y.toNat ≠ 45 := by
  rcases num_at hw hr (by omega) hy with ⟨_, h⟩ | ⟨_, rfl⟩
  · exact ⟨(word_ne h).2.1, (word_ne h).2.2.1⟩
  · decide
theorem word_split {x : UInt8} : wordC x = (letB x.toNat || digB x.toNat) := rfl
/-- A number's text and its value. -/
def NumW (w : List UInt8) (n : Nat) : Prop := (AllD w ∧ 0 < w.length ∧ valL 10 0 w = n ∧ n ≤ 9223372036854775807) ∨ ∃ D A b, w = D ++ 114 :: A ∧ AllD D ∧ 0 < D.length ∧ valL 10 0 D = b ∧ 2 ≤ b ∧ b ≤ 36 ∧ (∀ c ∈ A, wordC c = true) ∧ (∀ c ∈ A, c ≠ 95) ∧ 0 < A.length ∧ (∀ c ∈ A, valN c.toNat < b) ∧ valL b 0 A = n ∧ n ≤ 9223372036854775807
theorem digB_word {c : UInt8} (h : digB c.toNat = true) : wordC c = true := by
  rw [word_split, h, Bool.or_true]
theorem dig_no_let {c : Nat} (h : digB c = true) : letB c = false := by
  have h1 := digB_iff.1 h
  unfold letB
  exact decide_eq_false (by omega)
def RTok (t : Int × Int × Int) (cs : List Value) : Prop := cs = [.int .i64 t.1, .string ⟨⟨[]⟩⟩, .int .i64 t.2.1, .int .i64 t.2.2]
theorem RTok.flats : ∀ x cs, RTok x cs → flats cs = true := by
  intro x cs h
  rw [h]
  rfl
theorem NumW.head {w : List UInt8} {n : Nat} (h : NumW w n) : ∃ c r, w = c :: r ∧ digB c.toNat = true := by
  rcases h with ⟨hD, h0, _⟩ | ⟨D, A, b, rfl, hD, h0, _⟩
  · cases w with
    | nil => simp at h0
    | cons c r => exact ⟨c, r, rfl, hD c (List.mem_cons_self ..)⟩
  · cases D with
    | nil => simp at h0
    | cons c r => exact ⟨c, r ++ 114 :: A, rfl, hD c (List.mem_cons_self ..)⟩
theorem get_laid {h : Tr AObj} : ∀ {l : List (Nat × Bool × List Value)} {p : Nat × Bool × List Value}, hasL h l = true → p ∈ l → ∃ o, h.get p.1 = some o
  | (b, g, vs) :: l, p, hl, hp => by
    unfold hasL at hl
    simp only [Bool.and_eq_true] at hl
    rcases List.mem_cons.1 hp with rfl | hp
    · cases e : h.get b with
      | none => rw [e] at hl; simp at hl
      | some o => exact ⟨o, rfl⟩
    · exact get_laid hl.2.2 hp
theorem _root_.Go.Ab.LaidAt.off {l : List (Nat × Bool × List Value)} {S K : List Nat} {m0 m : AW} (x : LaidAt l m0) (hS : ∀ p ∈ l, p.1 ∉ S) (ho : ∀ b o, Off S m0 b o → Off K m b o) : LaidAt l m ∧ ∀ p ∈ l, p.1 ∉ K := by
  have key : ∀ p ∈ l, p.1 < m.next ∧ p.1 ∉ K ∧ m.heap.get p.1 = m0.heap.get p.1 := fun p hp => by
    obtain ⟨o, h⟩ := get_laid x.1 hp
    obtain ⟨a, b, c⟩ := ho p.1 o ⟨x.2 p hp, hS p hp, h⟩
    exact ⟨a, b, c.trans h.symm⟩
  exact ⟨⟨(hasL_congr fun p hp => (key p hp).2.2).trans x.1, fun p hp => (key p hp).1⟩, fun p hp => (key p hp).2.1⟩
/-- How far the tokens of two numbers are. -/
def TokSt (w1 w2 : List UInt8) (n1 n2 a : Nat) (L : List (Int × Int × Int)) : Prop :=
  (a = 0 ∧ L = []) ∨ (a = w1.length ∧ L = [(4, Int.ofNat n1, Int.ofNat 0)]) ∨ (a = w1.length + 1 ∧ L = [(4, Int.ofNat n1, Int.ofNat 0)]) ∨ (a = w1.length + (w2.length + 1) ∧ L = [(4, Int.ofNat n1, Int.ofNat 0), (4, Int.ofNat n2, Int.ofNat (w1.length + 1))])
theorem dig_32 {x : UInt8} (h : digB x.toNat = true) : x ≠ 32 := fun e => by
  rw [e] at h
  exact absurd h (by decide)
theorem tok_step {w1 w2 : List UInt8} {n1 n2 a : Nat} {L : List (Int × Int × Int)} {x : UInt8} (h1 : NumW w1 n1) (h2 : NumW w2 n2) (hl1 : w1.length ≤ 100) (hl2 : w2.length ≤ 100) (hs : TokSt w1 w2 n1 n2 a L) (hx : (w1 ++ 32 :: w2)[a]? = some x) :
    (x = 32 ∧ TokSt w1 w2 n1 n2 (a + 1) L) ∨ (digB x.toNat = true ∧ ∃ w rest n, (w1 ++ 32 :: w2).drop a = w ++ rest ∧ EndB rest ∧ NumW w n ∧ w.length ≤ 100 ∧ 0 < w.length ∧ TokSt w1 w2 n1 n2 (a + w.length) (L ++ [(4, Int.ofNat n, Int.ofNat a)])) := by
  obtain ⟨c1, r1, e1, d1⟩ := h1.head
  obtain ⟨c2, r2, e2, d2⟩ := h2.head
  rcases hs with ⟨rfl, rfl⟩ | ⟨rfl, rfl⟩ | ⟨rfl, rfl⟩ | ⟨rfl, rfl⟩
  · refine .inr ⟨?_, w1, 32 :: w2, n1, rfl, .inr ⟨_, rfl⟩, h1, hl1, by rw [e1]; exact Nat.succ_pos _, .inr (.inl ⟨Nat.zero_add _, rfl⟩)⟩
    rw [e1] at hx
    cases hx
    exact d1
  · refine .inl ⟨?_, .inr (.inr (.inl ⟨rfl, rfl⟩))⟩
    rw [List.getElem?_append_right (Nat.le_refl _), Nat.sub_self] at hx
    cases hx
    rfl
  · have hd : (w1 ++ 32 :: w2).drop (w1.length + 1) = w2 := by
      rw [List.drop_append, Nat.add_sub_cancel_left, List.drop_of_length_le (Nat.le_succ _)]
      rfl
    refine .inr ⟨?_, w2, [], n2, by rw [hd, List.append_nil], .inl rfl, h2, hl2, by rw [e2]; exact Nat.succ_pos _, .inr (.inr (.inr ⟨by omega, rfl⟩))⟩
    have h0 : ((w1 ++ 32 :: w2).drop (w1.length + 1))[0]? = some x := by rw [List.getElem?_drop]; exact hx
    rw [hd, e2] at h0
    cases h0
    exact d2
  · rw [List.getElem?_eq_none (by rw [List.length_append, List.length_cons]; exact Nat.le_refl _)] at hx
    cases hx
theorem tok_done {w1 w2 : List UInt8} {n1 n2 a : Nat} {L : List (Int × Int × Int)} (h2 : NumW w2 n2) (hs : TokSt w1 w2 n1 n2 a L) (ha : w1.length + (w2.length + 1) ≤ a) : L = [(4, Int.ofNat n1, Int.ofNat 0), (4, Int.ofNat n2, Int.ofNat (w1.length + 1))] := by
  obtain ⟨c2, r2, e2, d2⟩ := h2.head
  have h0 : 0 < w2.length := by rw [e2]; exact Nat.succ_pos _
  rcases hs with ⟨rfl, rfl⟩ | ⟨rfl, rfl⟩ | ⟨rfl, rfl⟩ | ⟨rfl, rfl⟩
  · omega
  · omega
  · omega
  · rfl
theorem tok_le {w1 w2 : List UInt8} {n1 n2 a : Nat} {L : List (Int × Int × Int)} (hs : TokSt w1 w2 n1 n2 a L) : a ≤ w1.length + (w2.length + 1) ∧ L.length ≤ 2 := by
  rcases hs with ⟨rfl, rfl⟩ | ⟨rfl, rfl⟩ | ⟨rfl, rfl⟩ | ⟨rfl, rfl⟩ <;> exact ⟨by omega, by simp⟩
theorem _root_.Go.Ab.Gro.len {g : Gro} {n : Nat} (h : g.Ok n) : ∃ a c, g.V n = .slice a n c := by
  cases g with
  | no =>
    have : n = 0 := h
    subst this
    exact ⟨none, 0, rfl⟩
  | emp b =>
    have : n = 0 := h
    subst this
    exact ⟨_, 0, rfl⟩
  | one b => exact ⟨_, _, rfl⟩
  | two b b0 old => exact ⟨_, _, rfl⟩
/-! Writing numbers. -/
def chrD (d : Nat) : UInt8 := if d < 10 then UInt8.ofNat (48 + d) else UInt8.ofNat (55 + d)
theorem chrD_ok : ∀ d, d < 36 → valN (chrD d).toNat = d ∧ wordC (chrD d) = true ∧ chrD d ≠ 95 ∧ (d < 10 → digB (chrD d).toNat = true) := by decide +kernel
def absN (n : Int) : Nat := if n < 0 then (-(n + 1)).toNat else n.toNat
def GoodC (b : Nat) (c : UInt8) : Prop := wordC c = true ∧ c ≠ 95 ∧ valN c.toNat < b ∧ (b ≤ 10 → digB c.toNat = true)
theorem goodD {b d : Nat} (hd : d < b) (hb : b ≤ 36) : GoodC b (chrD d) := by
  obtain ⟨h1, h2, h3, h4⟩ := chrD_ok d (by omega)
  exact ⟨h2, h3, by omega, fun h => h4 (by omega)⟩
theorem valL_cons (b v : Nat) (c : UInt8) (s : List UInt8) : valL b v (c :: s) = valL b (v * b + valN c.toNat) s := rfl
/-- The digits that are written so far, and what is left. -/
def DI (b v : Nat) (s : List UInt8) (N : Nat) : Prop := valL b v s = N ∧ (∀ c ∈ s, GoodC b c) ∧ v * 2 ^ s.length ≤ N ∧ (s = [] ∨ 1 ≤ v)
theorem DI.start {b N : Nat} : DI b N [] N := ⟨rfl, (fun _ h => by cases h), by simp, .inl rfl⟩
theorem DI.len {b v N : Nat} {s : List UInt8} (h : DI b v s N) (hN : N < 9223372036854775808) : s.length ≤ 62 := by
  obtain ⟨-, -, h2, h3⟩ := h
  rcases h3 with rfl | h3
  · exact Nat.zero_le _
  · have h4 : 2 ^ s.length ≤ N := Nat.le_trans (Nat.le_mul_of_pos_left _ h3) h2
    have h5 : 2 ^ s.length < 2 ^ 63 := by omega
    have := (Nat.pow_lt_pow_iff_right (by decide : 1 < 2)).1 h5
    omega
theorem DI.le {b v N : Nat} {s : List UInt8} (h : DI b v s N) : v ≤ N := Nat.le_trans (Nat.le_mul_of_pos_right v (Nat.two_pow_pos _)) h.2.2.1
theorem chrD_val {b v : Nat} {s : List UInt8} (hb : 2 ≤ b) (hb2 : b ≤ 36) : valL b (v / b) (chrD (v % b) :: s) = valL b v s := by
  rw [valL_cons, (chrD_ok (v % b) (Nat.lt_of_lt_of_le (Nat.mod_lt v (by omega)) hb2)).1]
  congr 1
  rw [Nat.mul_comm, Nat.div_add_mod]
theorem DI.good {b v N : Nat} {s : List UInt8} (h : DI b v s N) (hb : 2 ≤ b) (hb2 : b ≤ 36) : ∀ c ∈ chrD (v % b) :: s, GoodC b c := fun c hc => by
  rcases List.mem_cons.1 hc with rfl | hc
  · exact goodD (Nat.mod_lt v (by omega)) hb2
  · exact h.2.1 c hc
theorem DI.step {b v N : Nat} {s : List UInt8} (h : DI b v s N) (hb : 2 ≤ b) (hb2 : b ≤ 36) (hv : b ≤ v) : DI b (v / b) (chrD (v % b) :: s) N := by
  refine ⟨(chrD_val hb hb2).trans h.1, h.good hb hb2, ?_, .inr ((Nat.one_le_div_iff (by omega)).2 hv)⟩
  refine Nat.le_trans ?_ h.2.2.1
  rw [List.length_cons, Nat.pow_succ, Nat.mul_comm (2 ^ s.length) 2, ← Nat.mul_assoc]
  refine Nat.mul_le_mul_right _ ?_
  exact Nat.le_trans (Nat.mul_le_mul_left _ hb) (Nat.div_mul_le_self v b)
/-- The digits of a number. -/
def DF (b : Nat) (s : List UInt8) (N : Nat) : Prop := valL b 0 s = N ∧ (∀ c ∈ s, GoodC b c) ∧ 0 < s.length ∧ s.length ≤ 63
theorem DI.done {b v N : Nat} {s : List UInt8} (h : DI b v s N) (hb : 2 ≤ b) (hb2 : b ≤ 36) (hv : v < b) (hN : N < 9223372036854775808) : DF b (chrD (v % b) :: s) N := by
  refine ⟨?_, h.good hb hb2, Nat.succ_pos _, Nat.succ_le_succ (h.len hN)⟩
  have := chrD_val (v := v) (s := s) hb hb2
  rw [Nat.div_eq_of_lt hv] at this
  exact this.trans h.1
abbrev zerL (k : Nat) : List UInt8 := List.replicate k 48
theorem valL_zer {b : Nat} {s : List UInt8} : ∀ k, valL b 0 (zerL k ++ s) = valL b 0 s
  | 0 => rfl
  | k + 1 => by
    show valL b 0 (48 :: (zerL k ++ s)) = _
    rw [valL_cons, Nat.zero_mul]
    exact valL_zer k
theorem zer_mem {k : Nat} {c : UInt8} (h : c ∈ zerL k) : c = 48 := (List.mem_replicate.1 h).2
def basL (b : Nat) : List UInt8 := if 9 < b then [UInt8.ofNat (48 + b / 10), UInt8.ofNat (48 + b % 10)] else [UInt8.ofNat (48 + b % 10)]
theorem basL_ok : ∀ b, b < 37 → AllD (basL b) ∧ 0 < (basL b).length ∧ (basL b).length ≤ 2 ∧ valL 10 0 (basL b) = b := by decide +kernel
theorem numW_dec {s : List UInt8} {N k : Nat} (h : DF 10 s N) (hN : N < 9223372036854775808) : NumW (zerL k ++ s) N := by
  refine .inl ⟨fun c hc => ?_, by rw [List.length_append]; exact Nat.lt_of_lt_of_le h.2.2.1 (Nat.le_add_left _ _), (valL_zer k).trans h.1, by omega⟩
  rcases List.mem_append.1 hc with hc | hc
  · rw [zer_mem hc]
    decide
  · exact (h.2.1 c hc).2.2.2 (Nat.le_refl _)
theorem numW_bas {s : List UInt8} {b N k : Nat} (h : DF b s N) (hb : 2 ≤ b) (hb2 : b ≤ 36) (hN : N < 9223372036854775808) : NumW (basL b ++ 114 :: (zerL k ++ s)) N := by
  obtain ⟨g1, g2, g3, g4⟩ := basL_ok b (by omega)
  have key : ∀ c ∈ zerL k ++ s, wordC c = true ∧ c ≠ 95 ∧ valN c.toNat < b := fun c hc => by
    rcases List.mem_append.1 hc with hc | hc
    · rw [zer_mem hc]
      exact ⟨by decide, by decide, by show 0 < b; omega⟩
    · exact ⟨(h.2.1 c hc).1, (h.2.1 c hc).2.1, (h.2.1 c hc).2.2.1⟩
  exact .inr ⟨_, _, b, rfl, g1, g2, g4, hb, hb2, fun c hc => (key c hc).1, fun c hc => (key c hc).2.1, by rw [List.length_append]; exact Nat.lt_of_lt_of_le h.2.2.1 (Nat.le_add_left _ _), fun c hc => (key c hc).2.2, (valL_zer k).trans h.1, by omega⟩
theorem absN_lt {n : Int} (h1 : -9223372036854775808 ≤ n) (h2 : n ≤ 9223372036854775807) : absN n < 9223372036854775808 := by
  unfold absN
  split <;> omega
theorem abs_neg {n : Int} (h : n < 0) (h1 : -9223372036854775808 ≤ n) : wr .i64 (0 - (wr .i64 (n + 1))) = Int.ofNat (absN n) := by
  have e : wr .i64 (n + 1) = n + 1 := by rw [wr_in] <;> simp [IntKind.min, IntKind.max, IntKind.signed, IntKind.bits] <;> omega
  rw [e]
  unfold absN
  rw [if_pos h, wr_in] <;> simp [IntKind.min, IntKind.max, IntKind.signed, IntKind.bits] <;> omega
theorem abs_pos {n : Int} (h : ¬ n < 0) : n = Int.ofNat (absN n) := by
  unfold absN
  rw [if_neg h]
  simp only [Int.ofNat_eq_natCast]
  omega
theorem chr_lo {d : Nat} (h : d < 10) : [UInt8.ofNat (48 + d)] = [chrD d] := by unfold chrD; rw [if_pos h]
theorem chr_hi {d : Nat} (h : ¬ d < 10) : [UInt8.ofNat (65 + d - 10)] = [chrD d] := by unfold chrD; rw [if_neg h, show 65 + d - 10 = 55 + d by omega]
theorem _root_.Go.Ab.Gro.first {g : Gro} {n : Nat} {el : TypeId} {cs : List Value} (h : g.Ok n) (hn : 0 < n) : ∃ b mate r, g.V n = .slice (some ⟨b, 0, none⟩) n top ∧ g.H el cs = (b, .cells cs el true .plain mate) :: r := by
  cases g with
  | no => exact absurd h (by show ¬ n = 0; omega)
  | emp b => exact absurd h (by show ¬ n = 0; omega)
  | one b => exact ⟨b, none, [], rfl, rfl⟩
  | two b b0 old => exact ⟨b, some b0, _, rfl, rfl⟩
theorem three_of {α : Type} {l a b c : List α} (hl : l.length = 12) (h0 : (l.drop 0).take 4 = a) (h1 : (l.drop 4).take 4 = b) (h2 : (l.drop 8).take 4 = c) : l = a ++ (b ++ c) := by
  rw [List.drop_zero] at h0
  have h3 : (l.drop 8).take 4 = l.drop 8 := List.take_of_length_le (by rw [List.length_drop, hl]; decide)
  have h4 : l.drop 4 = (l.drop 4).take 4 ++ (l.drop 8) := by
    have := (List.take_append_drop 4 (l.drop 4)).symm
    rw [List.drop_drop] at this
    exact this
  rw [← h0, ← h1, ← h2, h3, ← h4, List.take_append_drop]
theorem u8N {a : Int} (h : (Lit.int .u8 a).wf = true) : ∃ k, a = Int.ofNat k ∧ k < 256 := by
  have h1 : (Int.ofNat 0 ≤ a ∧ a ≤ 255) := by
    unfold Lit.wf at h
    simpa [IntKind.min, IntKind.max, IntKind.signed, IntKind.bits] using h
  refine ⟨a.toNat, ?_, ?_⟩
  · simp only [Int.ofNat_eq_natCast] at *
    omega
  · simp only [Int.ofNat_eq_natCast] at *
    omega
theorem i64R {a : Int} (h : (Lit.int .i64 a).wf = true) : -9223372036854775808 ≤ a ∧ a ≤ 9223372036854775807 := by
  unfold Lit.wf at h
  simpa [IntKind.min, IntKind.max, IntKind.signed, IntKind.bits] using h

end Go.Proofs.YtpokggpohmojlaaGreatDoor
