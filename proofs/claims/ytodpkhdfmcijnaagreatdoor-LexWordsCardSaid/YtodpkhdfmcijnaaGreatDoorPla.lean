/-
  Plain laws of words. Conditions: none.
-/
import Derived.Test.YtodpkhdfmcijnaaGreatDoorEng6
import Derived.Lib.IndexMore
namespace Go.Proofs.YtodpkhdfmcijnaaGreatDoor
open Go Go.Ab
set_option linter.unusedVariables false
set_option linter.unusedSimpArgs false
set_option linter.unusedSectionVars false
variable [Vals]
/-! Letters, digits, words. -/
def letB (c : Nat) : Bool := decide (97 ≤ c ∧ c ≤ 122 ∨ 65 ≤ c ∧ c ≤ 90 ∨ c = 95)
def ltrB (c : Nat) : Bool := decide (97 ≤ c ∧ c ≤ 122 ∨ 65 ≤ c ∧ c ≤ 90)
def digB (c : Nat) : Bool := decide (48 ≤ c ∧ c ≤ 57)
def wrdB (c : Nat) : Bool := letB c || digB c
def wordC (c : UInt8) : Bool := wrdB c.toNat
def wordN (s : ByteArray) : Nat := (s.data.toList.takeWhile wordC).length
def allW (s : ByteArray) : Bool := s.data.toList.all wordC
theorem size_eq (s : ByteArray) : s.data.toList.length = s.size := by cases s with | mk a => simp [ByteArray.size]
theorem byte_at {s : ByteArray} {i : Nat} (h : i < s.size) : ∃ x, s.data.toList[i]? = some x := ⟨_, List.getElem?_eq_getElem (by rw [size_eq]; exact h)⟩
theorem take_len {α : Type} {p : α → Bool} : ∀ {l : List α} {i : Nat}, i ≤ l.length → (∀ (j : Nat) x, j < i → l[j]? = some x → p x = true) → (i = l.length ∨ ∃ x, l[i]? = some x ∧ p x = false) → (l.takeWhile p).length = i
  | [], i, h, _, _ => by simp at h; simp [h]
  | a :: l, 0, _, _, h2 => by
    rcases h2 with h2 | ⟨x, h3, h4⟩
    · simp at h2
    · simp at h3
      subst h3
      simp [List.takeWhile_cons, h4]
  | a :: l, i + 1, h, h1, h2 => by
    have ha := h1 0 a (Nat.succ_pos i) rfl
    rw [List.takeWhile_cons, if_pos ha, List.length_cons, take_len (i := i) (by simpa using h) (fun j x hj hx => h1 (j + 1) x (Nat.succ_lt_succ hj) (by simpa using hx)) (by simpa using h2)]
theorem take_all {α : Type} {p : α → Bool} : ∀ {l : List α}, (l.takeWhile p).length = l.length ↔ l.all p = true
  | [] => by simp
  | a :: l => by
    rw [List.takeWhile_cons, List.all_cons]
    cases h : p a with
    | true => simp [take_all (l := l)]
    | false => simp
theorem word_all {s : ByteArray} : wordN s = s.size ↔ allW s = true := by
  unfold wordN allW
  rw [← size_eq, take_all]
/-! Keywords, signs. -/
def keyL : List (List UInt8) := [[97, 100, 116], [97, 108, 116], [97, 114, 114, 97, 121], [98, 105, 103], [98, 114, 101, 97, 107], [98, 121, 116, 101], [99, 97, 115, 101], [99, 104, 97, 110], [99, 111, 110], [99, 111, 110, 116, 105, 110, 117, 101], [100, 111], [101, 108, 115, 101], [101, 120, 99, 101, 112, 116, 105, 111, 110], [101, 120, 105, 116], [102, 110], [102, 111, 114], [104, 100], [105, 102], [105, 109, 112, 108, 101, 109, 101, 110, 116], [105, 110, 116], [105, 111, 116, 97], [108, 101, 110], [108, 105, 115, 116], [108, 111, 97, 100], [109, 111, 100, 117, 108, 101], [110, 105, 108], [111, 102], [111, 114], [112, 105, 99, 107], [114, 97, 105, 115, 101], [114, 101, 97, 108], [114, 101, 102], [114, 101, 116, 117, 114, 110], [115, 101, 108, 102], [115, 112, 97, 119, 110], [115, 116, 114, 105, 110, 103], [116, 97, 103, 111, 102], [116, 108], [116, 111], [116, 121, 112, 101], [119, 104, 105, 108, 101]]
/-- The signs, as the reference has them. -/
def sgnL : List (List UInt8) := [[43], [45], [42], [47], [37], [38], [124], [94], [126], [33], [61], [60], [62], [46], [44], [59], [58], [40], [41], [91], [93], [123], [125], [61, 61], [33, 61], [60, 61], [62, 61], [60, 60], [62, 62], [38, 38], [124, 124], [43, 43], [45, 45], [43, 61], [45, 61], [42, 61], [47, 61], [37, 61], [38, 61], [124, 61], [94, 61], [58, 61], [60, 45], [45, 62], [61, 62], [58, 58], [60, 60, 61], [62, 62, 61], [60, 45, 61]]
def keyS : List UInt8 := [32, 97, 100, 116, 32, 97, 108, 116, 32, 97, 114, 114, 97, 121, 32, 98, 105, 103, 32, 98, 114, 101, 97, 107, 32, 98, 121, 116, 101, 32, 99, 97, 115, 101, 32, 99, 104, 97, 110, 32, 99, 111, 110, 32, 99, 111, 110, 116, 105, 110, 117, 101, 32, 100, 111, 32, 101, 108, 115, 101, 32, 101, 120, 99, 101, 112, 116, 105, 111, 110, 32, 101, 120, 105, 116, 32, 102, 110, 32, 102, 111, 114, 32, 104, 100, 32, 105, 102, 32, 105, 109, 112, 108, 101, 109, 101, 110, 116, 32, 105, 110, 116, 32, 105, 111, 116, 97, 32, 108, 101, 110, 32, 108, 105, 115, 116, 32, 108, 111, 97, 100, 32, 109, 111, 100, 117, 108, 101, 32, 110, 105, 108, 32, 111, 102, 32, 111, 114, 32, 112, 105, 99, 107, 32, 114, 97, 105, 115, 101, 32, 114, 101, 97, 108, 32, 114, 101, 102, 32, 114, 101, 116, 117, 114, 110, 32, 115, 101, 108, 102, 32, 115, 112, 97, 119, 110, 32, 115, 116, 114, 105, 110, 103, 32, 116, 97, 103, 111, 102, 32, 116, 108, 32, 116, 111, 32, 116, 121, 112, 101, 32, 119, 104, 105, 108, 101, 32]
theorem eqB_eq {a b : List UInt8} (h : eqBytes a b = true) : a = b := by
  rw [eqBytes_eq] at h
  exact of_decide_eq_true h
theorem eqB_mem {s l : List UInt8} {L : List (List UInt8)} (h : eqBytes s l = true) (k : l ∈ L) : decide (s ∈ L) = true := by
  rw [eqB_eq h]
  exact decide_eq_true k
theorem last_mem {s w0 : List UInt8} {L : List (List UInt8)} (h : ∀ w, w ∈ L → w = w0 ∨ eqBytes s w = false) (k : w0 ∈ L) : eqBytes s w0 = decide (s ∈ L) := by
  rw [Bool.eq_iff_iff, decide_eq_true_iff]
  constructor
  · intro e
    rw [eqB_eq e]
    exact k
  · intro hm
    rcases h s hm with h | h
    · rw [h, eqBytes_eq]
      exact decide_eq_true rfl
    · rw [eqBytes_eq] at h
      exact absurd rfl (of_decide_eq_false h)
theorem upto_succ {α : Type} {l : List α} {P : α → Prop} {i : Nat} {y : α} (h : ∀ (j : Nat) x, j < i → l[j]? = some x → P x) (hy : l[i]? = some y) (hP : P y) : ∀ (j : Nat) x, j < i + 1 → l[j]? = some x → P x := by
  intro j x hj hx
  by_cases e : j = i
  · subst e
    rw [hy] at hx
    cases hx
    exact hP
  · exact h j x (by omega) hx
theorem wr_succ {i : Nat} (h : i + 1 ≤ 9223372036854775807) : wr .i64 (Int.ofNat i + 1) = Int.ofNat (i + 1) := by
  show (bif Nat.ble (i + 1) 9223372036854775807 then Int.ofNat (i + 1) else _) = _
  rw [nble, decide_eq_true h]
  rfl
theorem ba_app (a b : ByteArray) : (a ++ b).data.toList = a.data.toList ++ b.data.toList := by simp
theorem binS_cat {P : Program} {x y : Operand} {ty : TypeId} {a b : ByteArray} (h : (a ++ b).size ≤ 4294967296) : binS P .add ty x y (.string a) (.string b) = some (.string (a ++ b)) := by
  have h : binA P .add ty x y (.string a) (.string b) = some (.string (a ++ b)) := by
    show (bif Nat.ble (a.size + b.size) 9223372036854775807 then some (Value.string (a ++ b)) else none) = _
    rw [ByteArray.size_append] at h
    rw [nble, decide_eq_true (by omega)]
    rfl
  unfold binS
  rw [h]
theorem wrd_alt (c : Nat) : wrdB c = (ltrB c || (digB c || decide (c = 95))) := by
  unfold wrdB letB ltrB digB
  rw [Bool.eq_iff_iff]
  simp only [Bool.or_eq_true, decide_eq_true_eq]
  omega
/-- Spelt as a name. -/
def spB (s : ByteArray) : Bool := match s.data.toList with
  | [] => false
  | c :: _ => !digB c.toNat && allW s
/-- A keyword, as the program looks for it. -/
def kwB (s : ByteArray) : Bool := decide (s.size ≠ 0) && (allW s && Lib.contains keyS (32 :: (s.data.toList ++ [32])))
def RStr (l : List UInt8) (cs : List Value) : Prop := cs = [.string ⟨⟨l⟩⟩]
theorem all_word {s : ByteArray} (h : ∀ (j : Nat) (x : UInt8), j < s.size → s.data.toList[j]? = some x → wordC x = true) : allW s = true := by
  unfold allW
  rw [List.all_eq_true]
  intro x hx
  obtain ⟨j, hj⟩ := List.getElem?_of_mem hx
  exact h j x (by rw [← size_eq]; exact (List.getElem?_eq_some_iff.1 hj).1) hj
theorem not_word {s : ByteArray} {i : Nat} {x : UInt8} (hx : s.data.toList[i]? = some x) (h : wordC x = false) : allW s = false := by
  unfold allW
  rw [List.all_eq_false]
  exact ⟨x, List.mem_of_getElem? hx, by rw [h]; exact Bool.false_ne_true⟩
theorem spB_at {s : ByteArray} {x : UInt8} (hx : s.data.toList[0]? = some x) : spB s = (!digB x.toNat && allW s) := by
  unfold spB
  cases h : s.data.toList with
  | nil => rw [h] at hx; cases hx
  | cons c l => rw [h] at hx; cases hx; rfl
theorem size_zero {s : ByteArray} (h : s.size = 0) : s.data.toList = [] := List.length_eq_zero_iff.1 (by rw [size_eq]; exact h)
/-- What the two ask of keywords is the same: the list's words between blanks. -/
def joinB : List (List UInt8) → List UInt8
  | [] => [32]
  | w :: r => 32 :: (w ++ joinB r)
theorem str_cells : ∀ {L : List (List UInt8)} {i : Nat} {x : List UInt8}, L[i]? = some x → RStr x (((L.map fun l => Value.string ⟨⟨l⟩⟩).drop i).take 1)
  | [], i, x, h => by simp at h
  | l :: L, 0, x, h => by
    simp only [List.getElem?_cons_zero, Option.some.injEq] at h
    subst h
    rfl
  | l :: L, i + 1, x, h => str_cells (L := L) (i := i) (by simpa using h)
theorem key_small : (⟨⟨keyS⟩⟩ : ByteArray).size < 4294967281 := by decide +kernel
theorem index_infix : ∀ {l sub : List UInt8}, 0 ≤ Lib.index l sub ↔ ∃ a b, l = a ++ (sub ++ b)
  | [], sub => by
    unfold Lib.index
    cases sub with
    | nil => exact ⟨fun _ => ⟨[], [], rfl⟩, fun _ => by decide⟩
    | cons c r =>
      refine ⟨fun h => absurd h (show ¬ (0 : Int) ≤ -1 by decide), fun ⟨a, b, h⟩ => ?_⟩
      have := congrArg List.length h
      simp at this
  | c :: l, sub => by
    unfold Lib.index
    split
    · rename_i hp
      obtain ⟨b, hb⟩ := List.isPrefixOf_iff_prefix.1 hp
      exact ⟨fun _ => ⟨[], b, hb.symm⟩, fun _ => Int.le_refl _⟩
    · rename_i hp
      have ih := index_infix (l := l) (sub := sub)
      have key : (0 ≤ Lib.index l sub) ↔ ∃ a b, c :: l = a ++ (sub ++ b) := by
        rw [ih]
        constructor
        · rintro ⟨a, b, h⟩
          exact ⟨c :: a, b, by rw [h]; rfl⟩
        · rintro ⟨a, b, h⟩
          cases a with
          | nil => exact absurd (List.isPrefixOf_iff_prefix.2 ⟨b, h.symm⟩) hp
          | cons d a =>
            simp only [List.cons_append, List.cons.injEq] at h
            exact ⟨a, b, h.2⟩
      rw [← key]
      split
      · rename_i he
        simp only [beq_iff_eq] at he
        rw [he]
      · rename_i he
        simp only [beq_iff_eq] at he
        have := Lib.index_ge l sub
        omega
theorem joinB_hd : ∀ L : List (List UInt8), ∃ t, joinB L = 32 :: t
  | [] => ⟨_, rfl⟩
  | _ :: _ => ⟨_, rfl⟩
/-- Words up to a blank. -/
theorem word_cut {c : UInt8} : ∀ {n m u w : List UInt8}, (∀ x ∈ n, x ≠ c) → (∀ x ∈ m, x ≠ c) → n ++ c :: u = m ++ c :: w → n = m
  | [], [], _, _, _, _, _ => rfl
  | [], y :: m, _, _, _, k, h => by
    simp only [List.nil_append, List.cons_append, List.cons.injEq] at h
    exact absurd h.1.symm (k y (List.mem_cons_self ..))
  | x :: n, [], _, _, k, _, h => by
    simp only [List.nil_append, List.cons_append, List.cons.injEq] at h
    exact absurd h.1 (k x (List.mem_cons_self ..))
  | x :: n, y :: m, _, _, k, k', h => by
    simp only [List.cons_append, List.cons.injEq] at h
    rw [h.1, word_cut (fun z hz => k z (List.mem_cons_of_mem _ hz)) (fun z hz => k' z (List.mem_cons_of_mem _ hz)) h.2]
theorem infix_join {s : List UInt8} (hs : ∀ x ∈ s, x ≠ 32) : ∀ {L : List (List UInt8)}, (∀ w ∈ L, ∀ x ∈ w, x ≠ 32) → ((∃ a b, joinB L = a ++ ((32 :: (s ++ [32])) ++ b)) ↔ s ∈ L)
  | [], _ => by
    refine ⟨fun ⟨a, b, h⟩ => ?_, fun h => by cases h⟩
    have := congrArg List.length h
    simp [joinB] at this
    omega
  | w :: L, hL => by
    have hw := hL w (List.mem_cons_self ..)
    obtain ⟨t, ht⟩ := joinB_hd L
    have ih := infix_join hs (L := L) fun v hv => hL v (List.mem_cons_of_mem _ hv)
    constructor
    · rintro ⟨a, b, h⟩
      cases a with
      | nil =>
        simp only [joinB, ht, List.nil_append, List.cons_append, List.cons.injEq, true_and, List.append_assoc] at h
        rw [word_cut hw hs h]
        exact List.mem_cons_self ..
      | cons c a =>
        simp only [joinB, List.cons_append, List.cons.injEq] at h
        refine List.mem_cons_of_mem _ (ih.1 ?_)
        rcases List.append_eq_append_iff.1 h.2 with ⟨a', e1, e2⟩ | ⟨c', e1, e2⟩
        · exact ⟨a', b, by rw [e2]; simp⟩
        · cases c' with
          | nil => exact ⟨[], b, by simpa using e2.symm⟩
          | cons d c' =>
            simp only [List.cons_append, List.cons.injEq] at e2
            exact absurd e2.1.symm (hw d (by rw [e1]; simp))
    · intro h
      rcases List.mem_cons.1 h with rfl | h
      · exact ⟨[], t, by simp [joinB, ht]⟩
      · obtain ⟨a, b, e⟩ := ih.2 h
        exact ⟨32 :: (w ++ a), b, by simp [joinB, e]⟩
theorem key_join : keyS = joinB keyL := by decide +kernel
theorem key_blank : ∀ w ∈ keyL, ∀ x ∈ w, x ≠ 32 := by decide +kernel
theorem key_word : ∀ w ∈ keyL, w.all wordC = true := by decide +kernel
theorem key_some : ([] : List UInt8) ∉ keyL := by decide +kernel
/-- What the program looks for is what the reference lists. -/
theorem key_law (s : ByteArray) : kwB s = decide (s.data.toList ∈ keyL) := by
  unfold kwB
  by_cases h0 : s.size = 0
  · rw [decide_eq_false (fun h => h h0), Bool.false_and, size_zero h0]
    exact (decide_eq_false key_some).symm
  · rw [decide_eq_true h0, Bool.true_and]
    cases ha : allW s with
    | false =>
      rw [Bool.false_and]
      refine (decide_eq_false fun h => ?_).symm
      have := key_word _ h
      unfold allW at ha
      rw [ha] at this
      cases this
    | true =>
      rw [Bool.true_and, Bool.eq_iff_iff, decide_eq_true_iff]
      unfold Lib.contains
      rw [decide_eq_true_iff, index_infix, key_join]
      refine infix_join (fun x hx e => ?_) key_blank
      unfold allW at ha
      have := List.all_eq_true.1 ha x hx
      rw [e] at this
      exact absurd this (by decide)
/-- A name. -/
def nmB (s : ByteArray) : Bool := decide (s.size ≤ 40) && (spB s && !decide (s.data.toList ∈ keyL))
theorem spB_word {s : ByteArray} (h : allW s = false) : spB s = false := by
  unfold spB
  split
  · rfl
  · rw [h, Bool.and_false]
theorem spB_zero {s : ByteArray} (h : s.size = 0) : spB s = false := by
  unfold spB
  rw [size_zero h]

end Go.Proofs.YtodpkhdfmcijnaaGreatDoor
