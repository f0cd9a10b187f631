/- Words of a text, in plain words: lengths of names, numbers, signs and blanks over lists of bytes. No program in sight. -/
import Derived.Test.YtepofemoodaknaaWWords
namespace Go.Proofs.Ytepofemoodaknaa.Lex
open Go.RowKit Go.Proofs.YtepofemoodaknaaW.PrintWords

def isLet (c : UInt8) : Bool := 97 ≤ c && c ≤ 122
def isDig (c : UInt8) : Bool := 48 ≤ c && c ≤ 57
def isBlank (c : UInt8) : Bool := c == 32 || c == 9 || c == 10 || c == 13
def wordLen (l : List UInt8) : Nat := (l.takeWhile fun c => isLet c || isDig c).length
def digLen (l : List UInt8) : Nat := (l.takeWhile isDig).length
def numVal (l : List UInt8) : Int := (l.take 9).foldl (fun n c => 10 * n + ((c.toNat : Int) - 48)) 0
/-- Blanks and remarks in front; true: within a remark. -/
def blankLen : Bool → List UInt8 → Nat
  | _, [] => 0
  | false, c :: l => if isBlank c then blankLen false l + 1 else if c == 35 then blankLen true l + 1 else 0
  | true, c :: l => if c == 10 then blankLen false l + 1 else blankLen true l + 1
def keys : List (List UInt8) := [[99, 101, 108, 108], [97, 116, 111, 109], [114, 111, 119], [100, 111, 109, 97, 105, 110], [101, 110, 100], [108, 101, 116], [105, 110], [105, 102], [116, 104, 101, 110], [101, 108, 115, 101], [102, 117, 110], [109, 97, 116, 99, 104], [119, 105, 116, 104], [110, 111, 110, 101], [115, 111, 109, 101], [116, 114, 117, 101], [102, 97, 108, 115, 101], [112, 114, 105, 110, 116], [115, 119, 97, 112], [97, 100, 100], [99, 97, 115]]
def isKey (l : List UInt8) : Bool := keys.contains l
def singles : List UInt8 := [40, 41, 93, 59, 44, 33, 124, 61, 60, 43, 45, 42, 47]
def isDouble (l : List UInt8) : Bool := l == [58, 61] || l == [60, 45] || l == [45, 62] || l == [46, 91]
def signLen (l : List UInt8) : Nat := if isDouble (l.take 2) then 2 else match l with
  | [] => 0
  | c :: _ => if singles.contains c then 1 else 0
/-- Is a number in front none: too long, a 0 ahead of others, a letter at once behind? -/
def numBad (l : List UInt8) : Bool := decide (9 < digLen l) || (decide (1 < digLen l) && (l.head? == some 48)) || ((l.drop (digLen l)).head?.map isLet).getD false
/-- The word in front of a text that is not empty: its kind, its length, what it is; none: a fault. -/
def tok (l : List UInt8) : Option (Int × Nat × Int) :=
  if (l.head?.map isLet).getD false then (if 16 < wordLen l then none else some (if isKey (l.take (wordLen l)) then 2 else 1, wordLen l, 0))
  else if (l.head?.map isDig).getD false then (if numBad l then none else some (3, digLen l, numVal (l.take (digLen l))))
  else if signLen l = 0 then none else some (4, signLen l, 0)

theorem wordLen_le (l : List UInt8) : wordLen l ≤ l.length := by unfold wordLen; exact (List.takeWhile_sublist _).length_le
theorem digLen_le (l : List UInt8) : digLen l ≤ l.length := by unfold digLen; exact (List.takeWhile_sublist _).length_le
theorem blankLen_le : ∀ (b : Bool) (l : List UInt8), blankLen b l ≤ l.length
  | b, [] => by cases b <;> simp [blankLen]
  | false, c :: l => by
    have h1 := blankLen_le false l
    have h2 := blankLen_le true l
    unfold blankLen
    split
    · simp; omega
    · split
      · simp; omega
      · simp
  | true, c :: l => by
    have h1 := blankLen_le false l
    have h2 := blankLen_le true l
    unfold blankLen
    split <;> (simp; omega)
theorem signLen_le (l : List UInt8) : signLen l ≤ l.length := by
  unfold signLen
  split
  · rename_i h
    match l with
    | [] => simp [isDouble] at h
    | [a] => simp [isDouble] at h
    | a :: b :: l => simp
  · split
    · simp
    · split <;> simp
theorem wordLen_pos {l : List UInt8} (h : (l.head?.map isLet).getD false = true) : 0 < wordLen l := by
  match l with
  | [] => simp at h
  | c :: l => simp only [List.head?_cons, Option.map_some, Option.getD_some] at h; simp [wordLen, h]
theorem digLen_pos {l : List UInt8} (h : (l.head?.map isDig).getD false = true) : 0 < digLen l := by
  match l with
  | [] => simp at h
  | c :: l => simp only [List.head?_cons, Option.map_some, Option.getD_some] at h; simp [digLen, h]
theorem tok_len {l : List UInt8} {k : Int} {n : Nat} {v : Int} (h : tok l = some (k, n, v)) : 0 < n ∧ n ≤ l.length := by
  unfold tok at h
  split at h
  · rename_i h1
    split at h
    · cases h
    · simp only [Option.some.injEq, Prod.mk.injEq] at h
      obtain ⟨_, rfl, _⟩ := h
      exact ⟨wordLen_pos h1, wordLen_le l⟩
  · split at h
    · rename_i h1
      split at h
      · cases h
      · simp only [Option.some.injEq, Prod.mk.injEq] at h
        obtain ⟨_, rfl, _⟩ := h
        exact ⟨digLen_pos h1, digLen_le l⟩
    · split at h
      · cases h
      · simp only [Option.some.injEq, Prod.mk.injEq] at h
        obtain ⟨_, rfl, _⟩ := h
        exact ⟨by omega, signLen_le l⟩

/-! ### a text's bytes -/
theorem bt_get {s : ByteArray} {i : Nat} (h : i < s.size) : bt s (i : Int) = ((s.data.toList[i]'(by simpa using h)).toNat : Int) := by
  unfold bt
  rw [dif_pos (by simpa using h)]
  rfl
theorem toList_length (s : ByteArray) : s.data.toList.length = s.size := by simp
theorem toList_eq (s : ByteArray) : s.toList = s.data.toList := by
  exact ByteArray.toList_eq s
theorem extract_list (s : ByteArray) (i j : Nat) : (s.extract i j).data.toList = (s.data.toList.take j).drop i := by
  simp [List.drop_take]
theorem extract_drop (s : ByteArray) (i : Nat) : (s.extract i s.size).data.toList = s.data.toList.drop i := by
  rw [extract_list, List.take_of_length_le (by simp)]
theorem extract_take (s : ByteArray) (j : Nat) : (s.extract 0 j).data.toList = s.data.toList.take j := by
  rw [extract_list, List.drop_zero]

/-! ### numbers -/
theorem numVal_snoc (l : List UInt8) (c : UInt8) (h : l.length < 9) : numVal (l ++ [c]) = 10 * numVal l + ((c.toNat : Int) - 48) := by
  unfold numVal
  rw [List.take_of_length_le (by simp; omega), List.take_of_length_le (by omega), List.foldl_append]
  rfl
theorem numVal_long (l : List UInt8) (c : UInt8) (h : 9 ≤ l.length) : numVal (l ++ [c]) = numVal l := by
  unfold numVal
  rw [List.take_append_of_le_length h]
theorem numVal_bound : ∀ (n : Nat) (l : List UInt8), l.length = n → (∀ c ∈ l, isDig c = true) → 0 ≤ numVal l ∧ numVal l ≤ 999999999 ∧ numVal l + 1 ≤ 10 ^ n
  | 0, l, hl, _ => by
    obtain rfl := List.length_eq_zero_iff.1 hl
    simp [numVal]
  | n + 1, l, hl, hd => by
    have hne : l ≠ [] := by intro h; simp [h] at hl
    obtain ⟨l', c, rfl⟩ : ∃ l' c, l = l' ++ [c] := ⟨l.dropLast, l.getLast hne, (List.dropLast_concat_getLast hne).symm⟩
    simp at hl
    have ih := numVal_bound n l' hl (fun x hx => hd x (by simp [hx]))
    have hc := hd c (by simp)
    simp only [isDig, Bool.and_eq_true, decide_eq_true_eq, UInt8.le_iff_toNat_le] at hc
    have h48 : (48 : UInt8).toNat = 48 := rfl
    have h57 : (57 : UInt8).toNat = 57 := rfl
    rw [h48, h57] at hc
    by_cases h9 : n < 9
    · rw [numVal_snoc l' c (by omega)]
      have hp : (10 : Int) ^ (n + 1) = 10 ^ n * 10 := by rw [Int.pow_succ]
      have h8 : (10 : Int) ^ n ≤ 100000000 := by
        have : n = 0 ∨ n = 1 ∨ n = 2 ∨ n = 3 ∨ n = 4 ∨ n = 5 ∨ n = 6 ∨ n = 7 ∨ n = 8 := by omega
        rcases this with rfl | rfl | rfl | rfl | rfl | rfl | rfl | rfl | rfl <;> decide
      refine ⟨by omega, by omega, by omega⟩
    · rw [numVal_long l' c (by omega)]
      have hp : (10 : Int) ^ (n + 1) = 10 ^ n * 10 := by rw [Int.pow_succ]
      refine ⟨ih.1, ih.2.1, by omega⟩
theorem digits_all (l : List UInt8) (k : Nat) (h : k ≤ digLen l) : ∀ c ∈ l.take k, isDig c = true := by
  intro c hc
  have h1 : l.take k <+: l.takeWhile isDig := by
    have ha : l.takeWhile isDig <+: l := List.takeWhile_prefix _
    have hb : l.take k <+: l := List.take_prefix _ _
    exact List.prefix_of_prefix_length_le hb ha (by unfold digLen at h; simp; omega)
  exact List.all_eq_true.1 (List.all_takeWhile (p := isDig) (l := l)) c (h1.subset hc)
theorem digLen_get (l : List UInt8) : ∀ (k : Nat), k < digLen l → ∃ c, l[k]? = some c ∧ isDig c = true := by
  intro k hk
  have hl := digLen_le l
  have h1 := digits_all l (k + 1) (by omega)
  refine ⟨l[k]'(by omega), List.getElem?_eq_getElem _, h1 _ ?_⟩
  rw [List.mem_take_iff_getElem]
  exact ⟨k, by omega, rfl⟩
theorem digLen_end (l : List UInt8) (h : digLen l < l.length) : isDig (l[digLen l]) = false := by
  unfold digLen at h ⊢
  induction l with
  | nil => simp at h
  | cons c l ih =>
    by_cases hc : isDig c = true
    · simp only [List.takeWhile_cons, hc, if_true, List.length_cons] at h ⊢
      simpa using ih (by simpa using h)
    · simp only [List.takeWhile_cons, hc, Bool.false_eq_true, if_false, List.length_nil] at h ⊢
      simpa using hc
end Go.Proofs.Ytepofemoodaknaa.Lex
