/- What name, word of the language, sign and blanks come to, in plain words; and their contracts. -/
import Derived.Test.YtepofemoodaknaaQx3
import Derived.Test.YtepofemoodaknaaQx4
import Derived.Test.YtepofemoodaknaaQx6
import Derived.Test.YtepofemoodaknaaQx8
import Derived.Test.YtepofemoodaknaaQx10
import Derived.Test.YtepofemoodaknaaNum2
namespace Go.Proofs.Ytepofemoodaknaa.Q
open Go.RowKit Go.Proofs.YtepofemoodaknaaW.PrintWords Go.Proofs.YtepofemoodaknaaW.PrintLast Go.Proofs.YtepofemoodaknaaW.PrintMore Go.Proofs.Ytepofemoodaknaa
theorem wrap_of {x : Int} (h0 : -9223372036854775808 ≤ x) (h1 : x < 9223372036854775808) : wrap64 x = x := by unfold wrap64; omega
theorem letter_f (c : UInt8) : lex_letter.f (c.toNat : Int) = some (Lex.isLet c) := by
  unfold lex_letter.f
  rw [isLet_int]
  by_cases h : (97 : Int) ≤ c.toNat
  · rw [if_pos h, decide_eq_true h]; rfl
  · rw [if_neg h, decide_eq_false h]; rfl
theorem digit_f (c : UInt8) : lex_digit.f (c.toNat : Int) = some (Lex.isDig c) := by
  unfold lex_digit.f
  rw [isDig_int]
  by_cases h : (48 : Int) ≤ c.toNat
  · rw [if_pos h, decide_eq_true h]; rfl
  · rw [if_neg h, decide_eq_false h]; rfl
theorem bt_of {s : ByteArray} {i : Nat} (h : i < s.size) : bt s (i : Int) = ((s.data.toList[i]'(by simpa using h)).toNat : Int) := Lex.bt_get h
theorem ite_key (l k : List UInt8) (b : Bool) : (if l = k then some true else some b) = some (l == k || b) := by
  by_cases h : l = k
  · rw [if_pos h, beq_iff_eq.2 h]; rfl
  · rw [if_neg h, beq_eq_false_iff_ne.2 h]; rfl
theorem key_f (s : ByteArray) : lex_key.f s = some (Lex.isKey s.data.toList) := by
  unfold lex_key.f Lex.isKey
  rw [Lex.toList_eq]
  generalize s.data.toList = l
  unfold Lex.keys
  simp only [List.contains_cons, List.contains_nil, Bool.or_false, ite_key]
theorem word_l (s : ByteArray) (hs : s.size ≤ 140737488355328) : ∀ (m i : Nat), s.size = i + m →
    Ev (fun k => lex_word.l0 k s (i : Int)) ((i + Lex.wordLen (s.data.toList.drop i) : Nat) : Int)
  | 0, i, hm => by
    refine Ev.step (f := fun _ => some ((i + Lex.wordLen (s.data.toList.drop i) : Nat) : Int)) (fun k => ?_) (Ev.now _)
    simp only [lex_word.l0]
    rw [if_neg (by omega), List.drop_of_length_le (by simp; omega)]
    simp [Lex.wordLen]
  | m + 1, i, hm => by
    have hi : i < s.size := by omega
    have hd : s.data.toList.drop i = s.data.toList[i]'(by simpa using hi) :: s.data.toList.drop (i + 1) := List.drop_eq_getElem_cons (by simpa using hi)
    have ih := word_l s hs m (i + 1) (by omega)
    generalize hc : s.data.toList[i]'(by simpa using hi) = c at hd
    have hb : bt s (i : Int) = (c.toNat : Int) := by rw [bt_of hi, hc]
    by_cases h1 : Lex.isLet c = true
    · have e : i + Lex.wordLen (s.data.toList.drop i) = i + 1 + Lex.wordLen (s.data.toList.drop (i + 1)) := by
        rw [hd]; simp [Lex.wordLen, h1]; omega
      rw [e]
      refine Ev.step (fun k => ?_) ih
      simp only [lex_word.l0]
      rw [if_pos (by omega), if_pos (by omega), hb, letter_f, h1, wrap_of (by omega) (by omega)]
      simp
    · have h1 := Bool.eq_false_iff.2 h1
      by_cases h2 : Lex.isDig c = true
      · have e : i + Lex.wordLen (s.data.toList.drop i) = i + 1 + Lex.wordLen (s.data.toList.drop (i + 1)) := by
          rw [hd]; simp [Lex.wordLen, h2]; omega
        rw [e]
        refine Ev.step (fun k => ?_) ih
        simp only [lex_word.l0]
        rw [if_pos (by omega), if_pos (by omega), hb, letter_f, h1, digit_f, h2, wrap_of (by omega) (by omega)]
        simp
      · have h2 := Bool.eq_false_iff.2 h2
        refine Ev.step (f := fun _ => some ((i + Lex.wordLen (s.data.toList.drop i) : Nat) : Int)) (fun k => ?_) (Ev.now _)
        simp only [lex_word.l0]
        rw [if_pos (by omega), if_pos (by omega), hb, letter_f, h1, digit_f, h2]
        rw [hd]
        simp [Lex.wordLen, h1, h2]
theorem word_ev (s : ByteArray) (hs : s.size ≤ 140737488355328) : Ev (fun k => lex_word.f k s) (Lex.wordLen s.data.toList : Int) := by
  have := word_l s hs s.size 0 (by omega)
  simp only [List.drop_zero, Nat.zero_add] at this
  exact this
theorem word_any (s : ByteArray) (w : World) (hs : s.size ≤ 140737488355328) : Calls Try.prog 24 #[.string s] w fun e w' => e = .returned (.int .i64 (Lex.wordLen s.data.toList : Int)) ∧ Drawn0 w w' := by
  obtain ⟨k, hk⟩ := (word_ev s hs).rounds
  exact lex_word.calls k s _ w hk
theorem key_any (s : ByteArray) (w : World) : Calls Try.prog 23 #[.string s] w fun e w' => e = .returned (.bool (Lex.isKey s.data.toList)) ∧ Drawn0 w w' := lex_key.calls s _ w (key_f s)

theorem u8_back (c : UInt8) : ((c.toNat : Int)).toNat.toUInt8 = c := by simp
theorem index_has (c : UInt8) : ∀ (l : List UInt8), (Lib.indexByte l c ≥ 0 ↔ l.contains c = true) ∧ -1 ≤ Lib.indexByte l c
  | [] => by simp [Lib.indexByte]
  | b :: l => by
    have ih := index_has c l
    unfold Lib.indexByte
    by_cases h : b = c
    · subst h; simp
    · have h1 : (b == c) = false := beq_eq_false_iff_ne.2 h
      have h2 : (c == b) = false := beq_eq_false_iff_ne.2 (Ne.symm h)
      rw [List.contains_cons, h1, h2, Bool.false_or]
      by_cases hm : Lib.indexByte l c = -1
      · have := ih.1
        rw [hm] at this
        simp [hm] at this ⊢
        exact this
      · have h3 : (Lib.indexByte l c == -1) = false := beq_eq_false_iff_ne.2 hm
        simp only [Bool.false_eq_true, if_false, h3]
        constructor
        · rw [← ih.1]; omega
        · omega
theorem index_single (c : UInt8) : strings_IndexByte.f (⟨#[40, 41, 93, 59, 44, 33, 124, 61, 60, 43, 45, 42, 47]⟩ : ByteArray) (c.toNat : Int) = some (Lib.indexByte Lex.singles c) := by
  unfold strings_IndexByte.f
  rw [u8_back]
  rfl
theorem sign_single (c : UInt8) : ((strings_IndexByte.f (⟨#[40, 41, 93, 59, 44, 33, 124, 61, 60, 43, 45, 42, 47]⟩ : ByteArray) (c.toNat : Int)).bind fun t => (if t ≥ 0 then (some 1) else (some 0))) = some (if Lex.singles.contains c then (1 : Int) else 0) := by
  rw [index_single]
  simp only [Option.bind_some]
  have := (index_has c Lex.singles).1
  by_cases h : Lex.singles.contains c = true
  · rw [if_pos (this.2 h), if_pos h]
  · rw [if_neg (fun x => h (this.1 x)), if_neg h]
theorem sign_ev (s : ByteArray) (h0 : 0 < s.size) : Ev (fun k => lex_sign.f k s) (Lex.signLen s.data.toList : Int) := by
  have hb : bt s 0 = ((s.data.toList[0]'(by simpa using h0)).toNat : Int) := bt_of h0
  have hl : s.data.toList = s.data.toList[0]'(by simpa using h0) :: s.data.toList.drop 1 := by
    have : s.data.toList.drop 0 = s.data.toList[0]'(by simpa using h0) :: s.data.toList.drop (0 + 1) := List.drop_eq_getElem_cons (by simpa using h0)
    simpa using this
  generalize s.data.toList[0]'(by simpa using h0) = c at hb hl
  have hs1 : Lex.isDouble (s.data.toList.take 2) = false → Lex.signLen s.data.toList = if Lex.singles.contains c then 1 else 0 := by
    intro h
    unfold Lex.signLen
    rw [h, hl]
    simp
  have hsi : Lex.isDouble (s.data.toList.take 2) = false → (Lex.signLen s.data.toList : Int) = if Lex.singles.contains c then 1 else 0 := by
    intro h
    rw [hs1 h]
    split <;> rfl
  by_cases h2 : (s.size : Int) ≥ 2
  · have ht : (s.extract 0 2).toList = s.data.toList.take 2 := by rw [Lex.toList_eq, Lex.extract_take]
    have hj : ∀ b, Lex.isDouble (s.data.toList.take 2) = b → Ev (fun k => lex_sign.j0 k s b) (Lex.signLen s.data.toList : Int) := by
      intro b hbb
      cases b with
      | true =>
        refine Ev.step (f := fun _ => some 2) (fun k => by simp [lex_sign.j0]) ?_
        have : Lex.signLen s.data.toList = 2 := by unfold Lex.signLen; rw [hbb]; rfl
        rw [this]; exact Ev.now _
      | false =>
        refine Ev.step (f := fun _ => some (Lex.signLen s.data.toList : Int)) (fun k => ?_) (Ev.now _)
        simp only [lex_sign.j0]
        rw [if_neg (by simp), if_pos (by omega), hb, sign_single, hsi hbb]
    refine Ev.congr (fun k => ?_) (hj _ rfl)
    unfold lex_sign.f
    rw [if_pos h2, if_pos (by omega), if_pos (by omega), ht]
    generalize s.data.toList.take 2 = t
    unfold Lex.isDouble
    by_cases d1 : t = [58, 61]
    · simp [d1]
    · by_cases d2 : t = [60, 45]
      · simp [d2]
      · by_cases d3 : t = [45, 62]
        · simp [d3]
        · rw [if_neg d1, if_neg d2, if_neg d3]
          congr 1
          simp [d1, d2, d3]
  · have hd : Lex.isDouble (s.data.toList.take 2) = false := by
      have hz : s.data.toList.length = 1 := by simp; omega
      rw [List.take_of_length_le (by omega)]
      match s.data.toList, hz with
      | [x], _ => simp [Lex.isDouble]
    refine Ev.congr (f := fun _ => some (Lex.signLen s.data.toList : Int)) (fun k => ?_) (Ev.now _)
    unfold lex_sign.f
    rw [if_neg h2, if_pos (by omega), hb, sign_single, hsi hd]
theorem sign_any (s : ByteArray) (w : World) (h0 : 0 < s.size) : Calls Try.prog 28 #[.string s] w fun e w' => e = .returned (.int .i64 (Lex.signLen s.data.toList : Int)) ∧ Drawn0 w w' := by
  obtain ⟨k, hk⟩ := (sign_ev s h0).rounds
  exact lex_sign.calls k s _ w hk

theorem index_ten : ∀ (l : List UInt8), (Lib.indexByte l 10 = -1 ∧ Lex.blankLen true l = l.length) ∨ ∃ t : Nat, Lib.indexByte l 10 = t ∧ t < l.length ∧ Lex.blankLen true l = t + Lex.blankLen false (l.drop t)
  | [] => .inl (by simp [Lib.indexByte, Lex.blankLen])
  | c :: l => by
    by_cases h : c = 10
    · subst h
      refine .inr ⟨0, by simp [Lib.indexByte], by simp, ?_⟩
      simp [Lex.blankLen, Lex.isBlank]
    · have h1 : (c == 10) = false := beq_eq_false_iff_ne.2 h
      rcases index_ten l with ⟨ha, hb⟩ | ⟨t, ha, hb, hc⟩
      · refine .inl ⟨by simp [Lib.indexByte, h1, ha], by simp [Lex.blankLen, h1, hb]⟩
      · refine .inr ⟨t + 1, ?_, by simp; omega, ?_⟩
        · unfold Lib.indexByte
          have h3 : (Lib.indexByte l 10 == -1) = false := beq_eq_false_iff_ne.2 (by omega)
          rw [h1, h3]
          simp [ha]
        · simp [Lex.blankLen, h1, hc]; omega
theorem blank_l (s : ByteArray) (hs : s.size ≤ 140737488355328) : ∀ (m i : Nat), s.size = i + m →
    Ev (fun k => lex_blank.l0 k s (i : Int)) ((i + Lex.blankLen false (s.data.toList.drop i) : Nat) : Int) := by
  intro m
  induction m using Nat.strongRecOn with
  | _ m ih =>
  intro i hm
  by_cases hi : i < s.size
  · have hd : s.data.toList.drop i = s.data.toList[i]'(by simpa using hi) :: s.data.toList.drop (i + 1) := List.drop_eq_getElem_cons (by simpa using hi)
    have hb : bt s (i : Int) = ((s.data.toList[i]'(by simpa using hi)).toNat : Int) := bt_of hi
    generalize hc : s.data.toList[i]'(by simpa using hi) = c at hd hb
    have hj : ∀ b, Lex.isBlank c = b → Ev (fun k => lex_blank.j1 k s (i : Int) (c.toNat : Int) b) ((i + Lex.blankLen false (s.data.toList.drop i) : Nat) : Int) := by
      intro b hbb
      cases b with
      | true =>
        have h1 := ih (m - 1) (by omega) (i + 1) (by omega)
        have e : i + Lex.blankLen false (s.data.toList.drop i) = i + 1 + Lex.blankLen false (s.data.toList.drop (i + 1)) := by rw [hd]; simp [Lex.blankLen, hbb]; omega
        rw [e]
        refine Ev.step (fun k => ?_) h1
        simp only [lex_blank.j1, if_true]
        rw [wrap_of (by omega) (by omega)]
        rfl
      | false =>
        by_cases h35 : c = 35
        · have e : Lex.blankLen false (s.data.toList.drop i) = Lex.blankLen true (s.data.toList.drop i) := by rw [hd, h35]; simp [Lex.blankLen, Lex.isBlank]
          have hx : strings_IndexByte.f (s.extract ((i : Int)).toNat s.size) 10 = some (Lib.indexByte (s.data.toList.drop i) 10) := by
            unfold strings_IndexByte.f
            rw [Int.toNat_natCast, Lex.extract_drop]
            rfl
          have hpos : Lib.indexByte (s.data.toList.drop i) 10 ≠ 0 := by
            rw [hd, h35]
            unfold Lib.indexByte
            have := (index_has 10 (s.data.toList.drop (i + 1))).2
            have h10 : ((35 : UInt8) == 10) = false := by decide
            rw [h10]
            simp only [Bool.false_eq_true, if_false]
            split
            · omega
            · rename_i hne
              have : ¬ Lib.indexByte (s.data.toList.drop (i + 1)) 10 = -1 := by simpa using hne
              omega
          have hlen : (s.data.toList.drop i).length = s.size - i := by simp
          rcases index_ten (s.data.toList.drop i) with ⟨ha, hbl⟩ | ⟨t, ha, ht, hbl⟩
          · have h1 := ih 0 (by omega) s.size (by omega)
            have e2 : i + Lex.blankLen false (s.data.toList.drop i) = s.size + Lex.blankLen false (s.data.toList.drop s.size) := by
              rw [e, hbl, hlen, List.drop_of_length_le (by simp)]; simp [Lex.blankLen]; omega
            rw [e2]
            refine Ev.step (fun k => ?_) h1
            simp only [lex_blank.j1]
            rw [if_neg (by simp), if_pos (by rw [h35]; rfl), if_pos (by omega), if_pos (by omega), hx, ha]
            simp only [Option.bind_some]
            rw [if_neg (by omega)]
          · have h1 := ih (m - t) (by omega) (i + t) (by omega)
            have e2 : i + Lex.blankLen false (s.data.toList.drop i) = i + t + Lex.blankLen false (s.data.toList.drop (i + t)) := by
              rw [e, hbl, List.drop_drop]; omega
            rw [e2]
            refine Ev.step (fun k => ?_) h1
            simp only [lex_blank.j1]
            rw [if_neg (by simp), if_pos (by rw [h35]; rfl), if_pos (by omega), if_pos (by omega), hx, ha]
            simp only [Option.bind_some]
            rw [if_pos (by omega), wrap_of (by omega) (by omega)]
            rfl
        · have e : Lex.blankLen false (s.data.toList.drop i) = 0 := by rw [hd]; simp [Lex.blankLen, hbb, h35]
          rw [e]
          refine Ev.step (f := fun _ => some ((i + 0 : Nat) : Int)) (fun k => ?_) (Ev.now _)
          simp only [lex_blank.j1]
          rw [if_neg (by simp), if_neg (fun h => h35 (UInt8.toNat_inj.1 (by have h35' : (35 : UInt8).toNat = 35 := rfl; omega)))]
          rfl
    refine Ev.step (fun k => ?_) (hj _ rfl)
    simp only [lex_blank.l0]
    rw [if_pos (by omega), if_pos (by omega), hb]
    have q : ∀ (n : Nat) (u : UInt8), u.toNat = n → (((c.toNat : Int) == (n : Int)) = (c == u)) := by
      intro n u hu
      rw [Bool.eq_iff_iff, beq_iff_eq, beq_iff_eq, ← UInt8.toNat_inj, hu]
      omega
    have q1 := q 32 32 rfl
    have q2 := q 9 9 rfl
    have q3 := q 10 10 rfl
    have q4 := q 13 13 rfl
    have r1 : ((c.toNat : Int) = 32) = (c = 32) := by have := q1; rw [Bool.eq_iff_iff, beq_iff_eq, beq_iff_eq] at this; exact propext this
    have r2 : ((c.toNat : Int) = 9) = (c = 9) := by have := q2; rw [Bool.eq_iff_iff, beq_iff_eq, beq_iff_eq] at this; exact propext this
    have r3 : ((c.toNat : Int) = 10) = (c = 10) := by have := q3; rw [Bool.eq_iff_iff, beq_iff_eq, beq_iff_eq] at this; exact propext this
    have q1' : ((c.toNat : Int) == 32) = (c == 32) := q1
    have q2' : ((c.toNat : Int) == 9) = (c == 9) := q2
    have q3' : ((c.toNat : Int) == 10) = (c == 10) := q3
    have q4' : ((c.toNat : Int) == 13) = (c == 13) := q4
    rw [q1', q2', q3', q4']
    simp only [r1, r2, r3]
    unfold Lex.isBlank
    by_cases d1 : c = 32
    · simp [d1]
    · by_cases d2 : c = 9
      · simp [d2]
      · by_cases d3 : c = 10
        · simp [d3]
        · rw [if_neg d1, if_neg d2, if_neg d3]
          congr 1
          simp [d1, d2, d3]
  · have hb : s.data.toList.drop i = [] := List.drop_of_length_le (by simp; omega)
    rw [hb]
    refine Ev.step (f := fun _ => some ((i + 0 : Nat) : Int)) (fun k => ?_) (by simp only [Lex.blankLen]; exact Ev.now _)
    simp only [lex_blank.l0]
    rw [if_neg (by omega)]
    rfl
theorem blank_ev (s : ByteArray) (hs : s.size ≤ 140737488355328) : Ev (fun k => lex_blank.f k s) (Lex.blankLen false s.data.toList : Int) := by
  have := blank_l s hs s.size 0 (by omega)
  simp only [List.drop_zero, Nat.zero_add] at this
  exact this
theorem blank_any (s : ByteArray) (w : World) (hs : s.size ≤ 140737488355328) : Calls Try.prog 15 #[.string s] w fun e w' => e = .returned (.int .i64 (Lex.blankLen false s.data.toList : Int)) ∧ Drawn0 w w' := by
  obtain ⟨k, hk⟩ := (blank_ev s hs).rounds
  exact lex_blank.calls k s _ w hk
end Go.Proofs.Ytepofemoodaknaa.Q
