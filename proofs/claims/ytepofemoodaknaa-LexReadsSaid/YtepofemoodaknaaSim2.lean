/- The reference's words of a text are the words as told: its loops go through the very same places. -/
import Derived.Test.YtepofemoodaknaaSim1
import Derived.Test.YtepofemoodaknaaQx20
namespace Go.Proofs.Ytepofemoodaknaa.Q
open Go.RowKit Go.Proofs.YtepofemoodaknaaW.PrintWords Go.Proofs.YtepofemoodaknaaW.PrintLast Go.Proofs.YtepofemoodaknaaW.PrintMore Go.Proofs.Ytepofemoodaknaa
namespace F
theorem toksA_fuel (s : ByteArray) : ∀ (f i : Nat) (out : List S32), s.size < f + i → toksA s f i out = toksA s (f + 1) i out
  | 0, i, out, h => by
    simp only [toksA]
    rw [if_neg (by omega)]
  | f + 1, i, out, h => by
    rw [toksA, toksA]
    by_cases hlt : i < s.size
    · rw [if_pos hlt, if_pos hlt]
      rcases ht : Lex.tok (s.data.toList.drop i) with _ | ⟨k, n, v⟩
      · rfl
      · have hp := tok_pos ht
        simp only
        rw [toksA_fuel s f _ _ (by omega)]
    · rw [if_neg hlt, if_neg hlt]
theorem toksA_more (s : ByteArray) (i : Nat) (out : List S32) : ∀ (d f : Nat), s.size < f + i → toksA s f i out = toksA s (f + d) i out
  | 0, f, _ => rfl
  | d + 1, f, h => by rw [toksA_more s i out d f h, toksA_fuel s (f + d) i out (by omega)]; rfl
def Tk (s : ByteArray) (i : Nat) (out : List S32) : List S32 × Int × Int := toksA s (s.size + 1) i out
theorem tk_end {s : ByteArray} {i : Nat} {out : List S32} (h : s.size ≤ i) : Tk s i out = (out, 0, 0) := by
  unfold Tk
  simp only [toksA]
  rw [if_neg (by omega)]
theorem tk_none {s : ByteArray} {i : Nat} {out : List S32} (hi : i < s.size) (h : Lex.tok (s.data.toList.drop i) = none) : Tk s i out = ([], 10, (i : Int)) := by
  unfold Tk
  simp only [toksA]
  rw [if_pos hi, h]
theorem tk_full {s : ByteArray} {i n : Nat} {k v : Int} {out : List S32} (h : Lex.tok (s.data.toList.drop i) = some (k, n, v)) (ho : out.length = 1500) : Tk s i out = ([], 15, (i : Int)) := by
  have hp := tok_pos h
  unfold Tk
  simp only [toksA]
  rw [if_pos (by omega), h]
  simp only [if_pos ho]
theorem tk_some {s : ByteArray} {i n : Nat} {k v : Int} {out : List S32} (h : Lex.tok (s.data.toList.drop i) = some (k, n, v)) (ho : ¬ out.length = 1500) :
    Tk s i out = Tk s (start s (i + n)) (out ++ [⟨k, s.extract i (i + n), v, (i : Int)⟩]) := by
  have hp := tok_pos h
  have hg := start_ge s (i + n)
  unfold Tk
  rw [toksA]
  rw [if_pos (by omega), h]
  simp only [if_neg ho]
  rw [text_eq]
  exact toksA_more s _ _ 1 s.size (by unfold start at hg; omega)

section
variable (s : ByteArray)
/-- What stands behind a word that was found. -/
theorem emit (hs : s.size ≤ 8192) (i n : Nat) (k v : Int) (out : List S32) (ho : out.length ≤ 1500) (h : Lex.tok (s.data.toList.drop i) = some (k, n, v)) (q : Int) (hq : q = ((i + n : Nat) : Int))
    (IH : ¬ out.length = 1500 → Ev (fun K => selvageref04_Tokens.l0 K s (out ++ [⟨k, s.extract i (i + n), v, (i : Int)⟩]) ((i + n : Nat) : Int)) (Tk s (start s (i + n)) (out ++ [⟨k, s.extract i (i + n), v, (i : Int)⟩]))) :
    Ev (fun K => if (out.length : Int) ≥ 1500 then (some (([] : List S32), (15 : Int), (i : Int))) else (if 0 ≤ (i : Int) then (if (i : Int) ≤ q then (if q ≤ (s.size : Int) then (if out.length < 3518437208883 then (selvageref04_Tokens.l0 K s (out ++ [(⟨k, s.extract ((i : Int)).toNat q.toNat, v, (i : Int)⟩ : S32)]) q) else none) else none) else none) else none)) (Tk s i out) := by
  have hp := tok_pos h
  subst hq
  by_cases hf : out.length = 1500
  · have h1 : (out.length : Int) ≥ 1500 := by omega
    simp only [if_pos h1]
    rw [tk_full h hf]
    exact Ev.now _
  · have h1 : ¬ (out.length : Int) ≥ 1500 := by omega
    have h2 : 0 ≤ (i : Int) := by omega
    have h3 : (i : Int) ≤ ((i + n : Nat) : Int) := by omega
    have h4 : ((i + n : Nat) : Int) ≤ (s.size : Int) := by omega
    have h5 : out.length < 3518437208883 := by omega
    have e1 : ((i : Int)).toNat = i := by omega
    have e2 : (((i + n : Nat) : Int)).toNat = i + n := by omega
    simp only [if_neg h1, if_pos h2, if_pos h3, if_pos h4, if_pos h5]
    rw [e1, e2, tk_some h hf]
    exact IH hf
theorem drop_cons {i : Nat} (hi : i < s.size) : ∃ c, s.data.toList.drop i = c :: s.data.toList.drop (i + 1) ∧ bt s (i : Int) = (c.toNat : Int) :=
  ⟨s.data.toList[i]'(by simpa using hi), List.drop_eq_getElem_cons (by simpa using hi), bt_of hi⟩
theorem wordLen_cons (c : UInt8) (l : List UInt8) : Lex.wordLen (c :: l) = if isW c = true then Lex.wordLen l + 1 else 0 := by
  unfold Lex.wordLen
  rw [List.takeWhile_cons]
  have : (Lex.isLet c || Lex.isDig c) = isW c := rfl
  rw [this]
  split <;> simp
theorem digLen_cons (c : UInt8) (l : List UInt8) : Lex.digLen (c :: l) = if Lex.isDig c = true then Lex.digLen l + 1 else 0 := by
  unfold Lex.digLen
  rw [List.takeWhile_cons]
  split <;> simp
/-- The name's end is found. -/
theorem word_loop (hs : s.size ≤ 8192) (out : List S32) (i : Nat) (R : List S32 × Int × Int) : ∀ (m p : Nat), Lex.wordLen (s.data.toList.drop p) = m → p ≤ s.size →
    Ev (fun K => selvageref04_Tokens.j4 K s out ((p + m : Nat) : Int) (i : Int) 0 (⟨#[]⟩ : ByteArray) 0 (i : Int)) R → Ev (fun K => selvageref04_Tokens.l2 K s out (p : Int) (i : Int) 0 (⟨#[]⟩ : ByteArray) 0 (i : Int)) R
  | 0, p, hm, hp, h => by
    by_cases hlt : p < s.size
    · obtain ⟨c, hd, hb⟩ := drop_cons s hlt
      rw [hd, wordLen_cons] at hm
      by_cases hW : isW c = true
      · rw [if_pos hW] at hm; omega
      · have hLD : Lex.isLet c = false ∧ Lex.isDig c = false := by
          have := Bool.eq_false_iff.2 hW
          simpa [isW] using this
        refine Ev.step (fun K => ?_) h
        simp only [selvageref04_Tokens.l2]
        rw [if_pos (by omega), if_pos (by omega), hb, small_f, rdigit_f, hLD.1, hLD.2]
        simp
    · refine Ev.step (fun K => ?_) h
      simp only [selvageref04_Tokens.l2]
      rw [if_neg (by omega)]
      rfl
  | m + 1, p, hm, hp, h => by
    by_cases hlt : p < s.size
    · obtain ⟨c, hd, hb⟩ := drop_cons s hlt
      rw [hd, wordLen_cons] at hm
      by_cases hW : isW c = true
      · rw [if_pos hW] at hm
        have ih := word_loop hs out i R m (p + 1) (by omega) (by omega) (by rw [show p + 1 + m = p + (m + 1) by omega]; exact h)
        refine Ev.step (fun K => ?_) ih
        simp only [selvageref04_Tokens.l2]
        rw [if_pos (by omega), if_pos (by omega), hb, small_f, rdigit_f, wrap_of (by omega) (by omega)]
        simp only [Option.bind_some]
        by_cases hL : Lex.isLet c = true
        · rw [if_pos hL]; rfl
        · rw [if_neg hL, if_pos (by simpa [isW, hL] using hW)]; rfl
      · rw [if_neg hW] at hm; omega
    · rw [List.drop_of_length_le (by simp; omega)] at hm
      exact absurd hm (by simp [Lex.wordLen])
/-- A name, and what it is. -/
theorem word_case (hs : s.size ≤ 8192) (out : List S32) (ho : out.length ≤ 1500) (i : Nat) (hi : i < s.size) (c : UInt8) (hd : s.data.toList.drop i = c :: s.data.toList.drop (i + 1)) (hL : Lex.isLet c = true)
    (IH : ∀ (p : Nat) (out' : List S32), i < p → p ≤ s.size → out'.length ≤ 1500 → Ev (fun K => selvageref04_Tokens.l0 K s out' (p : Int)) (Tk s (start s p) out')) :
    Ev (fun K => selvageref04_Tokens.l2 K s out (i : Int) (i : Int) 0 (⟨#[]⟩ : ByteArray) 0 (i : Int)) (Tk s i out) := by
  have hhead : ((s.data.toList.drop i).head?.map Lex.isLet).getD false = true := by rw [hd]; simpa using hL
  have hle : Lex.wordLen (s.data.toList.drop i) ≤ s.size - i := by have := Lex.wordLen_le (s.data.toList.drop i); rw [List.length_drop, Lex.toList_length] at this; exact this
  have hpos := Lex.wordLen_pos hhead
  refine word_loop s hs out i _ _ i rfl (by omega) ?_
  have hwt : (s.data.toList.drop i).take (Lex.wordLen (s.data.toList.drop i)) = (s.data.toList.drop i).takeWhile isW := tw_take isW _
  generalize hn : Lex.wordLen (s.data.toList.drop i) = n at hle hpos hwt ⊢
  have hex : (s.extract i (i + n)).data.toList = (s.data.toList.drop i).take n := by
    rw [Lex.extract_list, List.drop_take]; congr 1; omega
  have hkey := rkey_ev (s.extract i (i + n)) (by simp; omega) (by simp; omega) (by
    rw [hex, hwt]
    intro x hx
    exact isW_ne x (List.all_eq_true.1 (List.all_takeWhile (p := isW) (l := s.data.toList.drop i)) x hx))
  rw [hex] at hkey
  have tok : Lex.tok (s.data.toList.drop i) = if 16 < n then none else some (if Lex.isKey ((s.data.toList.drop i).take n) then 2 else 1, n, 0) := by
    unfold Lex.tok
    rw [if_pos hhead, hn]
  have e1 : ((i : Int)).toNat = i := by omega
  have e2 : (((i + n : Nat) : Int)).toNat = i + n := by omega
  have j5 : ∀ kd : Int, kd = (if Lex.isKey ((s.data.toList.drop i).take n) = true then 2 else 1) → Ev (fun K => selvageref04_Tokens.j5 K s out ((i + n : Nat) : Int) (i : Int) kd (⟨#[]⟩ : ByteArray) 0 (i : Int)) (Tk s i out) := by
    intro kd hkd
    by_cases h16 : 16 < n
    · rw [if_pos h16] at tok
      rw [tk_none hi tok]
      refine Ev.step (f := fun _ => some (([] : List S32), (10 : Int), (i : Int))) (fun K => ?_) (Ev.now _)
      simp only [selvageref04_Tokens.j5]
      rw [wrap_of (by omega) (by omega), if_pos (by omega)]
    · rw [if_neg h16] at tok
      rw [← hkd] at tok
      refine Ev.step (fun K => ?_) (emit s hs i n kd 0 out ho tok _ rfl (fun hf => IH (i + n) _ (by omega) (by omega) (by simp; omega)))
      simp only [selvageref04_Tokens.j5]
      rw [wrap_of (by omega) (by omega), if_neg (by omega)]
  have g0 : (0 : Int) ≤ (i : Int) := by omega
  have g1 : (i : Int) ≤ ((i + n : Nat) : Int) := by omega
  have g2 : ((i + n : Nat) : Int) ≤ (s.size : Int) := by omega
  refine Ev.step (f := fun K => (selvageref04_Key.f K (s.extract i (i + n))).bind fun t125 => (if t125 = true then (selvageref04_Tokens.j5 K s out ((i + n : Nat) : Int) (i : Int) 2 (⟨#[]⟩ : ByteArray) 0 (i : Int)) else (selvageref04_Tokens.j5 K s out ((i + n : Nat) : Int) (i : Int) 1 (⟨#[]⟩ : ByteArray) 0 (i : Int)))) (fun K => ?_) ?_
  · simp only [selvageref04_Tokens.j4]
    rw [if_pos g0, if_pos g1, if_pos g2, e1, e2]
  · refine Ev.bind hkey ?_
    by_cases hk : Lex.isKey ((s.data.toList.drop i).take n) = true
    · simp only [if_pos hk]
      exact j5 2 (by rw [if_pos hk])
    · simp only [if_neg hk]
      exact j5 1 (by rw [if_neg hk])
end
end F
end Go.Proofs.Ytepofemoodaknaa.Q
