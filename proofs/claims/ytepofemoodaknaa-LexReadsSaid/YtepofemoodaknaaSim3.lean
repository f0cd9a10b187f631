/- The reference's words of a text: numbers, signs, the whole. -/
import Derived.Test.YtepofemoodaknaaSim2
namespace Go.Proofs.Ytepofemoodaknaa.Q
open Go.RowKit Go.Proofs.YtepofemoodaknaaW.PrintWords Go.Proofs.YtepofemoodaknaaW.PrintLast Go.Proofs.YtepofemoodaknaaW.PrintMore Go.Proofs.Ytepofemoodaknaa
namespace F
section
variable (s : ByteArray)
theorem dig_loop (hs : s.size ≤ 8192) (out : List S32) (i : Nat) (hi : i ≤ s.size) (c : Int) (R : List S32 × Int × Int) (l : List UInt8) (hl : l = s.data.toList.drop i)
    (h : Ev (fun K => selvageref04_Tokens.j7 K s out ((i + Lex.digLen l : Nat) : Int) c (i : Int) false 3 (⟨#[]⟩ : ByteArray) (Lex.numVal (l.take (Lex.digLen l))) (i : Int)) R) :
    ∀ (m j : Nat), Lex.digLen l = j + m → Ev (fun K => selvageref04_Tokens.l3 K s out ((i + j : Nat) : Int) c (i : Int) 3 (⟨#[]⟩ : ByteArray) (Lex.numVal (l.take j)) (i : Int)) R
  | 0, j, hm => by
    have hle : Lex.digLen l ≤ s.size - i := by have := Lex.digLen_le l; rw [hl, List.length_drop, Lex.toList_length] at this; rw [hl]; exact this
    have hj : j = Lex.digLen l := by omega
    subst hj
    by_cases hlt : i + Lex.digLen l < s.size
    · obtain ⟨x, hd, hb⟩ := drop_cons s hlt
      have hx : Lex.isDig x = false := by
        have h1 := Lex.digLen_end l (by rw [hl, List.length_drop, Lex.toList_length]; rw [← hl]; omega)
        have h2 : l.drop (Lex.digLen l) = x :: s.data.toList.drop (i + Lex.digLen l + 1) := by rw [← hd, hl, List.drop_drop]
        have h3 : l[Lex.digLen l]'(by rw [hl, List.length_drop, Lex.toList_length]; rw [← hl]; omega) = x := by
          have h4 := List.drop_eq_getElem_cons (l := l) (i := Lex.digLen l) (by rw [hl, List.length_drop, Lex.toList_length]; rw [← hl]; omega)
          rw [h2] at h4
          exact (List.cons.inj h4).1.symm
        rw [h3] at h1
        exact h1
      refine Ev.step (fun K => ?_) h
      simp only [selvageref04_Tokens.l3]
      rw [if_pos (by omega), if_pos (by omega), hb, rdigit_f, hx]
      rfl
    · refine Ev.step (fun K => ?_) h
      simp only [selvageref04_Tokens.l3]
      rw [if_neg (by omega)]
  | m + 1, j, hm => by
    have hle : Lex.digLen l ≤ s.size - i := by have := Lex.digLen_le l; rw [hl, List.length_drop, Lex.toList_length] at this; rw [hl]; exact this
    have hlt : i + j < s.size := by omega
    have ih := dig_loop hs out i hi c R l hl h m (j + 1) (by omega)
    obtain ⟨x, hd, hb⟩ := drop_cons s hlt
    obtain ⟨y, hy, hyd⟩ := Lex.digLen_get l j (by omega)
    have hxy : y = x := by
      have h2 : l.drop j = x :: s.data.toList.drop (i + j + 1) := by rw [← hd, hl, List.drop_drop]
      have h3 : l[j]? = some x := by
        rw [← List.head?_drop, h2]; rfl
      rw [hy] at h3
      exact Option.some.inj h3
    subst hxy
    have hts : l.take (j + 1) = l.take j ++ [y] := by
      have := List.take_add_one (l := l) (i := j)
      rw [this, hy]; rfl
    obtain ⟨hv1, hv2, hv3⟩ := Lex.numVal_bound j (l.take j) (by rw [List.length_take]; have := Lex.digLen_le l; omega) (Lex.digits_all _ _ (by omega))
    clear hv3
    have hy2 := hyd
    rw [isDig_int, Bool.and_eq_true, decide_eq_true_eq, decide_eq_true_eq] at hy2
    have hjl : (l.take j).length = j := by rw [List.length_take]; have := Lex.digLen_le l; omega
    have h7 : Ev (fun K => selvageref04_Tokens.j7 K s out ((i + j : Nat) : Int) c (i : Int) true 3 (⟨#[]⟩ : ByteArray) (Lex.numVal (l.take j)) (i : Int)) R := by
      refine Ev.step (fun K => ?_) ih
      simp only [selvageref04_Tokens.j7]
      rw [if_pos trivial, wrap_of (x := ((i + j : Nat) : Int) - (i : Int)) (by omega) (by omega)]
      have w1 : wrap64 (((i + j : Nat) : Int) + 1) = ((i + (j + 1) : Nat) : Int) := by rw [wrap_of (by omega) (by omega)]; omega
      by_cases h9 : j < 9
      · rw [if_pos (by omega), if_pos (Int.natCast_nonneg _), if_pos (Int.ofNat_lt.2 hlt), hb, w1, hts, Lex.numVal_snoc _ _ (by omega)]
        have e : wrap64 (wrap64 (wrap64 (10 * Lex.numVal (l.take j)) + wrap64 (y.toNat : Int)) - 48) = 10 * Lex.numVal (l.take j) + ((y.toNat : Int) - 48) := by
          rw [wrap_of (x := 10 * Lex.numVal (l.take j)) (by omega) (by omega), wrap_of (x := (y.toNat : Int)) (by omega) (by omega), wrap_of (x := 10 * Lex.numVal (l.take j) + (y.toNat : Int)) (by omega) (by omega), wrap_of (by omega) (by omega)]
          omega
        rw [e]
      · rw [if_neg (by omega), w1, hts, Lex.numVal_long _ _ (by omega)]
    refine Ev.step (fun K => ?_) h7
    simp only [selvageref04_Tokens.l3]
    rw [if_pos (by omega), if_pos (by omega), hb, rdigit_f, hyd]
    rfl
def hd_ (p : Nat) : Bool := ((s.data.toList.drop p).head?.map Lex.isLet).getD false
theorem num_case (hs : s.size ≤ 8192) (out : List S32) (ho : out.length ≤ 1500) (i : Nat) (hi : i < s.size) (c : UInt8) (hd : s.data.toList.drop i = c :: s.data.toList.drop (i + 1)) (hL : Lex.isLet c = false) (hD : Lex.isDig c = true)
    (IH : ∀ (p : Nat) (out' : List S32), i < p → p ≤ s.size → out'.length ≤ 1500 → Ev (fun K => selvageref04_Tokens.l0 K s out' (p : Int)) (Tk s (start s p) out')) :
    Ev (fun K => selvageref04_Tokens.l3 K s out (i : Int) (c.toNat : Int) (i : Int) 3 (⟨#[]⟩ : ByteArray) 0 (i : Int)) (Tk s i out) := by
  have hh1 : ((s.data.toList.drop i).head?.map Lex.isLet).getD false = false := by rw [hd]; simpa using hL
  have hh2 : ((s.data.toList.drop i).head?.map Lex.isDig).getD false = true := by rw [hd]; simpa using hD
  have hle : Lex.digLen (s.data.toList.drop i) ≤ s.size - i := by have := Lex.digLen_le (s.data.toList.drop i); rw [List.length_drop, Lex.toList_length] at this; exact this
  have hpos := Lex.digLen_pos hh2
  have tok : Lex.tok (s.data.toList.drop i) = if Lex.numBad (s.data.toList.drop i) then none else some (3, Lex.digLen (s.data.toList.drop i), Lex.numVal ((s.data.toList.drop i).take (Lex.digLen (s.data.toList.drop i)))) := by
    unfold Lex.tok
    rw [if_neg (by rw [hh1]; simp), if_pos hh2]
  have hhead : ((s.data.toList.drop i).head? == some 48) = (c == 48) := by rw [hd]; simp
  have nb : Lex.numBad (s.data.toList.drop i) = (decide (9 < Lex.digLen (s.data.toList.drop i)) || (decide (1 < Lex.digLen (s.data.toList.drop i)) && (c == 48)) || hd_ s (i + Lex.digLen (s.data.toList.drop i))) := by
    unfold Lex.numBad
    rw [hhead]
    unfold hd_
    rw [List.drop_drop]
  have base := dig_loop s hs out i (by omega) (c.toNat : Int) (Tk s i out) (s.data.toList.drop i) rfl ?_ (Lex.digLen (s.data.toList.drop i)) 0 (by omega)
  · exact base
  · generalize hn : Lex.digLen (s.data.toList.drop i) = n at hle hpos tok nb ⊢
    have j8 : ∀ b, Lex.numBad (s.data.toList.drop i) = b → Ev (fun K => selvageref04_Tokens.j8 K s out ((i + n : Nat) : Int) (i : Int) b 3 (⟨#[]⟩ : ByteArray) (Lex.numVal ((s.data.toList.drop i).take n)) (i : Int)) (Tk s i out) := by
      intro b hb
      rw [hb] at tok
      cases b with
      | true =>
        rw [if_pos rfl] at tok
        rw [tk_none hi tok]
        refine Ev.step (f := fun _ => some (([] : List S32), (10 : Int), (i : Int))) (fun K => ?_) (Ev.now _)
        simp only [selvageref04_Tokens.j8]
        rw [if_pos trivial]
      | false =>
        rw [if_neg (by simp)] at tok
        refine Ev.step (fun K => ?_) (emit s hs i n 3 _ out ho tok _ rfl (fun hf => IH (i + n) _ (by omega) (by omega) (by simp; omega)))
        simp only [selvageref04_Tokens.j8]
        rw [if_neg (by simp)]
    have e48 := u8_int c 48 48 rfl
    have next : (9 < n → False) → (c = 48 → ¬ 1 < n) → ∀ K, (if ((i + n : Nat) : Int) < (s.size : Int) then (if 0 ≤ ((i + n : Nat) : Int) then ((selvageref04_Small.f (bt s ((i + n : Nat) : Int))).bind fun t => (selvageref04_Tokens.j8 K s out ((i + n : Nat) : Int) (i : Int) t 3 (⟨#[]⟩ : ByteArray) (Lex.numVal ((s.data.toList.drop i).take n)) (i : Int))) else none) else (selvageref04_Tokens.j8 K s out ((i + n : Nat) : Int) (i : Int) false 3 (⟨#[]⟩ : ByteArray) (Lex.numVal ((s.data.toList.drop i).take n)) (i : Int))) = selvageref04_Tokens.j8 K s out ((i + n : Nat) : Int) (i : Int) (Lex.numBad (s.data.toList.drop i)) 3 (⟨#[]⟩ : ByteArray) (Lex.numVal ((s.data.toList.drop i).take n)) (i : Int) := by
      intro h9 h48 K
      have hb2 : Lex.numBad (s.data.toList.drop i) = hd_ s (i + n) := by
        rw [nb, decide_eq_false (fun h => h9 h)]
        by_cases h1 : c = 48
        · rw [decide_eq_false (h48 h1)]; simp
        · rw [beq_eq_false_iff_ne.2 h1]; simp
      rw [hb2]
      by_cases hlt : i + n < s.size
      · obtain ⟨x, hdx, hbx⟩ := drop_cons s hlt
        rw [if_pos (by omega), if_pos (by omega), hbx, small_f]
        simp only [Option.bind_some]
        have : hd_ s (i + n) = Lex.isLet x := by unfold hd_; rw [hdx]; rfl
        rw [this]
      · rw [if_neg (by omega)]
        have : hd_ s (i + n) = false := by unfold hd_; rw [List.drop_of_length_le (by simp; omega)]; rfl
        rw [this]
    refine Ev.step (fun K => ?_) (j8 _ rfl)
    simp only [selvageref04_Tokens.j7]
    rw [if_neg (by simp), wrap_of (x := ((i + n : Nat) : Int) - (i : Int)) (by omega) (by omega)]
    by_cases h9 : 9 < n
    · rw [if_pos (by omega)]
      have : Lex.numBad (s.data.toList.drop i) = true := by rw [nb, decide_eq_true h9]; simp
      rw [this]
    · rw [if_neg (by omega)]
      by_cases h48 : c = 48
      · rw [if_pos (show (c.toNat : Int) = 48 by rw [show (48 : Int) = ((48 : Nat) : Int) from rfl, e48]; exact h48)]
        by_cases h1 : 1 < n
        · rw [if_pos (by omega)]
          have : Lex.numBad (s.data.toList.drop i) = true := by rw [nb, decide_eq_true h1, beq_iff_eq.2 h48]; simp
          rw [this]
        · rw [if_neg (by omega)]
          exact next (fun h => h9 h) (fun _ => h1) K
      · rw [if_neg (show ¬ (c.toNat : Int) = 48 by rw [show (48 : Int) = ((48 : Nat) : Int) from rfl, e48]; exact h48)]
        exact next (fun h => h9 h) (fun h => absurd h h48) K
end
theorem ite_some (p : Prop) [Decidable p] (b : Bool) : (if p then some true else some b) = some (decide p || b) := by
  by_cases h : p
  · rw [if_pos h, decide_eq_true h]; rfl
  · rw [if_neg h, decide_eq_false h]; rfl
theorem single_f (c : UInt8) : selvageref04_single.f (c.toNat : Int) = some (Lex.singles.contains c) := by
  unfold selvageref04_single.f Lex.singles
  have e := u8_int c
  have e1 : ((c.toNat : Int) = 40) = (c = 40) := e 40 40 rfl
  have e2 : ((c.toNat : Int) = 41) = (c = 41) := e 41 41 rfl
  have e3 : ((c.toNat : Int) = 93) = (c = 93) := e 93 93 rfl
  have e4 : ((c.toNat : Int) = 59) = (c = 59) := e 59 59 rfl
  have e5 : ((c.toNat : Int) = 44) = (c = 44) := e 44 44 rfl
  have e6 : ((c.toNat : Int) = 33) = (c = 33) := e 33 33 rfl
  have e7 : ((c.toNat : Int) = 124) = (c = 124) := e 124 124 rfl
  have e8 : ((c.toNat : Int) = 61) = (c = 61) := e 61 61 rfl
  have e9 : ((c.toNat : Int) = 60) = (c = 60) := e 60 60 rfl
  have e10 : ((c.toNat : Int) = 43) = (c = 43) := e 43 43 rfl
  have e11 : ((c.toNat : Int) = 45) = (c = 45) := e 45 45 rfl
  have e12 : ((c.toNat : Int) = 42) = (c = 42) := e 42 42 rfl
  have e13 : ((c.toNat : Int) = 47) = (c = 47) := e 47 47 rfl
  simp only [e1, e2, e3, e4, e5, e6, e7, e8, e9, e10, e11, e12, e13, ite_some]
  congr 1
theorem double_f (a b : UInt8) : selvageref04_double.f (a.toNat : Int) (b.toNat : Int) = some (Lex.isDouble [a, b]) := by
  have e1 : ((a.toNat : Int) = 58) = (a = 58) := u8_int a 58 58 rfl
  have e2 : ((a.toNat : Int) = 60) = (a = 60) := u8_int a 60 60 rfl
  have e3 : ((a.toNat : Int) = 45) = (a = 45) := u8_int a 45 45 rfl
  have e4 : ((a.toNat : Int) = 46) = (a = 46) := u8_int a 46 46 rfl
  have f1 : ((b.toNat : Int) = 61) = (b = 61) := u8_int b 61 61 rfl
  have f2 : ((b.toNat : Int) = 45) = (b = 45) := u8_int b 45 45 rfl
  have f3 : ((b.toNat : Int) = 62) = (b = 62) := u8_int b 62 62 rfl
  have f4 : ((b.toNat : Int) = 91) = (b = 91) := u8_int b 91 91 rfl
  have f5 : ((b.toNat : Int) == 91) = (b == 91) := by rw [Bool.eq_iff_iff, beq_iff_eq, beq_iff_eq, f4]
  unfold selvageref04_double.f Lex.isDouble
  simp only [e1, e2, e3, e4, f1, f2, f3, f5]
  by_cases a1 : a = 58
  · subst a1; by_cases b1 : b = 61 <;> simp [b1]
  · by_cases a2 : a = 60
    · subst a2; by_cases b1 : b = 45 <;> simp [b1]
    · by_cases a3 : a = 45
      · subst a3; by_cases b1 : b = 62 <;> simp [b1]
      · by_cases a4 : a = 46
        · subst a4; simp
        · simp [a1, a2, a3, a4]
section
variable (s : ByteArray)
theorem sign_case (hs : s.size ≤ 8192) (out : List S32) (ho : out.length ≤ 1500) (i : Nat) (hi : i < s.size) (c : UInt8) (hd : s.data.toList.drop i = c :: s.data.toList.drop (i + 1)) (hL : Lex.isLet c = false) (hD : Lex.isDig c = false)
    (IH : ∀ (p : Nat) (out' : List S32), i < p → p ≤ s.size → out'.length ≤ 1500 → Ev (fun K => selvageref04_Tokens.l0 K s out' (p : Int)) (Tk s (start s p) out')) :
    Ev (fun K => (if (wrap64 ((i : Int) + 1)) < (s.size : Int) then (if 0 ≤ (wrap64 ((i : Int) + 1)) then ((selvageref04_double.f (c.toNat : Int) (bt s (wrap64 ((i : Int) + 1)))).bind fun t136 => (selvageref04_Tokens.j9 K s out (i : Int) (c.toNat : Int) (i : Int) t136 0 (⟨#[]⟩ : ByteArray) 0 (i : Int))) else (none)) else (selvageref04_Tokens.j9 K s out (i : Int) (c.toNat : Int) (i : Int) false 0 (⟨#[]⟩ : ByteArray) 0 (i : Int)))) (Tk s i out) := by
  have hh1 : ((s.data.toList.drop i).head?.map Lex.isLet).getD false = false := by rw [hd]; simpa using hL
  have hh2 : ((s.data.toList.drop i).head?.map Lex.isDig).getD false = false := by rw [hd]; simpa using hD
  have tok : Lex.tok (s.data.toList.drop i) = if Lex.signLen (s.data.toList.drop i) = 0 then none else some (4, Lex.signLen (s.data.toList.drop i), 0) := by
    unfold Lex.tok
    rw [if_neg (by rw [hh1]; simp), if_neg (by rw [hh2]; simp)]
  have sl : Lex.signLen (s.data.toList.drop i) = if Lex.isDouble ((s.data.toList.drop i).take 2) then 2 else if Lex.singles.contains c then 1 else 0 := by
    unfold Lex.signLen
    split
    · rfl
    · rw [hd]
  have w1 : wrap64 ((i : Int) + 1) = ((i + 1 : Nat) : Int) := by rw [wrap_of (by omega) (by omega)]; rfl
  have w2 : wrap64 ((i : Int) + 2) = ((i + 2 : Nat) : Int) := by rw [wrap_of (by omega) (by omega)]; rfl
  have j9 : ∀ b, Lex.isDouble ((s.data.toList.drop i).take 2) = b → Ev (fun K => selvageref04_Tokens.j9 K s out (i : Int) (c.toNat : Int) (i : Int) b 0 (⟨#[]⟩ : ByteArray) 0 (i : Int)) (Tk s i out) := by
    intro b hb
    rw [hb] at sl
    cases b with
    | true =>
      rw [if_pos rfl] at sl
      rw [sl, if_neg (by omega)] at tok
      have hp := tok_pos tok
      refine Ev.step (fun K => ?_) (emit s hs i 2 4 0 out ho tok (wrap64 ((i : Int) + 2)) w2 (fun hf => IH (i + 2) _ (by omega) (by omega) (by simp; omega)))
      simp only [selvageref04_Tokens.j9]
      rw [if_pos trivial]
    | false =>
      rw [if_neg (by simp)] at sl
      by_cases hc : Lex.singles.contains c = true
      · rw [if_pos hc] at sl
        rw [sl, if_neg (by omega)] at tok
        have hp := tok_pos tok
        refine Ev.step (fun K => ?_) (emit s hs i 1 4 0 out ho tok (wrap64 ((i : Int) + 1)) w1 (fun hf => IH (i + 1) _ (by omega) (by omega) (by simp; omega)))
        simp only [selvageref04_Tokens.j9]
        rw [if_neg (by simp), single_f, hc, Option.bind_some, if_pos rfl]
      · rw [if_neg hc] at sl
        rw [sl, if_pos rfl] at tok
        rw [tk_none hi tok]
        refine Ev.step (f := fun _ => some (([] : List S32), (10 : Int), (i : Int))) (fun K => ?_) (Ev.now _)
        simp only [selvageref04_Tokens.j9]
        rw [if_neg (by simp), single_f, Bool.eq_false_iff.2 hc, Option.bind_some, if_neg (by simp)]
  rw [w1]
  by_cases hlt : i + 1 < s.size
  · obtain ⟨x, hdx, hbx⟩ := drop_cons s hlt
    refine Ev.congr (fun K => ?_) (j9 _ rfl)
    rw [if_pos (Int.ofNat_lt.2 hlt), if_pos (Int.natCast_nonneg _), hbx, double_f, Option.bind_some, hd, hdx]
    rfl
  · have hdn : Lex.isDouble ((s.data.toList.drop i).take 2) = false := by
      rw [hd, List.drop_of_length_le (by simp; omega)]
      simp [Lex.isDouble]
    refine Ev.congr (fun K => ?_) (j9 false hdn)
    rw [if_neg (fun h => hlt (Int.ofNat_lt.1 h))]
/-- A remark is gone through. -/
theorem rem_loop (hs : s.size ≤ 8192) (out : List S32) (i : Nat) (IH : ∀ (p : Nat), i < p → p ≤ s.size → Ev (fun K => selvageref04_Tokens.l0 K s out (p : Int)) (Tk s (start s p) out)) :
    ∀ (m p : Nat), s.size = p + m → i < p → Ev (fun K => selvageref04_Tokens.l1 K s out (p : Int)) (Tk s (p + Lex.blankLen true (s.data.toList.drop p)) out)
  | 0, p, hm, hp => by
    have h := IH p hp (by omega)
    have hn : s.data.toList.drop p = [] := List.drop_of_length_le (by simp; omega)
    unfold start at h
    rw [hn] at h ⊢
    refine Ev.step (fun K => ?_) h
    simp only [selvageref04_Tokens.l1]
    rw [if_neg (by omega)]
  | m + 1, p, hm, hp => by
    have hlt : p < s.size := by omega
    obtain ⟨x, hd, hb⟩ := drop_cons s hlt
    have e10 : ((x.toNat : Int) = 10) = (x = 10) := u8_int x 10 10 rfl
    by_cases h10 : x = 10
    · have h := IH p hp (by omega)
      unfold start at h
      rw [hd] at h ⊢
      have e : Lex.blankLen true (x :: s.data.toList.drop (p + 1)) = Lex.blankLen false (x :: s.data.toList.drop (p + 1)) := by
        subst h10; simp [Lex.blankLen, Lex.isBlank]
      rw [e]
      refine Ev.step (fun K => ?_) h
      simp only [selvageref04_Tokens.l1]
      rw [if_pos (Int.ofNat_lt.2 hlt), if_pos (Int.natCast_nonneg _), hb, if_pos (by rw [e10]; exact h10)]
    · have ih := rem_loop hs out i IH m (p + 1) (by omega) (by omega)
      have e : p + Lex.blankLen true (s.data.toList.drop p) = p + 1 + Lex.blankLen true (s.data.toList.drop (p + 1)) := by
        rw [hd]
        have : Lex.blankLen true (x :: s.data.toList.drop (p + 1)) = Lex.blankLen true (s.data.toList.drop (p + 1)) + 1 := by
          rw [Lex.blankLen, if_neg (by simp [h10])]
        omega
      rw [e]
      refine Ev.step (fun K => ?_) ih
      simp only [selvageref04_Tokens.l1]
      rw [if_pos (Int.ofNat_lt.2 hlt), if_pos (Int.natCast_nonneg _), hb, if_neg (by rw [e10]; exact h10), wrap_of (by omega) (by omega)]
      rfl
theorem sim (hs : s.size ≤ 8192) : ∀ (m i : Nat) (out : List S32), s.size = i + m → out.length ≤ 1500 → Ev (fun K => selvageref04_Tokens.l0 K s out (i : Int)) (Tk s (start s i) out) := by
  intro m
  induction m using Nat.strongRecOn with
  | _ m ih =>
  intro i out hm ho
  by_cases hlt : i < s.size
  · have IH : ∀ (p : Nat) (out' : List S32), i < p → p ≤ s.size → out'.length ≤ 1500 → Ev (fun K => selvageref04_Tokens.l0 K s out' (p : Int)) (Tk s (start s p) out') :=
      fun p out' h1 h2 h3 => ih (s.size - p) (by omega) p out' (by omega) h3
    obtain ⟨c, hd, hb⟩ := drop_cons s hlt
    have w1 : wrap64 ((i : Int) + 1) = ((i + 1 : Nat) : Int) := by rw [wrap_of (by omega) (by omega)]; rfl
    have e32 : ((c.toNat : Int) = 32) = (c = 32) := u8_int c 32 32 rfl
    have e9 : ((c.toNat : Int) = 9) = (c = 9) := u8_int c 9 9 rfl
    have e10 : ((c.toNat : Int) = 10) = (c = 10) := u8_int c 10 10 rfl
    have e13 : ((c.toNat : Int) = 13) = (c = 13) := u8_int c 13 13 rfl
    have e35 : ((c.toNat : Int) = 35) = (c = 35) := u8_int c 35 35 rfl
    have e13b : ((c.toNat : Int) == 13) = (c == 13) := by rw [Bool.eq_iff_iff, beq_iff_eq, beq_iff_eq, e13]
    have j1 : ∀ b, Lex.isBlank c = b → Ev (fun K => selvageref04_Tokens.j1 K s out (i : Int) (c.toNat : Int) b) (Tk s (start s i) out) := by
      intro b hbb
      cases b with
      | true =>
        have h := IH (i + 1) out (by omega) (by omega) ho
        have e : start s i = start s (i + 1) := by
          unfold start
          rw [hd]
          have : Lex.blankLen false (c :: s.data.toList.drop (i + 1)) = Lex.blankLen false (s.data.toList.drop (i + 1)) + 1 := by rw [Lex.blankLen, if_pos hbb]
          omega
        rw [e]
        refine Ev.step (fun K => ?_) h
        simp only [selvageref04_Tokens.j1]
        rw [if_pos trivial, w1]
      | false =>
        by_cases h35 : c = 35
        · have h := rem_loop s hs out i (fun p h1 h2 => IH p out h1 h2 ho) (s.size - (i + 1)) (i + 1) (by omega) (by omega)
          have e : start s i = i + 1 + Lex.blankLen true (s.data.toList.drop (i + 1)) := by
            unfold start
            rw [hd]
            have : Lex.blankLen false (c :: s.data.toList.drop (i + 1)) = Lex.blankLen true (s.data.toList.drop (i + 1)) + 1 := by rw [Lex.blankLen, if_neg (by rw [hbb]; simp), if_pos (by rw [h35]; rfl)]
            omega
          rw [e]
          have hne : ¬ (c.toNat : Int) = 10 := by rw [e10, h35]; decide
          have h1 : Ev (fun K => selvageref04_Tokens.l1 K s out (i : Int)) (Tk s (i + 1 + Lex.blankLen true (s.data.toList.drop (i + 1))) out) := by
            refine Ev.step (fun K => ?_) h
            simp only [selvageref04_Tokens.l1]
            rw [if_pos (Int.ofNat_lt.2 hlt), if_pos (Int.natCast_nonneg _), hb, if_neg hne, w1]
          refine Ev.step (fun K => ?_) h1
          simp only [selvageref04_Tokens.j1]
          rw [if_neg (by simp), if_pos (by rw [e35]; exact h35)]
        · have e : start s i = i := by
            unfold start
            rw [hd, Lex.blankLen, if_neg (by rw [hbb]; simp), if_neg (by simp [h35])]
            rfl
          rw [e]
          have hn35 : ¬ (c.toNat : Int) = 35 := by rw [e35]; exact h35
          by_cases hL : Lex.isLet c = true
          · refine Ev.step (fun K => ?_) (word_case s hs out ho i hlt c hd hL IH)
            simp only [selvageref04_Tokens.j1]
            rw [if_neg (by simp), if_neg hn35, small_f, hL, Option.bind_some, if_pos rfl]
          · have hL := Bool.eq_false_iff.2 hL
            by_cases hD : Lex.isDig c = true
            · refine Ev.step (fun K => ?_) (num_case s hs out ho i hlt c hd hL hD IH)
              simp only [selvageref04_Tokens.j1]
              rw [if_neg (by simp), if_neg hn35, small_f, hL, Option.bind_some, if_neg (by simp), rdigit_f, hD, Option.bind_some, if_pos rfl]
            · have hD := Bool.eq_false_iff.2 hD
              refine Ev.step (fun K => ?_) (sign_case s hs out ho i hlt c hd hL hD IH)
              simp only [selvageref04_Tokens.j1]
              rw [if_neg (by simp), if_neg hn35, small_f, hL, Option.bind_some, if_neg (by simp), rdigit_f, hD, Option.bind_some, if_neg (by simp)]
    refine Ev.step (fun K => ?_) (j1 _ rfl)
    simp only [selvageref04_Tokens.l0]
    rw [if_pos (Int.ofNat_lt.2 hlt), if_pos (Int.natCast_nonneg _), hb, e13b]
    simp only [e32, e9, e10]
    unfold Lex.isBlank
    by_cases d1 : c = 32
    · simp [d1]
    · by_cases d2 : c = 9
      · simp [d2]
      · by_cases d3 : c = 10
        · simp [d3]
        · rw [if_neg d1, if_neg d2, if_neg d3]
          congr 1
          simp [d1, d2, d3]
  · have e : s.size ≤ start s i := by have := start_ge s i; omega
    rw [tk_end e]
    refine Ev.step (f := fun _ => some (out, (0 : Int), (0 : Int))) (fun K => ?_) (Ev.now _)
    simp only [selvageref04_Tokens.l0]
    rw [if_neg (by omega)]
theorem ref_toks : Ev (fun K => selvageref04_Tokens.f K s) (toksAll s) := by
  unfold selvageref04_Tokens.f toksAll
  by_cases h8 : 8192 < s.size
  · have h8' : (s.size : Int) > 8192 := by omega
    simp only [if_pos h8, if_pos h8']
    exact Ev.now _
  · have h8' : ¬ (s.size : Int) > 8192 := by omega
    simp only [if_neg h8, if_neg h8']
    have h := sim s (by omega) s.size 0 [] (by omega) (by simp)
    have hst : Lex.blankLen false s.data.toList = start s 0 := by unfold start; rw [List.drop_zero, Nat.zero_add]
    rw [hst]
    exact h
/-! ### names -/
theorem name_l (hs : s.size ≤ 140737488351232) : ∀ (m i : Nat), s.size = i + m → 1 ≤ i → (∀ c ∈ s.data.toList.take i, isW c = true) →
    Ev (fun K => selvageref04_IsName.l0 K s (i : Int)) (decide (Lex.wordLen (s.data.toList.drop i) = m) && (decide (s.size ≤ 16) && !Lex.isKey s.data.toList))
  | 0, i, hm, hi, hall => by
    have hn : s.data.toList.drop i = [] := List.drop_of_length_le (by simp; omega)
    have hfull : s.data.toList.take i = s.data.toList := List.take_of_length_le (by simp; omega)
    rw [hfull] at hall
    rw [hn, decide_eq_true (show Lex.wordLen [] = 0 from rfl), Bool.true_and]
    have h0 : ¬ (i : Int) < (s.size : Int) := by omega
    have h1 : (s.size : Int) ≥ 1 := by omega
    by_cases h16 : s.size ≤ 16
    · have h2 : (s.size : Int) ≤ 16 := by omega
      refine Ev.step (f := fun K => (selvageref04_Key.f K s).bind fun t => some (!t)) (fun K => ?_) ?_
      · simp only [selvageref04_IsName.l0]
        rw [if_neg h0, if_pos h1, if_pos h2]
      · refine Ev.bind (rkey_ev s (by omega) (by omega) (fun c hc => isW_ne c (hall c hc))) ?_
        rw [decide_eq_true h16]
        exact Ev.now _
    · have h2 : ¬ (s.size : Int) ≤ 16 := by omega
      rw [decide_eq_false h16]
      refine Ev.step (f := fun _ => some false) (fun K => ?_) (Ev.now _)
      simp only [selvageref04_IsName.l0]
      rw [if_neg h0, if_pos h1, if_neg h2]
  | m + 1, i, hm, hi, hall => by
    have hlt : i < s.size := by omega
    obtain ⟨c, hd, hb⟩ := drop_cons s hlt
    have w1 : wrap64 ((i : Int) + 1) = ((i + 1 : Nat) : Int) := by rw [wrap_of (by omega) (by omega)]; rfl
    have hne : ¬ (i : Int) = 0 := by omega
    have hc? : s.data.toList[i]? = some c := by rw [← List.head?_drop, hd]; rfl
    have hts : s.data.toList.take (i + 1) = s.data.toList.take i ++ [c] := by
      rw [List.take_add_one, hc?]; rfl
    rw [hd, wordLen_cons]
    by_cases hW : isW c = true
    · have ih := name_l hs m (i + 1) (by omega) (by omega) (fun x hx => by
        rw [hts] at hx
        rcases List.mem_append.1 hx with hx | hx
        · exact hall x hx
        · rw [List.mem_singleton.1 hx]; exact hW)
      rw [if_pos hW]
      have : decide (Lex.wordLen (s.data.toList.drop (i + 1)) + 1 = m + 1) = decide (Lex.wordLen (s.data.toList.drop (i + 1)) = m) := by
        rw [Bool.eq_iff_iff]; simp
      rw [this]
      refine Ev.step (fun K => ?_) ih
      simp only [selvageref04_IsName.l0]
      rw [if_pos (Int.ofNat_lt.2 hlt), if_pos (Int.natCast_nonneg _), hb, small_f, rdigit_f, w1]
      simp only [Option.bind_some]
      by_cases hL : Lex.isLet c = true
      · rw [if_pos hL]
      · rw [if_neg hL, if_neg hne, if_pos (by simpa [isW, hL] using hW)]
    · rw [if_neg hW, decide_eq_false (by omega)]
      have hLD : Lex.isLet c = false ∧ Lex.isDig c = false := by
        have := Bool.eq_false_iff.2 hW
        simpa [isW] using this
      refine Ev.step (f := fun _ => some false) (fun K => ?_) (Ev.now _)
      simp only [selvageref04_IsName.l0]
      rw [if_pos (Int.ofNat_lt.2 hlt), if_pos (Int.natCast_nonneg _), hb, small_f, rdigit_f, hLD.1, hLD.2]
      simp only [Option.bind_some]
      rw [if_neg (by simp), if_neg hne, if_neg (by simp)]
theorem ref_name (hs : s.size ≤ 140737488351232) : Ev (fun K => selvageref04_IsName.f K s) (isName s.data.toList) := by
  unfold selvageref04_IsName.f
  have hl : s.data.toList.length = s.size := Lex.toList_length s
  by_cases h0 : 0 < s.size
  · obtain ⟨c, hd, hb⟩ := drop_cons s h0
    rw [List.drop_zero] at hd
    by_cases hL : Lex.isLet c = true
    · have hW : isW c = true := by simp [isW, hL]
      have h := name_l s hs (s.size - 1) 1 (by omega) (Nat.le_refl _) (by rw [hd]; intro x hx; simp at hx; rw [hx]; exact hW)
      have e : isName s.data.toList = (decide (Lex.wordLen (s.data.toList.drop 1) = s.size - 1) && (decide (s.size ≤ 16) && !Lex.isKey s.data.toList)) := by
        unfold isName
        have e1 : Lex.wordLen s.data.toList = Lex.wordLen (s.data.toList.drop 1) + 1 := by
          conv => lhs; rw [hd]
          rw [wordLen_cons, if_pos hW]
        have e2 : ((s.data.toList.head?.map Lex.isLet).getD false) = true := by rw [hd]; simpa using hL
        rw [e1, e2, hl, Bool.eq_iff_iff]
        simp only [Bool.and_eq_true, decide_eq_true_eq, Bool.not_eq_true']
        constructor
        · rintro ⟨⟨⟨⟨_, a⟩, _⟩, b⟩, d⟩
          exact ⟨by omega, a, b⟩
        · rintro ⟨a, b, d⟩
          exact ⟨⟨⟨⟨by omega, b⟩, trivial⟩, d⟩, by omega⟩
      rw [e]
      refine Ev.step (fun K => ?_) h
      simp only [selvageref04_IsName.l0]
      have hb0 : bt s 0 = (c.toNat : Int) := hb
      rw [if_pos (by omega), if_pos (by omega), hb0, small_f, hL, Option.bind_some, if_pos rfl, wrap_of (by omega) (by omega)]
      rfl
    · have hL := Bool.eq_false_iff.2 hL
      have e : isName s.data.toList = false := by
        unfold isName
        have e2 : ((s.data.toList.head?.map Lex.isLet).getD false) = false := by rw [hd]; simpa using hL
        rw [e2]; simp
      rw [e]
      refine Ev.step (f := fun _ => some false) (fun K => ?_) (Ev.now _)
      simp only [selvageref04_IsName.l0]
      have hb0 : bt s 0 = (c.toNat : Int) := hb
      rw [if_pos (by omega), if_pos (by omega), hb0, small_f, hL, Option.bind_some, if_neg (by simp), if_pos trivial]
  · have e : isName s.data.toList = false := by
      unfold isName
      rw [hl, decide_eq_false h0]; simp
    rw [e]
    refine Ev.step (f := fun _ => some false) (fun K => ?_) (Ev.now _)
    simp only [selvageref04_IsName.l0]
    rw [if_neg (by omega), if_neg (by omega)]
end
end F
end Go.Proofs.Ytepofemoodaknaa.Q
