/- Facts on the words of a text: what a word hangs on; the chain of the words. Plain lists of bytes. -/
import Derived.Test.YtepofemoodaknaaQx12
namespace Go.Proofs.Ytepofemoodaknaa.Q
open Go.RowKit Go.Proofs.YtepofemoodaknaaW.PrintWords Go.Proofs.YtepofemoodaknaaW.PrintLast Go.Proofs.YtepofemoodaknaaW.PrintMore Go.Proofs.Ytepofemoodaknaa
namespace F
def hd (p : UInt8 → Bool) (r : List UInt8) : Bool := (r.head?.map p).getD false
theorem hd_nil (p : UInt8 → Bool) : hd p [] = false := rfl
theorem hd_cons (p : UInt8 → Bool) (c : UInt8) (r : List UInt8) : hd p (c :: r) = p c := rfl
theorem hd_drop_tw (p : UInt8 → Bool) : ∀ (l : List UInt8), hd p (l.drop (l.takeWhile p).length) = false
  | [] => rfl
  | c :: l => by
    by_cases h : p c = true
    · simp only [List.takeWhile_cons, h, if_true, List.length_cons, List.drop_succ_cons]; exact hd_drop_tw p l
    · simp only [List.takeWhile_cons, h, Bool.false_eq_true, if_false, List.length_nil, List.drop_zero, hd_cons]
theorem tw_local (p : UInt8 → Bool) : ∀ (l r : List UInt8), hd p r = false → ((l.take (l.takeWhile p).length ++ r).takeWhile p).length = (l.takeWhile p).length
  | [], r, h => by
    match r, h with
    | [], _ => rfl
    | c :: r, h => simp only [hd_cons] at h; simp [h]
  | c :: l, r, h => by
    by_cases hc : p c = true
    · simp only [List.takeWhile_cons, hc, if_true, List.length_cons, List.take_succ_cons, List.cons_append]
      rw [tw_local p l r h]
    · simp only [List.takeWhile_cons, hc, Bool.false_eq_true, if_false, List.length_nil, List.take_zero, List.nil_append]
      match r, h with
      | [], _ => rfl
      | c :: r, h => simp only [hd_cons] at h; simp [h]
theorem tw_take (p : UInt8 → Bool) (l : List UInt8) : l.take (l.takeWhile p).length = l.takeWhile p := by
  have h : l.takeWhile p <+: l := List.takeWhile_prefix p
  exact (List.prefix_iff_eq_take.1 h).symm
def isW (c : UInt8) : Bool := Lex.isLet c || Lex.isDig c
theorem let_dig (c : UInt8) : Lex.isLet c = true → Lex.isDig c = true → False := by
  rw [isLet_int, isDig_int]
  simp only [Bool.and_eq_true, decide_eq_true_eq]
  omega
/-- Behind a word no byte follows that would change it. -/
def Quiet (r : List UInt8) : Prop := hd isW r = false ∧ ∀ c, r.head? = some c → c ≠ 61 ∧ c ≠ 45 ∧ c ≠ 62 ∧ c ≠ 91
theorem quiet_nil : Quiet [] := ⟨rfl, fun c h => by simp at h⟩
theorem take_head {l : List UInt8} {n : Nat} (hn : 0 < n) : (l.take n).head? = l.head? := by
  match l, n, hn with
  | [], _, _ => simp
  | c :: l, n + 1, _ => simp
theorem app_head {p r : List UInt8} (hp : p ≠ []) : (p ++ r).head? = p.head? := by
  match p, hp with
  | c :: p, _ => rfl
theorem double_quiet {c : UInt8} {r : List UInt8} (hr : ∀ c, r.head? = some c → c ≠ 61 ∧ c ≠ 45 ∧ c ≠ 62 ∧ c ≠ 91) : Lex.isDouble ((c :: r).take 2) = false := by
  match r, hr with
  | [], _ => simp [Lex.isDouble]
  | d :: r, hr =>
    obtain ⟨h1, h2, h3, h4⟩ := hr d rfl
    simp [Lex.isDouble, h1, h2, h3, h4]
/-- A word hangs on its own bytes, and on what follows at once. -/
theorem tok_local {l r : List UInt8} {k v : Int} {n : Nat} (h : Lex.tok l = some (k, n, v)) (hr : r.head? = (l.drop n).head? ∨ Quiet r) : Lex.tok (l.take n ++ r) = some (k, n, v) := by
  have hlen := Lex.tok_len h
  have hne : l.take n ≠ [] := by
    intro e
    have := congrArg List.length e
    rw [List.length_take, List.length_nil] at this
    omega
  have hh : (l.take n ++ r).head? = l.head? := by rw [app_head hne, take_head hlen.1]
  have hhd : ∀ p, hd p r = false ∨ hd p r = hd p (l.drop n) ∨ Quiet r := fun p => by
    rcases hr with hr | hr
    · exact .inr (.inl (by unfold hd; rw [hr]))
    · exact .inr (.inr hr)
  have quietW : Quiet r → hd isW r = false := fun q => q.1
  have quietL : hd isW r = false → hd Lex.isLet r = false ∧ hd Lex.isDig r = false := by
    intro q
    match r, q with
    | [], _ => exact ⟨rfl, rfl⟩
    | c :: r, q => simp only [hd_cons, isW, Bool.or_eq_false_iff] at q; exact q
  unfold Lex.tok at h ⊢
  rw [hh]
  by_cases hL : (l.head?.map Lex.isLet).getD false = true
  · rw [if_pos hL] at h ⊢
    by_cases h16 : 16 < Lex.wordLen l
    · rw [if_pos h16] at h; cases h
    · rw [if_neg h16] at h
      simp only [Option.some.injEq, Prod.mk.injEq] at h
      obtain ⟨hk, hn, hv⟩ := h
      subst hn
      have hW : hd isW r = false := by
        rcases hr with hr | hr
        · have : hd isW r = hd isW (l.drop (Lex.wordLen l)) := by unfold hd; rw [hr]
          rw [this]
          exact hd_drop_tw isW l
        · exact hr.1
      have hwl : Lex.wordLen (l.take (Lex.wordLen l) ++ r) = Lex.wordLen l := tw_local isW l r hW
      rw [hwl, if_neg h16]
      have ht : (l.take (Lex.wordLen l) ++ r).take (Lex.wordLen l) = l.take (Lex.wordLen l) := by
        rw [List.take_append_of_le_length (by rw [List.length_take]; omega), List.take_take]; simp
      rw [ht, hk, hv]
  · rw [if_neg hL] at h ⊢
    by_cases hD : (l.head?.map Lex.isDig).getD false = true
    · rw [if_pos hD] at h ⊢
      by_cases hN : Lex.numBad l = true
      · rw [if_pos hN] at h; cases h
      · rw [if_neg hN] at h
        simp only [Option.some.injEq, Prod.mk.injEq] at h
        obtain ⟨hk, hn, hv⟩ := h
        subst hn
        have hND : hd Lex.isDig r = false ∧ hd Lex.isLet r = false := by
          rcases hr with hr | hr
          · have e1 : ∀ p, hd p r = hd p (l.drop (Lex.digLen l)) := fun p => by unfold hd; rw [hr]
            rw [e1, e1]
            refine ⟨hd_drop_tw Lex.isDig l, ?_⟩
            unfold Lex.numBad at hN
            simp only [Bool.or_eq_true, not_or] at hN
            simpa [hd] using hN.2
          · exact ⟨(quietL hr.1).2, (quietL hr.1).1⟩
        have hdl : Lex.digLen (l.take (Lex.digLen l) ++ r) = Lex.digLen l := tw_local Lex.isDig l r hND.1
        have ht : (l.take (Lex.digLen l) ++ r).take (Lex.digLen l) = l.take (Lex.digLen l) := by
          rw [List.take_append_of_le_length (by rw [List.length_take]; omega), List.take_take]; simp
        have hdr : (l.take (Lex.digLen l) ++ r).drop (Lex.digLen l) = r := by
          rw [List.drop_append_of_le_length (by rw [List.length_take]; omega), List.drop_of_length_le (by rw [List.length_take]; omega)]; rfl
        have hnb : Lex.numBad (l.take (Lex.digLen l) ++ r) = false := by
          unfold Lex.numBad at hN ⊢
          rw [hdl, hdr, hh]
          simp only [Bool.or_eq_true, not_or, Bool.not_eq_true] at hN
          rw [hN.1.1, hN.1.2]
          exact hND.2
        rw [hnb, hdl, ht, hk, hv]
        rfl
    · rw [if_neg hD] at h ⊢
      by_cases hS : Lex.signLen l = 0
      · rw [if_pos hS] at h; cases h
      · rw [if_neg hS] at h
        simp only [Option.some.injEq, Prod.mk.injEq] at h
        obtain ⟨hk, hn, hv⟩ := h
        have hs : Lex.signLen (l.take n ++ r) = n := by
          subst hn
          match l, hlen with
          | c :: l, hlen =>
            by_cases hd2 : Lex.isDouble ((c :: l).take 2) = true
            · have e2 : Lex.signLen (c :: l) = 2 := by unfold Lex.signLen; rw [if_pos hd2]
              rw [e2]
              have : ((c :: l).take 2 ++ r).take 2 = (c :: l).take 2 := by
                rw [e2] at hlen
                rw [List.take_append_of_le_length (by rw [List.length_take]; omega), List.take_take]; simp
              unfold Lex.signLen
              rw [this, if_pos hd2]
            · have e1 : Lex.signLen (c :: l) = 1 := by
                unfold Lex.signLen at hS ⊢
                rw [if_neg hd2] at hS ⊢
                simp only at hS ⊢
                split at hS
                · rename_i hc; rw [if_pos hc]
                · exact absurd rfl hS
              have hsing : Lex.singles.contains c = true := by
                unfold Lex.signLen at e1
                rw [if_neg hd2] at e1
                simp only at e1
                split at e1
                · assumption
                · cases e1
              rw [e1] at hr ⊢
              have hdq : Lex.isDouble ((c :: r).take 2) = false := by
                rcases hr with hr | hr
                · simp only [List.drop_succ_cons, List.drop_zero] at hr
                  have : (c :: r).take 2 = (c :: l).take 2 := by
                    match r, l, hr with
                    | [], [], _ => rfl
                    | [], x :: l, hr => simp at hr
                    | x :: r, [], hr => simp at hr
                    | x :: r, y :: l, hr => simp at hr; simp [hr]
                  rw [this]; simpa using hd2
                · exact double_quiet hr.2
              simp only [List.take_succ_cons, List.take_zero, List.cons_append, List.nil_append]
              unfold Lex.signLen
              rw [hdq]
              simp only [Bool.false_eq_true, if_false]
              rw [if_pos hsing]
        rw [hs, if_neg (by omega), hk, hv]

/-! ### blanks -/
theorem tok_head {l : List UInt8} {x : Int × Nat × Int} (h : Lex.tok l = some x) : ∃ c r, l = c :: r ∧ Lex.isBlank c = false ∧ c ≠ 35 := by
  match l with
  | [] => simp [Lex.tok, Lex.signLen, Lex.isDouble] at h
  | c :: r =>
    refine ⟨c, r, rfl, ?_⟩
    have key : Lex.isBlank c = true ∨ c = 35 → False := by
      intro hc
      have hcs : c = 32 ∨ c = 9 ∨ c = 10 ∨ c = 13 ∨ c = 35 := by
        rcases hc with hc | hc
        · simp only [Lex.isBlank, Bool.or_eq_true, beq_iff_eq] at hc
          rcases hc with ((hc | hc) | hc) | hc <;> simp [hc]
        · simp [hc]
      have h1 : Lex.isLet c = false := by rcases hcs with rfl | rfl | rfl | rfl | rfl <;> decide
      have h2 : Lex.isDig c = false := by rcases hcs with rfl | rfl | rfl | rfl | rfl <;> decide
      have h3 : Lex.singles.contains c = false := by rcases hcs with rfl | rfl | rfl | rfl | rfl <;> decide
      have h4 : Lex.isDouble ((c :: r).take 2) = false := by
        have : c ≠ 58 ∧ c ≠ 60 ∧ c ≠ 45 ∧ c ≠ 46 := by rcases hcs with rfl | rfl | rfl | rfl | rfl <;> decide
        obtain ⟨a1, a2, a3, a4⟩ := this
        match r with
        | [] => simp [Lex.isDouble]
        | d :: r => simp [Lex.isDouble, a1, a2, a3, a4]
      unfold Lex.tok Lex.signLen at h
      simp only [List.head?_cons, Option.map_some, Option.getD_some, h1, h2, h3, h4] at h
      simp at h
    constructor
    · exact Bool.eq_false_iff.2 fun hb => key (.inl hb)
    · exact fun hb => key (.inr hb)
theorem tok_blank {l : List UInt8} {x : Int × Nat × Int} (h : Lex.tok l = some x) : Lex.blankLen false l = 0 := by
  obtain ⟨c, r, rfl, h1, h2⟩ := tok_head h
  simp [Lex.blankLen, h1, h2]
theorem blank_take : ∀ (b : Bool) (l : List UInt8) (m : Nat), Lex.blankLen b l < m → Lex.blankLen b (l.take m) = Lex.blankLen b l
  | b, [], m, _ => by simp
  | false, c :: l, m + 1, h => by
    simp only [List.take_succ_cons]
    unfold Lex.blankLen at h ⊢
    by_cases h1 : Lex.isBlank c = true
    · rw [if_pos h1] at h ⊢
      rw [if_pos h1, blank_take false l m (by omega)]
    · rw [if_neg h1] at h ⊢
      rw [if_neg h1]
      by_cases h2 : (c == 35) = true
      · rw [if_pos h2] at h ⊢
        rw [if_pos h2, blank_take true l m (by omega)]
      · rw [if_neg h2, if_neg h2]
  | true, c :: l, m + 1, h => by
    simp only [List.take_succ_cons]
    unfold Lex.blankLen at h ⊢
    by_cases h2 : (c == 10) = true
    · rw [if_pos h2] at h ⊢
      rw [if_pos h2, blank_take false l m (by omega)]
    · rw [if_neg h2] at h ⊢
      rw [if_neg h2, blank_take true l m (by omega)]

/-! ### the chain of the words -/
def start (s : ByteArray) (e : Nat) : Nat := e + Lex.blankLen false (s.data.toList.drop e)
def Chain (s : ByteArray) : Nat → List S32 → Prop
  | e, [] => s.size ≤ start s e
  | e, t :: ts => ∃ k n v, Lex.tok (s.data.toList.drop (start s e)) = some (k, n, v) ∧ t = ⟨k, s.extract (start s e) (start s e + n), v, (start s e : Int)⟩ ∧ Chain s (start s e + n) ts
theorem start_ge (s : ByteArray) (e : Nat) : e ≤ start s e := by unfold start; omega
theorem start_le (s : ByteArray) (e : Nat) (h : e ≤ s.size) : start s e ≤ s.size := by
  have := Lex.blankLen_le false (s.data.toList.drop e)
  rw [List.length_drop, Lex.toList_length] at this
  unfold start; omega
theorem tok_pos {s : ByteArray} {i : Nat} {k v : Int} {n : Nat} (h : Lex.tok (s.data.toList.drop i) = some (k, n, v)) : 0 < n ∧ i + n ≤ s.size ∧ i < s.size := by
  have := Lex.tok_len h
  rw [List.length_drop, Lex.toList_length] at this
  omega
theorem ext_ba {a b : ByteArray} (h : a.data.toList = b.data.toList) : a = b := by
  cases a; cases b
  congr 1
  exact Array.toList_inj.1 h
theorem text_eq (s : ByteArray) (i n : Nat) : (s.extract i s.size).extract 0 n = s.extract i (i + n) := by
  apply ext_ba
  rw [Lex.extract_take, Lex.extract_drop, Lex.extract_list, List.drop_take]
  congr 1
  omega
theorem chain_of (s : ByteArray) : ∀ (f e : Nat) (out R : List S32) (x : Int), toksA s f (start s e) out = (R, 0, x) → s.size < f + start s e → out.length ≤ 1500 → ∃ ts, R = out ++ ts ∧ Chain s e ts ∧ R.length ≤ 1500 ∧ x = 0
  | 0, e, out, R, x, h, hf, ho => by
    simp only [toksA, Prod.mk.injEq] at h
    obtain ⟨rfl, _, rfl⟩ := h
    exact ⟨[], by simp, by show s.size ≤ start s e; omega, ho, rfl⟩
  | f + 1, e, out, R, x, h, hf, ho => by
    simp only [toksA] at h
    by_cases hlt : start s e < s.size
    · rw [if_pos hlt] at h
      rcases ht : Lex.tok (s.data.toList.drop (start s e)) with _ | ⟨k, n, v⟩
      · rw [ht] at h; simp at h
      · rw [ht] at h
        simp only at h
        by_cases h15 : out.length = 1500
        · rw [if_pos h15] at h; simp at h
        · rw [if_neg h15] at h
          have hp := tok_pos ht
          have hst : start s e + n + Lex.blankLen false (s.data.toList.drop (start s e + n)) = start s (start s e + n) := rfl
          rw [hst] at h
          have hg := start_ge s (start s e + n)
          obtain ⟨ts, hR, hc, hl, hx⟩ := chain_of s f (start s e + n) _ R x h (by omega) (by simp; omega)
          refine ⟨⟨k, s.extract (start s e) (start s e + n), v, (start s e : Int)⟩ :: ts, ?_, ⟨k, n, v, ht, rfl, hc⟩, hl, hx⟩
          rw [hR, text_eq]; simp
    · rw [if_neg hlt] at h
      simp only [Prod.mk.injEq] at h
      obtain ⟨rfl, _, rfl⟩ := h
      exact ⟨[], by simp, by show s.size ≤ start s e; omega, ho, rfl⟩
theorem of_chain (s : ByteArray) : ∀ (ts : List S32) (f e : Nat) (out : List S32), Chain s e ts → s.size < f + start s e → out.length + ts.length ≤ 1500 → toksA s f (start s e) out = (out ++ ts, 0, 0)
  | [], f, e, out, hc, hf, hl => by
    have hs : s.size ≤ start s e := hc
    match f with
    | 0 => simp [toksA]
    | f + 1 => simp only [toksA]; rw [if_neg (by omega)]; simp
  | t :: ts, f, e, out, hc, hf, hl => by
    obtain ⟨k, n, v, ht, rfl, hc⟩ := hc
    have hp := tok_pos ht
    match f, hf with
    | 0, hf => omega
    | f + 1, hf =>
      have hg := start_ge s (start s e + n)
      have ih := of_chain s ts f (start s e + n) (out ++ [⟨k, s.extract (start s e) (start s e + n), v, (start s e : Int)⟩]) hc (by omega) (by simp at hl ⊢; omega)
      simp only [toksA]
      rw [if_pos (by omega), ht]
      simp only
      rw [if_neg (by simp at hl; omega), text_eq]
      have hst : start s e + n + Lex.blankLen false (s.data.toList.drop (start s e + n)) = start s (start s e + n) := rfl
      rw [hst, ih]
      simp
theorem toks_bad (s : ByteArray) : ∀ (f i : Nat) (out R : List S32) (y x : Int), toksA s f i out = (R, y, x) → y ≠ 0 → R = [] ∧ 0 ≤ x ∧ x ≤ (s.size : Int)
  | 0, i, out, R, y, x, h, hy => by
    simp only [toksA, Prod.mk.injEq] at h
    omega
  | f + 1, i, out, R, y, x, h, hy => by
    simp only [toksA] at h
    by_cases hlt : i < s.size
    · rw [if_pos hlt] at h
      rcases ht : Lex.tok (s.data.toList.drop i) with _ | ⟨k, n, v⟩
      · rw [ht] at h
        simp only [Prod.mk.injEq] at h
        obtain ⟨rfl, rfl, rfl⟩ := h
        exact ⟨rfl, by omega, by omega⟩
      · rw [ht] at h
        simp only at h
        by_cases h15 : out.length = 1500
        · rw [if_pos h15] at h
          simp only [Prod.mk.injEq] at h
          obtain ⟨rfl, rfl, rfl⟩ := h
          exact ⟨rfl, by omega, by omega⟩
        · rw [if_neg h15] at h
          exact toks_bad s f _ _ R y x h hy
    · rw [if_neg hlt] at h
      simp only [Prod.mk.injEq] at h
      omega
/-- The words of a whole text. -/
theorem all_ok {s : ByteArray} {R : List S32} {x : Int} (h : toksAll s = (R, 0, x)) : s.size ≤ 8192 ∧ Chain s 0 R ∧ R.length ≤ 1500 ∧ x = 0 := by
  unfold toksAll at h
  split at h
  · simp at h
  · have hst : Lex.blankLen false s.data.toList = start s 0 := by unfold start; rw [List.drop_zero, Nat.zero_add]
    rw [hst] at h
    obtain ⟨ts, hR, hc, hl, hx⟩ := chain_of s (s.size + 1) 0 [] R x h (by omega) (by simp)
    rw [List.nil_append] at hR
    subst hR
    exact ⟨by omega, hc, hl, hx⟩
theorem ok_all {s : ByteArray} {R : List S32} (hs : s.size ≤ 8192) (hc : Chain s 0 R) (hl : R.length ≤ 1500) : toksAll s = (R, 0, 0) := by
  unfold toksAll
  rw [if_neg (by omega)]
  have hst : Lex.blankLen false s.data.toList = start s 0 := by unfold start; rw [List.drop_zero, Nat.zero_add]
  rw [hst, of_chain s R (s.size + 1) 0 [] hc (by omega) (by simpa using hl)]
  simp
theorem all_bad {s : ByteArray} {R : List S32} {y x : Int} (h : toksAll s = (R, y, x)) (hy : y ≠ 0) : R = [] ∧ 0 ≤ x ∧ x ≤ (s.size : Int) := by
  unfold toksAll at h
  split at h
  · simp only [Prod.mk.injEq] at h
    obtain ⟨rfl, rfl, rfl⟩ := h
    exact ⟨rfl, by omega, by omega⟩
  · exact toks_bad s _ _ _ R y x h hy
theorem toks_f (s : ByteArray) (hs : s.size ≤ 140737488355328) : lex_Tokens.f s = some (toksAll s) := by unfold lex_Tokens.f; rw [if_pos hs]
end F
end Go.Proofs.Ytepofemoodaknaa.Q
