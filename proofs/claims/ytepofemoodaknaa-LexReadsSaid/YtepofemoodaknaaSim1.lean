/- The document's words of the language, its bytes, its names: what the reference's Key, Small, Digit, double, single and IsName come to. -/
import Derived.Test.YtepofemoodaknaaAwake
import Derived.Test.YtepofemoodaknaaQx15
import Derived.Test.YtepofemoodaknaaQx16
import Derived.Test.YtepofemoodaknaaQx17
import Derived.Test.YtepofemoodaknaaQx18
import Derived.Test.YtepofemoodaknaaQx19
import Derived.Test.YtepofemoodaknaaQx22
namespace Go.Proofs.Ytepofemoodaknaa.Q
open Go.RowKit Go.Proofs.YtepofemoodaknaaW.PrintWords Go.Proofs.YtepofemoodaknaaW.PrintLast Go.Proofs.YtepofemoodaknaaW.PrintMore Go.Proofs.Ytepofemoodaknaa
namespace F
theorem small_f (c : UInt8) : selvageref04_Small.f (c.toNat : Int) = some (Lex.isLet c) := by
  unfold selvageref04_Small.f
  rw [isLet_int]
  by_cases h : (97 : Int) ≤ c.toNat
  · rw [if_pos h, decide_eq_true h]; rfl
  · rw [if_neg h, decide_eq_false h]; rfl
theorem rdigit_f (c : UInt8) : selvageref04_Digit.f (c.toNat : Int) = some (Lex.isDig c) := by
  unfold selvageref04_Digit.f
  rw [isDig_int]
  by_cases h : (48 : Int) ≤ c.toNat
  · rw [if_pos h, decide_eq_true h]; rfl
  · rw [if_neg h, decide_eq_false h]; rfl
theorem u8_int (c : UInt8) (n : Nat) (u : UInt8) (hu : u.toNat = n) : ((c.toNat : Int) = (n : Int)) = (c = u) := by
  apply propext
  rw [← UInt8.toNat_inj, hu]
  omega
def KS : List UInt8 := [32, 99, 101, 108, 108, 32, 97, 116, 111, 109, 32, 114, 111, 119, 32, 100, 111, 109, 97, 105, 110, 32, 101, 110, 100, 32, 108, 101, 116, 32, 105, 110, 32, 105, 102, 32, 116, 104, 101, 110, 32, 101, 108, 115, 101, 32, 102, 117, 110, 32, 109, 97, 116, 99, 104, 32, 119, 105, 116, 104, 32, 110, 111, 110, 101, 32, 115, 111, 109, 101, 32, 116, 114, 117, 101, 32, 102, 97, 108, 115, 101, 32, 112, 114, 105, 110, 116, 32, 115, 119, 97, 112, 32, 97, 100, 100, 32, 99, 97, 115, 32]
theorem KS_len : KS.length = 101 := by decide
set_option maxRecDepth 100000 in
theorem pieces : ∀ i, i < 101 → (KS.drop i).head? = some 32 → ((KS.drop (i + 1)).takeWhile fun c => !(c == 32)) = [] ∨ Lex.isKey ((KS.drop (i + 1)).takeWhile fun c => !(c == 32)) = true := by decide
set_option maxRecDepth 100000 in
theorem places : ∀ k ∈ Lex.keys, ∃ i, i < 101 ∧ i + k.length + 2 ≤ 101 ∧ (KS.drop i).take (k.length + 2) = 32 :: (k ++ [32]) := by decide
theorem tw_app (w r : List UInt8) (hw : ∀ c ∈ w, c ≠ 32) : (w ++ 32 :: r).takeWhile (fun c => !(c == 32)) = w := by
  induction w with
  | nil => simp
  | cons c w ih =>
    have hc : (c == 32) = false := beq_eq_false_iff_ne.2 (hw c (by simp))
    simp only [List.cons_append, List.takeWhile_cons, hc, Bool.not_false, if_true]
    rw [ih (fun x hx => hw x (by simp [hx]))]
/-- A piece of the words of the language with blanks round it is one of them. -/
theorem found {w : List UInt8} {i : Nat} (hw : ∀ c ∈ w, c ≠ 32) (hne : w ≠ []) (hi : i + w.length + 2 ≤ 101) (h : (KS.drop i).take (w.length + 2) = 32 :: (w ++ [32])) : Lex.isKey w = true := by
  have h0 : (KS.drop i).head? = some 32 := by
    have := congrArg List.head? h
    rw [List.head?_take] at this
    simpa using this
  have h1 : KS.drop (i + 1) = w ++ 32 :: KS.drop (i + w.length + 2) := by
    have e1 := (List.take_append_drop (w.length + 2) (KS.drop i)).symm
    rw [h, List.drop_drop] at e1
    have e2 : KS.drop (i + 1) = (KS.drop i).drop 1 := by rw [List.drop_drop]
    rw [e2, e1]
    simp
    congr 1
  have h2 := pieces i (by omega) h0
  rw [h1, tw_app w _ hw] at h2
  rcases h2 with h2 | h2
  · exact absurd h2 hne
  · exact h2
def KB : ByteArray := ⟨#[32, 99, 101, 108, 108, 32, 97, 116, 111, 109, 32, 114, 111, 119, 32, 100, 111, 109, 97, 105, 110, 32, 101, 110, 100, 32, 108, 101, 116, 32, 105, 110, 32, 105, 102, 32, 116, 104, 101, 110, 32, 101, 108, 115, 101, 32, 102, 117, 110, 32, 109, 97, 116, 99, 104, 32, 119, 105, 116, 104, 32, 110, 111, 110, 101, 32, 115, 111, 109, 101, 32, 116, 114, 117, 101, 32, 102, 97, 108, 115, 101, 32, 112, 114, 105, 110, 116, 32, 115, 119, 97, 112, 32, 97, 100, 100, 32, 99, 97, 115, 32]⟩
theorem KB_list : KB.data.toList = KS := rfl
theorem rkey_l (s : ByteArray) (hs : s.size ≤ 140737488355328) (hne : 0 < s.size) (hw : ∀ c ∈ s.data.toList, c ≠ 32) (hno : ∀ i' : Nat, i' + s.size + 2 ≤ 101 → (KS.drop i').take (s.size + 2) = 32 :: (s.data.toList ++ [32]) → Lex.isKey s.data.toList = true) :
    ∀ (m i : Nat), 102 ≤ i + m + s.size + 2 → (Lex.isKey s.data.toList = true → ∃ i', i ≤ i' ∧ i' + s.size + 2 ≤ 101 ∧ (KS.drop i').take (s.size + 2) = 32 :: (s.data.toList ++ [32])) → i ≤ 200 →
      Ev (fun k => selvageref04_Key.l0 k s (i : Int)) (Lex.isKey s.data.toList)
  | 0, i, hm, hk, hi => by
    have hf : Lex.isKey s.data.toList = false := by
      cases h : Lex.isKey s.data.toList with
      | false => rfl
      | true => obtain ⟨i', h1, h2, _⟩ := hk h; omega
    rw [hf]
    refine Ev.step (f := fun _ => some false) (fun k => ?_) (Ev.now _)
    simp only [selvageref04_Key.l0]
    rw [wrap_of (x := (i : Int) + (s.size : Int)) (by omega) (by omega), wrap_of (by omega) (by omega), if_neg (by omega)]
  | m + 1, i, hm, hk, hi => by
    by_cases hin : i + s.size + 2 ≤ 101
    · have hsz : ((⟨#[32]⟩ : ByteArray) ++ s).size = 1 + s.size := ByteArray.size_append
      have he : (KB.extract i (i + s.size + 2)).toList = (KS.drop i).take (s.size + 2) := by
        rw [Lex.toList_eq, Lex.extract_list, KB_list, List.drop_take]
        congr 1
        omega
      have hx : (((⟨#[32]⟩ : ByteArray) ++ s) ++ (⟨#[32]⟩ : ByteArray)).toList = 32 :: (s.data.toList ++ [32]) := by rw [Lex.toList_eq]; simp
      have t1 : ((i : Int)).toNat = i := by omega
      have t2 : ((i : Int) + (s.size : Int) + 2).toNat = i + s.size + 2 := by omega
      by_cases hit : (KS.drop i).take (s.size + 2) = 32 :: (s.data.toList ++ [32])
      · have ht := hno i hin hit
        rw [ht]
        refine Ev.step (f := fun _ => some true) (fun k => ?_) (Ev.now _)
        simp only [selvageref04_Key.l0]
        rw [wrap_of (x := (i : Int) + (s.size : Int)) (by omega) (by omega), wrap_of (x := (i : Int) + (s.size : Int) + 2) (by omega) (by omega), if_pos (by omega), if_pos (by omega), if_pos (by omega), if_pos (by omega), if_pos (by omega), t1, t2]
        have : (KB.extract i (i + s.size + 2)).toList = (((⟨#[32]⟩ : ByteArray) ++ s) ++ (⟨#[32]⟩ : ByteArray)).toList := by rw [he, hx, hit]
        rw [show (⟨#[32, 99, 101, 108, 108, 32, 97, 116, 111, 109, 32, 114, 111, 119, 32, 100, 111, 109, 97, 105, 110, 32, 101, 110, 100, 32, 108, 101, 116, 32, 105, 110, 32, 105, 102, 32, 116, 104, 101, 110, 32, 101, 108, 115, 101, 32, 102, 117, 110, 32, 109, 97, 116, 99, 104, 32, 119, 105, 116, 104, 32, 110, 111, 110, 101, 32, 115, 111, 109, 101, 32, 116, 114, 117, 101, 32, 102, 97, 108, 115, 101, 32, 112, 114, 105, 110, 116, 32, 115, 119, 97, 112, 32, 97, 100, 100, 32, 99, 97, 115, 32]⟩ : ByteArray) = KB from rfl, if_pos this, decide_eq_true (by omega)]
      · have ih := rkey_l s hs hne hw hno m (i + 1) (by omega) (fun h => by
          obtain ⟨i', h1, h2, h3⟩ := hk h
          refine ⟨i', ?_, h2, h3⟩
          by_cases hii : i' = i
          · subst hii; exact absurd h3 hit
          · omega) (by omega)
        refine Ev.step (fun k => ?_) ih
        simp only [selvageref04_Key.l0]
        rw [wrap_of (x := (i : Int) + (s.size : Int)) (by omega) (by omega), wrap_of (x := (i : Int) + (s.size : Int) + 2) (by omega) (by omega), if_pos (by omega), if_pos (by omega), if_pos (by omega), if_pos (by omega), if_pos (by omega), t1, t2]
        have : ¬ (KB.extract i (i + s.size + 2)).toList = (((⟨#[32]⟩ : ByteArray) ++ s) ++ (⟨#[32]⟩ : ByteArray)).toList := by rw [he, hx]; exact hit
        rw [show (⟨#[32, 99, 101, 108, 108, 32, 97, 116, 111, 109, 32, 114, 111, 119, 32, 100, 111, 109, 97, 105, 110, 32, 101, 110, 100, 32, 108, 101, 116, 32, 105, 110, 32, 105, 102, 32, 116, 104, 101, 110, 32, 101, 108, 115, 101, 32, 102, 117, 110, 32, 109, 97, 116, 99, 104, 32, 119, 105, 116, 104, 32, 110, 111, 110, 101, 32, 115, 111, 109, 101, 32, 116, 114, 117, 101, 32, 102, 97, 108, 115, 101, 32, 112, 114, 105, 110, 116, 32, 115, 119, 97, 112, 32, 97, 100, 100, 32, 99, 97, 115, 32]⟩ : ByteArray) = KB from rfl, if_neg this, wrap_of (by omega) (by omega)]
        rfl
    · have hf : Lex.isKey s.data.toList = false := by
        cases h : Lex.isKey s.data.toList with
        | false => rfl
        | true => obtain ⟨i', h1, h2, _⟩ := hk h; omega
      rw [hf]
      refine Ev.step (f := fun _ => some false) (fun k => ?_) (Ev.now _)
      simp only [selvageref04_Key.l0]
      rw [wrap_of (x := (i : Int) + (s.size : Int)) (by omega) (by omega), wrap_of (by omega) (by omega), if_neg (by omega)]
theorem rkey_ev (s : ByteArray) (hs : s.size ≤ 140737488355328) (hne : 0 < s.size) (hw : ∀ c ∈ s.data.toList, c ≠ 32) : Ev (fun k => selvageref04_Key.f k s) (Lex.isKey s.data.toList) := by
  have hl : s.data.toList.length = s.size := Lex.toList_length s
  have hn0 : s.data.toList ≠ [] := by intro h; rw [h] at hl; simp at hl; omega
  have := rkey_l s hs hne hw (fun i' h1 h2 => by rw [← hl] at h1 h2; exact found hw hn0 h1 h2) 102 0 (by omega) (fun h => by
    unfold Lex.isKey at h
    obtain ⟨i, h1, h2, h3⟩ := places _ (by simpa using h)
    rw [hl] at h2 h3
    exact ⟨i, by omega, h2, h3⟩) (by omega)
  exact this
theorem isW_ne (c : UInt8) (h : isW c = true) : c ≠ 32 := by
  rintro rfl
  revert h
  decide
end F
end Go.Proofs.Ytepofemoodaknaa.Q
