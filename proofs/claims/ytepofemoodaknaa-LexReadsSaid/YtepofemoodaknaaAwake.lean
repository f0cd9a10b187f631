/- The fixed answer of layer 4's statements. -/
import Derived.Test.YtepofemoodaknaaFacts
import Derived.Test.YtepofemoodaknaaQx13
import Derived.Test.YtepofemoodaknaaQx14
import Derived.KernelRfl
namespace Go.Proofs.Ytepofemoodaknaa.Q
open Go.RowKit Go.Proofs.YtepofemoodaknaaW.PrintWords Go.Proofs.YtepofemoodaknaaW.PrintLast Go.Proofs.YtepofemoodaknaaW.PrintMore Go.Proofs.Ytepofemoodaknaa
namespace F
/-- What IsName tells. -/
def isName (l : List UInt8) : Bool := decide (0 < l.length) && decide (l.length ≤ 16) && (l.head?.map Lex.isLet).getD false && !Lex.isKey l && decide (Lex.wordLen l = l.length)
theorem isName_ev (s : ByteArray) (hs : s.size ≤ 140737488355328) : Ev (fun k => lex_IsName.f k s) (isName s.data.toList) := by
  unfold lex_IsName.f
  rw [Lex.toList_eq]
  by_cases h0 : s.data.toList = []
  · simp only [if_pos h0]
    rw [h0]
    exact Ev.now _
  · have hpos : 0 < s.size := by
      rw [← Lex.toList_length]
      exact List.length_pos_iff.2 h0
    have hbt : bt s 0 = ((s.data.toList[0]'(by simpa using hpos)).toNat : Int) := bt_of (i := 0) hpos
    have hh : (s.data.toList.head?.map Lex.isLet).getD false = Lex.isLet (s.data.toList[0]'(by simpa using hpos)) := by
      rw [List.head?_eq_getElem?, List.getElem?_eq_getElem (by simpa using hpos)]; rfl
    generalize s.data.toList[0]'(by simpa using hpos) = c at hbt hh
    simp only [if_neg h0, hbt]
    unfold isName
    rw [hh, Lex.toList_length, decide_eq_true hpos]
    by_cases h16 : (s.size : Int) > 16
    · simp only [if_pos h16]
      rw [decide_eq_false (show ¬ s.size ≤ 16 by omega)]
      exact Ev.now _
    · rw [decide_eq_true (show s.size ≤ 16 by omega)]
      have hp' : 0 < (s.size : Int) := by omega
      simp only [if_neg h16, if_pos hp', letter_f, Option.bind_some, Bool.true_and]
      by_cases hL : Lex.isLet c = true
      · simp only [if_pos hL, key_f, Option.bind_some]
        rw [hL]
        simp only [Bool.true_and]
        by_cases hK : Lex.isKey s.data.toList = true
        · simp only [if_pos hK]
          rw [hK]
          exact Ev.now _
        · simp only [if_neg hK]
          rw [Bool.eq_false_iff.2 hK]
          refine Ev.bind (word_ev s hs) ?_
          have : ((Lex.wordLen s.data.toList : Int) == (s.size : Int)) = (!false && decide (Lex.wordLen s.data.toList = s.size)) := by
            rw [Bool.eq_iff_iff]; simp; omega
          rw [this]
          exact Ev.now _
      · simp only [if_neg hL]
        rw [Bool.eq_false_iff.2 hL]
        exact Ev.now _
theorem tok0 : toksAll (⟨#[120, 58, 61, 49]⟩ : ByteArray) = ([⟨1, ⟨#[120]⟩, 0, 0⟩, ⟨4, ⟨#[58, 61]⟩, 0, 1⟩, ⟨3, ⟨#[49]⟩, 1, 3⟩], 0, 0) := by kernel_rfl
theorem awake : Ev (fun k => selvagelaw04_awake.f k) true := by
  unfold selvagelaw04_awake.f
  simp only [toks_f _ (show (⟨#[120, 58, 61, 49]⟩ : ByteArray).size ≤ 140737488355328 by decide), tok0]
  have e : (rd_T32 [(⟨1, ⟨#[120]⟩, 0, 0⟩ : S32), ⟨4, ⟨#[58, 61]⟩, 0, 1⟩, ⟨3, ⟨#[49]⟩, 1, 3⟩] 1).f1.toList = [58, 61] := by rw [Lex.toList_eq]; rfl
  have e2 : (rd_T32 [(⟨1, ⟨#[120]⟩, 0, 0⟩ : S32), ⟨4, ⟨#[58, 61]⟩, 0, 1⟩, ⟨3, ⟨#[49]⟩, 1, 3⟩] 2).f2 = 1 := rfl
  simp only [Option.bind_some, e, e2, List.length_cons, List.length_nil, if_true, Nat.zero_add, Nat.reduceAdd]
  have := isName_ev (⟨#[120]⟩ : ByteArray) (by decide)
  refine Ev.bind this ?_
  exact Ev.now _
end F
end Go.Proofs.Ytepofemoodaknaa.Q
