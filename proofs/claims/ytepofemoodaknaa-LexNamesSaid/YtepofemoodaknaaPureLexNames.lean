/- A text is a name just if it is one word, of that kind, from its first byte to its last one: the pure statement of LexNames, proved; no further condition. -/
import Derived.Test.YtepofemoodaknaaQx27
import Derived.Test.YtepofemoodaknaaAwake
namespace Go.Proofs.Ytepofemoodaknaa.Pure
open Go.RowKit Go.Proofs.Ytepofemoodaknaa.Q Go.Proofs.YtepofemoodaknaaW.PrintWords Go.Proofs.YtepofemoodaknaaW.PrintLast Go.Proofs.Ytepofemoodaknaa
namespace Names
theorem take_all (l : List UInt8) : l.take l.length = l := by simp
theorem name_tok {l : List UInt8} (h : F.isName l = true) : Lex.tok l = some (1, l.length, 0) := by
  unfold F.isName at h
  simp only [Bool.and_eq_true, decide_eq_true_eq, Bool.not_eq_true'] at h
  obtain ⟨⟨⟨⟨_, h16⟩, hL⟩, hK⟩, hW⟩ := h
  unfold Lex.tok
  rw [if_pos hL, hW, if_neg (by omega), take_all, hK]
  rfl
theorem extract_all (s : ByteArray) : s.extract 0 s.size = s := by
  apply F.ext_ba
  rw [Lex.extract_take]
  have : s.data.toList.length = s.size := Lex.toList_length s
  rw [← this, take_all]
theorem name_toks {s : ByteArray} (h : F.isName s.data.toList = true) : toksAll s = ([⟨1, s, 0, 0⟩], 0, 0) := by
  have ht := name_tok h
  have h16 : s.size ≤ 16 := by
    unfold F.isName at h
    simp only [Bool.and_eq_true, decide_eq_true_eq] at h
    have := h.1.1.1.2
    rw [Lex.toList_length] at this
    exact this
  have hst : F.start s 0 = 0 := by unfold F.start; rw [List.drop_zero, F.tok_blank ht]
  refine F.ok_all (by omega) ?_ (by simp)
  refine ⟨1, s.size, 0, ?_, ?_, ?_⟩
  · rw [hst, List.drop_zero, ht, Lex.toList_length]
  · rw [hst, Nat.zero_add, extract_all]; rfl
  · show s.size ≤ F.start s (F.start s 0 + s.size)
    have := F.start_ge s (F.start s 0 + s.size)
    omega
theorem toks_name {s : ByteArray} {t : S32} (hc : F.Chain s 0 [t]) (h0 : t.f0 = 1) (h1 : t.f1.data.toList = s.data.toList) (h3 : t.f3 = 0) : F.isName s.data.toList = true := by
  obtain ⟨k, n, v, ht, rfl, _⟩ := hc
  have hp := F.tok_pos ht
  have hst : F.start s 0 = 0 := by
    simp only at h3
    omega
  rw [hst, List.drop_zero] at ht
  rw [hst] at h1 hp
  simp only at h0 h1
  subst h0
  have hn : n = s.size := by
    have := congrArg List.length h1
    rw [Lex.extract_list, List.length_drop, List.length_take, Lex.toList_length] at this
    omega
  have hlen : s.data.toList.length = s.size := Lex.toList_length s
  unfold Lex.tok at ht
  by_cases hL : (s.data.toList.head?.map Lex.isLet).getD false = true
  · rw [if_pos hL] at ht
    by_cases h16 : 16 < Lex.wordLen s.data.toList
    · rw [if_pos h16] at ht; cases ht
    · rw [if_neg h16] at ht
      simp only [Option.some.injEq, Prod.mk.injEq] at ht
      obtain ⟨hk, hw, _⟩ := ht
      have hwn : Lex.wordLen s.data.toList = s.data.toList.length := by omega
      have hK : Lex.isKey s.data.toList = false := by
        rw [hwn, take_all] at hk
        cases hkk : Lex.isKey s.data.toList with
        | false => rfl
        | true => rw [hkk] at hk; simp at hk
      unfold F.isName
      rw [hL, hK, hwn]
      simp only [Bool.and_eq_true, decide_eq_true_eq, Bool.not_false, and_true]
      omega
  · rw [if_neg hL] at ht
    split at ht
    · split at ht
      · cases ht
      · simp at ht
    · split at ht
      · cases ht
      · simp at ht
end Names
theorem LexNames : selvagelaw04_LexNames.Pure := by
  intro s hs
  refine Ev.rounds (g := fun k => selvagelaw04_LexNames.f k s) ?_
  unfold selvagelaw04_LexNames.f
  refine Ev.bind F.awake ?_
  simp only [if_true, F.toks_f s (by omega), Option.bind_some]
  have hn := F.isName_ev s (by omega)
  rcases h : toksAll s with ⟨R, y, x⟩
  simp only
  have other : (∀ t, R = [t] → y = 0 → False) → Ev (fun k => (lex_IsName.f k s).bind fun t => some (t == false)) true := by
    intro hno
    refine Ev.bind hn ?_
    cases hb : F.isName s.data.toList with
    | false => exact Ev.now _
    | true =>
      exfalso
      have := Names.name_toks hb
      rw [h] at this
      simp only [Prod.mk.injEq] at this
      exact hno _ this.1 this.2.1
  by_cases hy : y = 0
  · simp only [if_pos hy]
    by_cases hl : (R.length : Int) = 1
    · have hl0 : 0 < (R.length : Int) := by omega
      simp only [if_pos hl, if_pos hl0]
      subst hy
      obtain ⟨t, rfl⟩ : ∃ t, R = [t] := List.length_eq_one_iff.1 (by omega)
      obtain ⟨_, hc, _, _⟩ := F.all_ok h
      have hrd : rd_T32 [t] 0 = t := rfl
      simp only [hrd]
      refine Ev.bind hn ?_
      have : (F.isName s.data.toList == (t.f0 == 1 && (t.f1.toList == s.toList && (t.f2 == 0 && t.f3 == 0)))) = true := by
        rw [beq_iff_eq, Bool.eq_iff_iff]
        simp only [Bool.and_eq_true, beq_iff_eq, Lex.toList_eq]
        constructor
        · intro hb
          have := Names.name_toks hb
          rw [h] at this
          simp only [Prod.mk.injEq, List.cons.injEq, and_true] at this
          rw [this.1]
          exact ⟨rfl, rfl, rfl, rfl⟩
        · rintro ⟨a, b, _, d⟩
          exact Names.toks_name hc a b d
      rw [this]
      exact Ev.now _
    · simp only [if_neg hl]
      exact other (fun t ht _ => hl (by rw [ht]; rfl))
  · simp only [if_neg hy]
    exact other (fun t _ h0 => hy h0)
end Go.Proofs.Ytepofemoodaknaa.Pure
