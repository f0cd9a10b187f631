import Derived.Test.YtepofemoodaknaaNum
namespace Go.Proofs.Ytepofemoodaknaa.Q
open Go.RowKit Go.Proofs.YtepofemoodaknaaW.PrintWords Go.Proofs.YtepofemoodaknaaW.PrintLast Go.Proofs.YtepofemoodaknaaW.PrintMore Go.Proofs.Ytepofemoodaknaa
def brokenE (e at_ : Int) : List PanicEntry := [{ v := .iface 37 (.agg #[.int .i64 e, .int .i64 at_]), recovered := false }]
def NumEnd (s : ByteArray) (at_ : Int) (w : World) (e : Ending) (w' : World) : Prop :=
  (if Lex.numBad s.data.toList = true then e = .panicked (brokenE 10 at_) else e = .returned (.tuple #[.int .i64 (Lex.numVal (s.data.toList.take (Lex.digLen s.data.toList))), .int .i64 (Lex.digLen s.data.toList : Nat)])) ∧ w = w'
theorem num_bad {s : ByteArray} {at_ : Int} {w : World} (h : Lex.numBad s.data.toList = true) : NumEnd s at_ w (.panicked (brokenE 10 at_)) w := ⟨by rw [if_pos h], rfl⟩
theorem num_ok {s : ByteArray} {at_ : Int} {w : World} (h : Lex.numBad s.data.toList = false) {n : Int} {k : Nat} (hn : n = Lex.numVal (s.data.toList.take (Lex.digLen s.data.toList))) (hk : k = Lex.digLen s.data.toList) :
    NumEnd s at_ w (.returned (.tuple #[.int .i64 n, .int .i64 (k : Int)])) w := ⟨by rw [if_neg (by simp [h]), hn, hk], rfl⟩
theorem head_drop {s : ByteArray} {k : Nat} (h : k < s.size) : ((s.data.toList.drop k).head?.map Lex.isLet).getD false = Lex.isLet s[k] := by
  rw [List.head?_drop, List.getElem?_eq_getElem (by simpa using h)]; rfl
theorem head_end {s : ByteArray} {k : Nat} (h : s.size ≤ k) : ((s.data.toList.drop k).head?.map Lex.isLet).getD false = false := by
  rw [List.drop_of_length_le (by simpa using h)]; rfl
theorem head_zero {s : ByteArray} (h : 0 < s.size) (b : Bool) (hb : ((s[0].toNat : Int) == 48) = b) : (s.data.toList.head? == some 48) = b := by
  rw [List.head?_eq_getElem?, List.getElem?_eq_getElem (by simpa using h)]
  subst hb
  have : s.data.toList[0]'(by simpa using h) = s[0] := rfl
  rw [this, Bool.eq_iff_iff]
  simp only [beq_iff_eq, Option.some.injEq]
  constructor
  · intro h; rw [h]; rfl
  · intro h
    have h48 : (48 : UInt8).toNat = 48 := rfl
    exact UInt8.toNat_inj.1 (by omega)
theorem get_list (s : ByteArray) (k : Nat) (h : k < s.size) : s.data.toList[k]'(by simpa using h) = s[k] := rfl
set_option maxHeartbeats 4000000 in
theorem number_any (s : ByteArray) (at_ : Int) (w : World) (hs : s.size ≤ 140737488355328) : Calls Try.prog 27 #[.string s, .int .i64 at_] w (NumEnd s at_ w) := by
  have hdl : Lex.digLen s.data.toList ≤ s.size := by have := Lex.digLen_le s.data.toList; simpa using this
  go_enter Try.func27, Try.ntmps27
  go_wp2
  go_loop [6, 7] (fun n i => ∃ k : Nat, k ≤ Lex.digLen s.data.toList ∧ i = .int .i64 k ∧ n = .int .i64 (Lex.numVal (s.data.toList.take k))) (fun _ i => s.size - (intOf i).toNat)
  case atStart => exact ⟨0, Nat.zero_le _, rfl, rfl⟩
  case round =>
    obtain ⟨k, hk, rfl, rfl⟩ := hrel
    by_cases hlt : k < Lex.digLen s.data.toList
    · have hks : k < s.size := by omega
      obtain ⟨c, hc, hd⟩ := Lex.digLen_get s.data.toList k hlt
      have hc' : s[k] = c := by
        rw [← get_list s k hks]
        rw [List.getElem?_eq_getElem (by simpa using hks)] at hc
        exact Option.some.inj hc
      have hdg : Lex.isDig s[k] = true := by rw [hc']; exact hd
      have hb := hdg
      rw [isDig_int, Bool.and_eq_true, decide_eq_true_eq, decide_eq_true_eq] at hb
      obtain ⟨hb1, hb2⟩ := hb
      obtain ⟨hv1, hv2, _⟩ := Lex.numVal_bound k (s.data.toList.take k) (by simp; omega) (Lex.digits_all _ _ hk)
      have hts : s.data.toList.take (k + 1) = s.data.toList.take k ++ [s[k]] := by rw [List.take_succ_eq_append_getElem (by simpa using hks)]; rfl
      by_cases h9 : k < 9
      · have hsn : Lex.numVal (s.data.toList.take (k + 1)) = 10 * Lex.numVal (s.data.toList.take k) + ((s[k].toNat : Int) - 48) := by rw [hts]; exact Lex.numVal_snoc _ _ (by simp; omega)
        have HS := Lib.hid hsn
        clear hsn hts hc hc' hd
        go_wp2_with (go_at_call 26; refine (digit_any _ _).mono ?_; rintro e w' ⟨rfl, rfl⟩)
        go_round
        case rel => exact ⟨k + 1, by omega, by go_num, by rw [HS.out]⟩
        case measure => simp [intOf]; omega
      · have hsn : Lex.numVal (s.data.toList.take (k + 1)) = Lex.numVal (s.data.toList.take k) := by rw [hts]; exact Lex.numVal_long _ _ (by simp; omega)
        have HS := Lib.hid hsn
        clear hsn hts hc hc' hd
        go_wp2_with (go_at_call 26; refine (digit_any _ _).mono ?_; rintro e w' ⟨rfl, rfl⟩)
        go_round
        case rel => exact ⟨k + 1, by omega, by go_num, by rw [HS.out]⟩
        case measure => simp [intOf]; omega
    · have hke : k = Lex.digLen s.data.toList := by omega
      have HE := Lib.hid hke
      clear hke hlt
      have hks : k ≤ s.size := by omega
      by_cases h9 : 9 < k
      · have HB := Lib.hid (show Lex.numBad s.data.toList = true by unfold Lex.numBad; rw [← HE.out, decide_eq_true h9]; rfl)
        by_cases hA : k < s.size
        · have hnd : Lex.isDig s[k] = false := by have := Lex.digLen_end s.data.toList (by rw [← HE.out]; simpa using hA); simp only [← HE.out] at this; exact this
          go_wp2_with (go_at_call 26; refine (digit_any _ _).mono ?_; rintro e w' ⟨rfl, rfl⟩)
          exact ⟨rfl, num_bad HB.out⟩
        · go_wp2
          exact ⟨rfl, num_bad HB.out⟩
      · by_cases h1 : 1 < k
        · have hs0 : 0 < s.size := by omega
          by_cases h0 : ((s[0].toNat : Int) == 48) = true
          · have HB := Lib.hid (show Lex.numBad s.data.toList = true by unfold Lex.numBad; rw [← HE.out, decide_eq_true h1, head_zero hs0 _ h0]; simp)
            by_cases hA : k < s.size
            · skip
              have hnd : Lex.isDig s[k] = false := by have := Lex.digLen_end s.data.toList (by rw [← HE.out]; simpa using hA); simp only [← HE.out] at this; exact this
              go_wp2_with (first | (go_at_call 26; refine (digit_any _ _).mono ?_; rintro e w' ⟨rfl, rfl⟩) | (go_at_call 22; refine (letter_any _ _).mono ?_; rintro e w' ⟨rfl, rfl⟩))
              exact ⟨rfl, num_bad HB.out⟩
            · skip
              go_wp2
              exact ⟨rfl, num_bad HB.out⟩
          · have h0 := Bool.eq_false_iff.2 h0
            by_cases hA : k < s.size
            · by_cases hL : Lex.isLet s[k] = true
              · have HB := Lib.hid (show Lex.numBad s.data.toList = true by unfold Lex.numBad; rw [← HE.out, head_drop hA, hL]; simp)
                have hnd : Lex.isDig s[k] = false := by have := Lex.digLen_end s.data.toList (by rw [← HE.out]; simpa using hA); simp only [← HE.out] at this; exact this
                go_wp2_with (first | (go_at_call 26; refine (digit_any _ _).mono ?_; rintro e w' ⟨rfl, rfl⟩) | (go_at_call 22; refine (letter_any _ _).mono ?_; rintro e w' ⟨rfl, rfl⟩))
                exact ⟨rfl, num_bad HB.out⟩
              · have hL := Bool.eq_false_iff.2 hL
                have HB := Lib.hid (show Lex.numBad s.data.toList = false by unfold Lex.numBad; rw [← HE.out, decide_eq_false h9, head_drop hA, hL, head_zero hs0 _ h0]; simp)
                have hnd : Lex.isDig s[k] = false := by have := Lex.digLen_end s.data.toList (by rw [← HE.out]; simpa using hA); simp only [← HE.out] at this; exact this
                go_wp2_with (first | (go_at_call 26; refine (digit_any _ _).mono ?_; rintro e w' ⟨rfl, rfl⟩) | (go_at_call 22; refine (letter_any _ _).mono ?_; rintro e w' ⟨rfl, rfl⟩))
                go_ret2
                exact num_ok HB.out (by rw [HE.out]) HE.out
            · have HB := Lib.hid (show Lex.numBad s.data.toList = false by unfold Lex.numBad; rw [← HE.out, decide_eq_false h9, head_end (by omega), head_zero hs0 _ h0]; simp)
              go_wp2
              go_ret2
              exact num_ok HB.out (by rw [HE.out]) HE.out
        · by_cases hA : k < s.size
          · by_cases hL : Lex.isLet s[k] = true
            · have HB := Lib.hid (show Lex.numBad s.data.toList = true by unfold Lex.numBad; rw [← HE.out, head_drop hA, hL]; simp)
              have hnd : Lex.isDig s[k] = false := by have := Lex.digLen_end s.data.toList (by rw [← HE.out]; simpa using hA); simp only [← HE.out] at this; exact this
              go_wp2_with (first | (go_at_call 26; refine (digit_any _ _).mono ?_; rintro e w' ⟨rfl, rfl⟩) | (go_at_call 22; refine (letter_any _ _).mono ?_; rintro e w' ⟨rfl, rfl⟩))
              exact ⟨rfl, num_bad HB.out⟩
            · have hL := Bool.eq_false_iff.2 hL
              have HB := Lib.hid (show Lex.numBad s.data.toList = false by unfold Lex.numBad; rw [← HE.out, decide_eq_false h9, decide_eq_false h1, head_drop hA, hL]; rfl)
              have hnd : Lex.isDig s[k] = false := by have := Lex.digLen_end s.data.toList (by rw [← HE.out]; simpa using hA); simp only [← HE.out] at this; exact this
              go_wp2_with (first | (go_at_call 26; refine (digit_any _ _).mono ?_; rintro e w' ⟨rfl, rfl⟩) | (go_at_call 22; refine (letter_any _ _).mono ?_; rintro e w' ⟨rfl, rfl⟩))
              go_ret2
              exact num_ok HB.out (by rw [HE.out]) HE.out
          · have HB := Lib.hid (show Lex.numBad s.data.toList = false by unfold Lex.numBad; rw [← HE.out, decide_eq_false h9, decide_eq_false h1, head_end (by omega)]; rfl)
            go_wp2
            go_ret2
            exact num_ok HB.out (by rw [HE.out]) HE.out
end Go.Proofs.Ytepofemoodaknaa.Q
