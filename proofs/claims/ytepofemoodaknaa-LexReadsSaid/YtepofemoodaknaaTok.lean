/- The word in front of a text: the contract of lex.token. -/
import Derived.Test.YtepofemoodaknaaPre
namespace Go.Proofs.Ytepofemoodaknaa.Q
open Go.RowKit Go.Proofs.YtepofemoodaknaaW.PrintWords Go.Proofs.YtepofemoodaknaaW.PrintLast Go.Proofs.YtepofemoodaknaaW.PrintMore Go.Proofs.Ytepofemoodaknaa
def TokEnd (s : ByteArray) (at_ : Int) (w : World) (e : Ending) (w' : World) : Prop :=
  (match Lex.tok s.data.toList with
    | none => e = .panicked (brokenE 10 at_)
    | some (k, n, v) => e = .returned (.tuple #[.agg #[.int .i64 k, .string (s.extract 0 n), .int .i64 v, .int .i64 at_], .int .i64 (n : Int)])) ∧ Below w.heap.size w w'
theorem tok_bad {s : ByteArray} {at_ : Int} {w w' : World} (h : Lex.tok s.data.toList = none) (hb : Below w.heap.size w w') : TokEnd s at_ w (.panicked (brokenE 10 at_)) w' := ⟨by rw [h], hb⟩
theorem tok_ok {s : ByteArray} {at_ : Int} {w w' : World} {k v : Int} {n : Nat} (h : Lex.tok s.data.toList = some (k, n, v)) (hb : Below w.heap.size w w') :
    TokEnd s at_ w (.returned (.tuple #[.agg #[.int .i64 k, .string (s.extract 0 n), .int .i64 v, .int .i64 at_], .int .i64 (n : Int)])) w' := ⟨by rw [h], hb⟩
theorem number_bad (s : ByteArray) (at_ : Int) (w : World) (hs : s.size ≤ 140737488355328) (h : Lex.numBad s.data.toList = true) : Calls Try.prog 27 #[.string s, .int .i64 at_] w fun e w' => e = .panicked [{ v := .iface 37 (.agg #[.int .i64 10, .int .i64 at_]), recovered := false }] ∧ w = w' :=
  (number_any s at_ w hs).mono fun e w' ⟨h1, h2⟩ => ⟨by rw [if_pos h] at h1; exact h1, h2⟩
theorem number_ok (s : ByteArray) (at_ : Int) (w : World) (hs : s.size ≤ 140737488355328) (h : Lex.numBad s.data.toList = false) : Calls Try.prog 27 #[.string s, .int .i64 at_] w fun e w' => e = .returned (.tuple #[.int .i64 (Lex.numVal (s.data.toList.take (Lex.digLen s.data.toList))), .int .i64 (Lex.digLen s.data.toList : Nat)]) ∧ w = w' :=
  (number_any s at_ w hs).mono fun e w' ⟨h1, h2⟩ => ⟨by rw [if_neg (by simp [h])] at h1; exact h1, h2⟩
theorem head_let {s : ByteArray} (h : 0 < s.size) : ((s.data.toList.head?.map Lex.isLet).getD false) = Lex.isLet s[0] := head_drop (k := 0) h
theorem head_dig {s : ByteArray} (h : 0 < s.size) : ((s.data.toList.head?.map Lex.isDig).getD false) = Lex.isDig s[0] := by
  rw [List.head?_eq_getElem?, List.getElem?_eq_getElem (by simpa using h)]; rfl
set_option maxHeartbeats 4000000 in
set_option maxRecDepth 100000 in
theorem token_any (s : ByteArray) (at_ : Int) (w : World) (hs : s.size ≤ 140737488355328) (h0 : 0 < s.size) : Calls Try.prog 16 #[.string s, .int .i64 at_] w (TokEnd s at_ w) := by
  have HL := Lib.hid (head_let h0)
  have HD := Lib.hid (head_dig h0)
  have hu32 := Try.underlying32
  by_cases hL : Lex.isLet s[0] = true
  · have hwl := Lex.wordLen_le s.data.toList
    rw [Lex.toList_length] at hwl
    by_cases h16 : 16 < Lex.wordLen s.data.toList
    · have HT := Lib.hid (show Lex.tok s.data.toList = none by unfold Lex.tok; rw [HL.out, if_pos hL, if_pos h16])
      have c16 : decide (16 < (Lex.wordLen s.data.toList : Int)) = true := decide_eq_true (by omega)
      go_enter Try.func16, Try.ntmps16
      go_wp2_with (first | (go_at_call 22; refine (letter_any _ _).mono ?_; rintro e w' ⟨rfl, rfl⟩) | (go_at_call 26; refine (digit_any _ _).mono ?_; rintro e w' ⟨rfl, rfl⟩) | (go_at_call 24; refine (word_any _ _ (by omega)).mono ?_; rintro e w' ⟨rfl, ⟨nd, rfl⟩⟩) | (go_at_call 23; refine (key_any _ _).mono ?_; rintro e w' ⟨rfl, ⟨nd, rfl⟩⟩) | (go_at_call 28; refine (sign_any _ _ h0).mono ?_; rintro e w' ⟨rfl, ⟨nd, rfl⟩⟩))
      exact ⟨rfl, tok_bad HT.out (by repeat (first | exact Below.refl _ _ | (refine below_set ?_ (by omega)) | apply below_alloc | apply pw_below_drewN | apply below_drew1))⟩
    · have c16 : decide (16 < (Lex.wordLen s.data.toList : Int)) = false := decide_eq_false (by omega)
      by_cases hK : Lex.isKey (List.take (Lex.wordLen s.data.toList) s.data.toList) = true
      · have HT := Lib.hid (show Lex.tok s.data.toList = some (2, Lex.wordLen s.data.toList, 0) by unfold Lex.tok; rw [HL.out, if_pos hL, if_neg h16, if_pos hK])
        go_enter Try.func16, Try.ntmps16
        go_wp2_with (first | (go_at_call 22; refine (letter_any _ _).mono ?_; rintro e w' ⟨rfl, rfl⟩) | (go_at_call 26; refine (digit_any _ _).mono ?_; rintro e w' ⟨rfl, rfl⟩) | (go_at_call 24; refine (word_any _ _ (by omega)).mono ?_; rintro e w' ⟨rfl, ⟨nd, rfl⟩⟩) | (go_at_call 23; refine (key_any _ _).mono ?_; rintro e w' ⟨rfl, ⟨nd, rfl⟩⟩) | (go_at_call 28; refine (sign_any _ _ h0).mono ?_; rintro e w' ⟨rfl, ⟨nd, rfl⟩⟩))
        exact bodyPost_ret (v := .tuple #[.agg #[.int .i64 2, .string (s.extract 0 (Lex.wordLen s.data.toList)), .int .i64 0, .int .i64 at_], .int .i64 ((Lex.wordLen s.data.toList) : Nat)]) (by simp [results, Try.results16, go_sem]) rfl (tok_ok HT.out (by repeat (first | exact Below.refl _ _ | (refine below_set ?_ (by omega)) | apply below_alloc | apply pw_below_drewN | apply below_drew1)))
      · have HT := Lib.hid (show Lex.tok s.data.toList = some (1, Lex.wordLen s.data.toList, 0) by unfold Lex.tok; rw [HL.out, if_pos hL, if_neg h16, if_neg hK])
        have hK := Bool.eq_false_iff.2 hK
        go_enter Try.func16, Try.ntmps16
        go_wp2_with (first | (go_at_call 22; refine (letter_any _ _).mono ?_; rintro e w' ⟨rfl, rfl⟩) | (go_at_call 26; refine (digit_any _ _).mono ?_; rintro e w' ⟨rfl, rfl⟩) | (go_at_call 24; refine (word_any _ _ (by omega)).mono ?_; rintro e w' ⟨rfl, ⟨nd, rfl⟩⟩) | (go_at_call 23; refine (key_any _ _).mono ?_; rintro e w' ⟨rfl, ⟨nd, rfl⟩⟩) | (go_at_call 28; refine (sign_any _ _ h0).mono ?_; rintro e w' ⟨rfl, ⟨nd, rfl⟩⟩))
        exact bodyPost_ret (v := .tuple #[.agg #[.int .i64 1, .string (s.extract 0 (Lex.wordLen s.data.toList)), .int .i64 0, .int .i64 at_], .int .i64 ((Lex.wordLen s.data.toList) : Nat)]) (by simp [results, Try.results16, go_sem]) rfl (tok_ok HT.out (by repeat (first | exact Below.refl _ _ | (refine below_set ?_ (by omega)) | apply below_alloc | apply pw_below_drewN | apply below_drew1)))
  · have hL := Bool.eq_false_iff.2 hL
    by_cases hD : Lex.isDig s[0] = true
    · have hdl := Lex.digLen_le s.data.toList
      rw [Lex.toList_length] at hdl
      by_cases hN : Lex.numBad s.data.toList = true
      · have HT := Lib.hid (show Lex.tok s.data.toList = none by unfold Lex.tok; rw [HL.out, if_neg (by simp [hL]), HD.out, if_pos hD, if_pos hN])
        go_enter Try.func16, Try.ntmps16
        go_wp2_with (first | (go_at_call 22; refine (letter_any _ _).mono ?_; rintro e w' ⟨rfl, rfl⟩) | (go_at_call 26; refine (digit_any _ _).mono ?_; rintro e w' ⟨rfl, rfl⟩) | (go_at_call 24; refine (word_any _ _ (by omega)).mono ?_; rintro e w' ⟨rfl, ⟨nd, rfl⟩⟩) | (go_at_call 23; refine (key_any _ _).mono ?_; rintro e w' ⟨rfl, ⟨nd, rfl⟩⟩) | (go_at_call 28; refine (sign_any _ _ h0).mono ?_; rintro e w' ⟨rfl, ⟨nd, rfl⟩⟩) | (go_at_call 27; refine (number_bad _ _ _ hs hN).mono ?_; rintro e w' ⟨rfl, rfl⟩))
        exact ⟨rfl, tok_bad HT.out (by repeat (first | exact Below.refl _ _ | (refine below_set ?_ (by omega)) | apply below_alloc | apply pw_below_drewN | apply below_drew1))⟩
      · have HT := Lib.hid (show Lex.tok s.data.toList = some (3, Lex.digLen s.data.toList, Lex.numVal (s.data.toList.take (Lex.digLen s.data.toList))) by unfold Lex.tok; rw [HL.out, if_neg (by simp [hL]), HD.out, if_pos hD, if_neg hN])
        have HN := Lib.hid (Bool.eq_false_iff.2 hN)
        clear hN
        go_enter Try.func16, Try.ntmps16
        go_wp2_with (first | (go_at_call 22; refine (letter_any _ _).mono ?_; rintro e w' ⟨rfl, rfl⟩) | (go_at_call 26; refine (digit_any _ _).mono ?_; rintro e w' ⟨rfl, rfl⟩) | (go_at_call 24; refine (word_any _ _ (by omega)).mono ?_; rintro e w' ⟨rfl, ⟨nd, rfl⟩⟩) | (go_at_call 23; refine (key_any _ _).mono ?_; rintro e w' ⟨rfl, ⟨nd, rfl⟩⟩) | (go_at_call 28; refine (sign_any _ _ h0).mono ?_; rintro e w' ⟨rfl, ⟨nd, rfl⟩⟩) | (go_at_call 27; refine (number_ok _ _ _ hs HN.out).mono ?_; rintro e w' ⟨rfl, rfl⟩))
        exact bodyPost_ret (v := .tuple #[.agg #[.int .i64 3, .string (s.extract 0 (Lex.digLen s.data.toList)), .int .i64 (Lex.numVal (s.data.toList.take (Lex.digLen s.data.toList))), .int .i64 at_], .int .i64 ((Lex.digLen s.data.toList) : Nat)]) (by simp [results, Try.results16, go_sem]) rfl (tok_ok HT.out (by repeat (first | exact Below.refl _ _ | (refine below_set ?_ (by omega)) | apply below_alloc | apply pw_below_drewN | apply below_drew1)))
    · have hD := Bool.eq_false_iff.2 hD
      have hsl := Lex.signLen_le s.data.toList
      rw [Lex.toList_length] at hsl
      by_cases hZ : Lex.signLen s.data.toList = 0
      · have HT := Lib.hid (show Lex.tok s.data.toList = none by unfold Lex.tok; rw [HL.out, if_neg (by simp [hL]), HD.out, if_neg (by simp [hD]), if_pos hZ])
        have cz : ((Lex.signLen s.data.toList : Int) == 0) = true := by rw [hZ]; rfl
        clear hZ
        go_enter Try.func16, Try.ntmps16
        go_wp2_with (first | (go_at_call 22; refine (letter_any _ _).mono ?_; rintro e w' ⟨rfl, rfl⟩) | (go_at_call 26; refine (digit_any _ _).mono ?_; rintro e w' ⟨rfl, rfl⟩) | (go_at_call 24; refine (word_any _ _ (by omega)).mono ?_; rintro e w' ⟨rfl, ⟨nd, rfl⟩⟩) | (go_at_call 23; refine (key_any _ _).mono ?_; rintro e w' ⟨rfl, ⟨nd, rfl⟩⟩) | (go_at_call 28; refine (sign_any _ _ h0).mono ?_; rintro e w' ⟨rfl, ⟨nd, rfl⟩⟩))
        exact ⟨rfl, tok_bad HT.out (by repeat (first | exact Below.refl _ _ | (refine below_set ?_ (by omega)) | apply below_alloc | apply pw_below_drewN | apply below_drew1))⟩
      · have HT := Lib.hid (show Lex.tok s.data.toList = some (4, Lex.signLen s.data.toList, 0) by unfold Lex.tok; rw [HL.out, if_neg (by simp [hL]), HD.out, if_neg (by simp [hD]), if_neg hZ])
        have cz : ((Lex.signLen s.data.toList : Int) == 0) = false := beq_eq_false_iff_ne.2 (by omega)
        go_enter Try.func16, Try.ntmps16
        go_wp2_with (first | (go_at_call 22; refine (letter_any _ _).mono ?_; rintro e w' ⟨rfl, rfl⟩) | (go_at_call 26; refine (digit_any _ _).mono ?_; rintro e w' ⟨rfl, rfl⟩) | (go_at_call 24; refine (word_any _ _ (by omega)).mono ?_; rintro e w' ⟨rfl, ⟨nd, rfl⟩⟩) | (go_at_call 23; refine (key_any _ _).mono ?_; rintro e w' ⟨rfl, ⟨nd, rfl⟩⟩) | (go_at_call 28; refine (sign_any _ _ h0).mono ?_; rintro e w' ⟨rfl, ⟨nd, rfl⟩⟩))
        exact bodyPost_ret (v := .tuple #[.agg #[.int .i64 4, .string (s.extract 0 (Lex.signLen s.data.toList)), .int .i64 0, .int .i64 at_], .int .i64 ((Lex.signLen s.data.toList) : Nat)]) (by simp [results, Try.results16, go_sem]) rfl (tok_ok HT.out (by repeat (first | exact Below.refl _ _ | (refine below_set ?_ (by omega)) | apply below_alloc | apply pw_below_drewN | apply below_drew1)))
end Go.Proofs.Ytepofemoodaknaa.Q
