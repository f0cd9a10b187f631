/- The words of a text are what stands at their places, one behind the other, between them blanks and remarks alone: the pure statement of LexPlaces, proved; no further condition. -/
import Derived.Test.YtepofemoodaknaaQx24
import Derived.Test.YtepofemoodaknaaAwake
namespace Go.Proofs.Ytepofemoodaknaa.Pure
open Go.RowKit Go.Proofs.Ytepofemoodaknaa.Q Go.Proofs.YtepofemoodaknaaW.PrintWords Go.Proofs.YtepofemoodaknaaW.PrintLast Go.Proofs.Ytepofemoodaknaa
namespace Places
theorem rd32 {l : List S32} {i : Nat} (h : i < l.length) : rd_T32 l (i : Int) = l[i] := by
  simp [rd_T32, List.getD, List.getElem?_eq_getElem h]
/-- The blanks up to the next word, or the end: from a place on, within a remark or not; what is left is blanks, and at the end no remark is open unless the text ends there. -/
theorem gap (s : ByteArray) (hs : s.size ≤ 8192) (L : List S32) (x6 : Int) (j : Nat) (next : Nat) (hn : next ≤ s.size) (last : next < s.size → ∃ t, Lex.tok (s.data.toList.drop next) = some t)
    (hj6 : Ev (fun k => selvagelaw04_LexPlaces.j6 k s L x6 (j : Int) (next : Int) false) true) (hopen : next = s.size ∧ L.length ≤ j ∨ next < s.size) :
    ∀ (m : Nat) (b : Bool) (p : Nat), next = p + m → Lex.blankLen b (s.data.toList.drop p) = m → Ev (fun k => selvagelaw04_LexPlaces.l1 k s L x6 (j : Int) (next : Int) b (p : Int)) true
  | 0, b, p, hm, hb => by
    obtain rfl : next = p := by omega
    cases b with
    | false =>
      refine Ev.step (fun k => ?_) hj6
      simp only [selvagelaw04_LexPlaces.l1]
      rw [if_neg (by omega), if_neg (by simp)]
    | true =>
      rcases hopen with ⟨h1, h2⟩ | h1
      · refine Ev.step (fun k => ?_) hj6
        simp only [selvagelaw04_LexPlaces.l1]
        rw [if_neg (by omega), if_pos trivial, decide_eq_false (by omega)]
      · exfalso
        have hd : s.data.toList.drop next = s.data.toList[next]'(by simpa using h1) :: s.data.toList.drop (next + 1) := List.drop_eq_getElem_cons (by simpa using h1)
        rw [hd] at hb
        unfold Lex.blankLen at hb
        split at hb <;> omega
  | m + 1, b, p, hm, hb => by
    have hp : p < s.size := by omega
    have hd : s.data.toList.drop p = s.data.toList[p]'(by simpa using hp) :: s.data.toList.drop (p + 1) := List.drop_eq_getElem_cons (by simpa using hp)
    have hbt : bt s (p : Int) = ((s.data.toList[p]'(by simpa using hp)).toNat : Int) := bt_of hp
    generalize s.data.toList[p]'(by simpa using hp) = c at hd hbt
    rw [hd] at hb
    have q : ∀ (n : Nat) (u : UInt8), u.toNat = n → (((c.toNat : Int) = (n : Int)) ↔ c = u) := by
      intro n u hu
      rw [← UInt8.toNat_inj, hu]
      omega
    have q35 : ((c.toNat : Int) = 35) ↔ c = 35 := q 35 35 rfl
    have q32 : ((c.toNat : Int) = 32) ↔ c = 32 := q 32 32 rfl
    have q9 : ((c.toNat : Int) = 9) ↔ c = 9 := q 9 9 rfl
    have q10 : ((c.toNat : Int) = 10) ↔ c = 10 := q 10 10 rfl
    have q13 : ((c.toNat : Int) = 13) ↔ c = 13 := q 13 13 rfl
    have e13 : ((c.toNat : Int) != 13) = (c != 13) := by
      rw [Bool.eq_iff_iff, bne_iff_ne, bne_iff_ne]
      exact not_congr q13
    -- one byte further
    have fin : ∀ b' , (c = 10 → b' = true ∨ b' = false) → Lex.blankLen (if c = 10 then false else b') (s.data.toList.drop (p + 1)) = m → Ev (fun k => selvagelaw04_LexPlaces.j5 k s L x6 (j : Int) (next : Int) b' (p : Int) (c.toNat : Int) false) true := by
      intro b' _ hb'
      by_cases h10 : c = 10
      · rw [if_pos h10] at hb'
        have ih := gap s hs L x6 j next hn last hj6 hopen m false (p + 1) (by omega) hb'
        refine Ev.step (fun k => ?_) ih
        simp only [selvagelaw04_LexPlaces.j5]
        rw [if_neg (by simp), if_pos (q10.2 h10), wrap_of (by omega) (by omega)]
        rfl
      · rw [if_neg h10] at hb'
        have ih := gap s hs L x6 j next hn last hj6 hopen m b' (p + 1) (by omega) hb'
        refine Ev.step (fun k => ?_) ih
        simp only [selvagelaw04_LexPlaces.j5]
        rw [if_neg (by simp), if_neg (fun h => h10 (q10.1 h)), wrap_of (by omega) (by omega)]
        rfl
    cases b with
    | true =>
      have hb2 : Lex.blankLen (if c = 10 then false else true) (s.data.toList.drop (p + 1)) = m := by
        unfold Lex.blankLen at hb
        by_cases h10 : c = 10
        · rw [if_pos (by simp [h10])] at hb; rw [if_pos h10]; omega
        · rw [if_neg (by simp [h10])] at hb; rw [if_neg h10]; omega
      have h5 := fin true (fun _ => .inl rfl) hb2
      have h4 : Ev (fun k => selvagelaw04_LexPlaces.j4 k s L x6 (j : Int) (next : Int) true (p : Int) (c.toNat : Int)) true := by
        refine Ev.step (fun k => ?_) h5
        simp only [selvagelaw04_LexPlaces.j4]
        rw [if_pos trivial]
      refine Ev.step (fun k => ?_) h4
      simp only [selvagelaw04_LexPlaces.l1]
      rw [if_pos (by omega), if_pos (by omega), if_pos (by omega), hbt]
      split <;> rfl
    | false =>
      unfold Lex.blankLen at hb
      by_cases hB : Lex.isBlank c = true
      · rw [if_pos hB] at hb
        have hcs : c = 32 ∨ c = 9 ∨ c = 10 ∨ c = 13 := by
          simp only [Lex.isBlank, Bool.or_eq_true, beq_iff_eq] at hB
          rcases hB with ((h | h) | h) | h <;> simp [h]
        have hc35 : ¬ c = 35 := by rcases hcs with rfl | rfl | rfl | rfl <;> decide
        have h5 := fin false (fun _ => .inr rfl) (by
          have : (if c = 10 then false else false) = false := by split <;> rfl
          rw [this]; omega)
        have h4 : Ev (fun k => selvagelaw04_LexPlaces.j4 k s L x6 (j : Int) (next : Int) false (p : Int) (c.toNat : Int)) true := by
          refine Ev.step (fun k => ?_) h5
          simp only [selvagelaw04_LexPlaces.j4]
          rw [if_neg (by simp)]
          by_cases d1 : c = 32
          · rw [if_pos (q32.2 d1)]
          · rw [if_neg (fun h => d1 (q32.1 h))]
            by_cases d2 : c = 9
            · rw [if_pos (q9.2 d2)]
            · rw [if_neg (fun h => d2 (q9.1 h))]
              by_cases d3 : c = 10
              · rw [if_pos (q10.2 d3)]
              · rw [if_neg (fun h => d3 (q10.1 h)), e13]
                have : c = 13 := by rcases hcs with h | h | h | h <;> first | exact absurd h d1 | exact absurd h d2 | exact absurd h d3 | exact h
                rw [this]; rfl
        refine Ev.step (fun k => ?_) h4
        simp only [selvagelaw04_LexPlaces.l1]
        rw [if_pos (by omega), if_pos (by omega), if_pos (by omega), hbt, if_neg (fun h => hc35 (q35.1 h))]
      · rw [if_neg hB] at hb
        by_cases h35 : c = 35
        · rw [if_pos (by simp [h35])] at hb
          have h10 : ¬ c = 10 := by rw [h35]; decide
          have h5 := fin true (fun _ => .inl rfl) (by rw [if_neg h10]; omega)
          have h4 : Ev (fun k => selvagelaw04_LexPlaces.j4 k s L x6 (j : Int) (next : Int) true (p : Int) (c.toNat : Int)) true := by
            refine Ev.step (fun k => ?_) h5
            simp only [selvagelaw04_LexPlaces.j4]
            rw [if_pos trivial]
          refine Ev.step (fun k => ?_) h4
          simp only [selvagelaw04_LexPlaces.l1]
          rw [if_pos (by omega), if_pos (by omega), if_pos (by omega), hbt, if_pos (q35.2 h35)]
        · rw [if_neg (by simp [h35])] at hb
          omega
theorem places (s : ByteArray) (hs : s.size ≤ 8192) (L : List S32) : ∀ (ts : List S32) (j e : Nat), F.Chain s e ts → L.drop j = ts → j ≤ L.length → e ≤ s.size → L.length ≤ 1500 → Ev (fun k => selvagelaw04_LexPlaces.l0 k s L (e : Int) (j : Int)) true
  | [], j, e, hc, hL, hj, he, hl => by
    have hst : s.size ≤ F.start s e := hc
    have hst2 := F.start_le s e he
    have hjl : j = L.length := by
      have := congrArg List.length hL
      rw [List.length_drop, List.length_nil] at this
      omega
    have h6 : Ev (fun k => selvagelaw04_LexPlaces.j6 k s L (e : Int) (j : Int) (s.size : Int) false) true := by
      refine Ev.step (f := fun k => selvagelaw04_LexPlaces.l0 k s L (e : Int) ((j + 1 : Nat) : Int)) (fun k => ?_) ?_
      · simp only [selvagelaw04_LexPlaces.j6]
        rw [if_neg (by simp), if_neg (by omega), wrap_of (by omega) (by omega)]
        rfl
      · refine Ev.step (f := fun _ => some true) (fun k => ?_) (Ev.now _)
        simp only [selvagelaw04_LexPlaces.l0]
        rw [if_neg (by omega)]
    have hg := gap s hs L (e : Int) j s.size (Nat.le_refl _) (fun h => by omega) h6 (.inl ⟨rfl, by omega⟩) (s.size - e) false e (by omega) (by unfold F.start at hst hst2; omega)
    have h2 : Ev (fun k => selvagelaw04_LexPlaces.j2 k s L (e : Int) (j : Int) (s.size : Int) false) true := by
      refine Ev.step (fun k => ?_) hg
      simp only [selvagelaw04_LexPlaces.j2]
      rw [if_neg (by simp)]
    have h1 : Ev (fun k => selvagelaw04_LexPlaces.j1 k s L (e : Int) (j : Int) (s.size : Int)) true := by
      refine Ev.step (fun k => ?_) h2
      simp only [selvagelaw04_LexPlaces.j1]
      rw [if_neg (by omega), decide_eq_false (by omega)]
    refine Ev.step (fun k => ?_) h1
    simp only [selvagelaw04_LexPlaces.l0]
    rw [if_pos (by omega), if_neg (by omega)]
  | t :: ts, j, e, hc, hL, hj, he, hl => by
    obtain ⟨k0, n, v, ht, htt, hc⟩ := hc
    have hp := F.tok_pos ht
    have hjl : j < L.length := by
      have := congrArg List.length hL
      rw [List.length_drop, List.length_cons] at this
      omega
    have hg0 : L[j] = t ∧ L.drop (j + 1) = ts := by
      rw [List.drop_eq_getElem_cons hjl] at hL
      exact List.cons.inj hL
    have hrd : rd_T32 L (j : Int) = t := by rw [rd32 hjl, hg0.1]
    have ih := places s hs L ts (j + 1) (F.start s e + n) hc hg0.2 (by omega) (by omega) hl
    have hge := F.start_ge s e
    have hf1 : t.f1.size = n := by rw [htt]; simp; omega
    have hf3 : t.f3 = (F.start s e : Int) := by rw [htt]
    have hext : (s.extract (F.start s e) (F.start s e + n)).toList = t.f1.toList := by rw [htt]
    have h6 : Ev (fun k => selvagelaw04_LexPlaces.j6 k s L (e : Int) (j : Int) (F.start s e : Int) false) true := by
      refine Ev.step (fun k => ?_) ih
      simp only [selvagelaw04_LexPlaces.j6]
      rw [if_neg (by simp), if_pos (by omega), if_pos (by omega), hrd, hf1, if_neg (by omega), wrap_of (x := (s.size : Int) - (F.start s e : Int)) (by omega) (by omega), if_neg (by omega), wrap_of (x := (F.start s e : Int) + (n : Int)) (by omega) (by omega), if_pos (by omega), if_pos (by omega), if_pos (by omega)]
      have e1 : ((F.start s e : Int)).toNat = F.start s e := by omega
      have e2 : ((F.start s e : Int) + (n : Int)).toNat = F.start s e + n := by omega
      rw [e1, e2, if_pos hext, wrap_of (by omega) (by omega)]
      rfl
    have hg := gap s hs L (e : Int) j (F.start s e) (by omega) (fun _ => ⟨_, ht⟩) h6 (.inr (by omega)) (F.start s e - e) false e (by omega) (by unfold F.start; omega)
    have h2 : Ev (fun k => selvagelaw04_LexPlaces.j2 k s L (e : Int) (j : Int) (F.start s e : Int) false) true := by
      refine Ev.step (fun k => ?_) hg
      simp only [selvagelaw04_LexPlaces.j2]
      rw [if_neg (by simp)]
    have h1 : Ev (fun k => selvagelaw04_LexPlaces.j1 k s L (e : Int) (j : Int) (F.start s e : Int)) true := by
      refine Ev.step (fun k => ?_) h2
      simp only [selvagelaw04_LexPlaces.j1]
      rw [if_neg (by omega), decide_eq_false (by omega)]
    refine Ev.step (fun k => ?_) h1
    simp only [selvagelaw04_LexPlaces.l0]
    rw [if_pos (by omega), if_pos (by omega), if_pos (by omega), hrd, hf3]
end Places

theorem LexPlaces : selvagelaw04_LexPlaces.Pure := by
  intro s hs
  refine Ev.rounds (g := fun k => selvagelaw04_LexPlaces.f k s) ?_
  unfold selvagelaw04_LexPlaces.f
  refine Ev.bind F.awake ?_
  simp only [if_true, F.toks_f s (by omega), Option.bind_some]
  rcases h : toksAll s with ⟨R, y, x⟩
  simp only
  by_cases hy : y = 0
  · subst hy
    obtain ⟨h1, h2, h3, rfl⟩ := F.all_ok h
    simp only [if_true]
    exact Places.places s h1 R R 0 0 h2 rfl (by omega) (by omega) h3
  · obtain ⟨rfl, h1, h2⟩ := F.all_bad h hy
    simp only [if_neg hy, List.length_nil, ge_iff_le, if_pos h1, decide_eq_true h2]
    exact Ev.now _
end Go.Proofs.Ytepofemoodaknaa.Pure
