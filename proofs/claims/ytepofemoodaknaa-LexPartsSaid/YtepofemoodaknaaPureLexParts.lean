/- A text that is cut behind one of its words has just the words up to there: the pure statement of LexParts, proved; no further condition. -/
import Derived.Test.YtepofemoodaknaaQx26
import Derived.Test.YtepofemoodaknaaAwake
namespace Go.Proofs.Ytepofemoodaknaa.Pure
open Go.RowKit Go.Proofs.Ytepofemoodaknaa.Q Go.Proofs.YtepofemoodaknaaW.PrintWords Go.Proofs.YtepofemoodaknaaW.PrintLast Go.Proofs.Ytepofemoodaknaa
namespace Parts
theorem rd32 {l : List S32} {i : Nat} (h : i < l.length) : rd_T32 l (i : Int) = l[i] := by
  simp [rd_T32, List.getD, List.getElem?_eq_getElem h]
theorem same_l (l : List S32) (hl : l.length ≤ 1500) : ∀ (m i : Nat), l.length = i + m → Ev (fun k => selvageref04_Same.l0 k l l (i : Int)) true
  | 0, i, hm => by
    refine Ev.step (f := fun _ => some true) (fun k => ?_) (Ev.now _)
    simp only [selvageref04_Same.l0]
    rw [if_neg (by omega)]
  | m + 1, i, hm => by
    have ih := same_l l hl m (i + 1) (by omega)
    refine Ev.step (fun k => ?_) ih
    simp only [selvageref04_Same.l0]
    rw [if_pos (by omega), if_pos (by omega), if_pos (by omega), wrap_of (by omega) (by omega)]
    simp
theorem same_f (l : List S32) (hl : l.length ≤ 1500) : Ev (fun k => selvageref04_Same.f k l l) true := by
  refine Ev.congr (fun k => ?_) (same_l l hl l.length 0 (by omega))
  unfold selvageref04_Same.f
  rw [if_pos rfl]
  rfl
/-- Cut at E: where the next word begins ahead of E, the blanks are as they were. -/
theorem start_cut (s : ByteArray) (E e : Nat) (h : F.start s e < E) : F.start (s.extract 0 E) e = F.start s e := by
  unfold F.start at h ⊢
  rw [Lex.extract_take, List.drop_take, F.blank_take false _ _ (by omega)]
theorem ext_cut (s : ByteArray) (E i j : Nat) (h : j ≤ E) : (s.extract 0 E).extract i j = s.extract i j := by
  apply F.ext_ba
  rw [Lex.extract_list, Lex.extract_take, List.take_take, Nat.min_eq_left h, Lex.extract_list]
theorem tok_cut {s : ByteArray} {E i n : Nat} {k v : Int} (h : Lex.tok (s.data.toList.drop i) = some (k, n, v)) (hE : i + n ≤ E) : Lex.tok ((s.extract 0 E).data.toList.drop i) = some (k, n, v) := by
  have hl : (s.extract 0 E).data.toList.drop i = (s.data.toList.drop i).take n ++ ((s.data.toList.drop i).take (E - i)).drop n := by
    rw [Lex.extract_take, List.drop_take]
    have := List.take_append_drop n ((s.data.toList.drop i).take (E - i))
    rw [List.take_take, Nat.min_eq_left (by omega)] at this
    exact this.symm
  rw [hl]
  refine F.tok_local h ?_
  rw [List.drop_take]
  by_cases he : E - i - n = 0
  · right
    rw [he, List.take_zero]
    exact F.quiet_nil
  · left
    rw [F.take_head (by omega)]
theorem chain_cut (s : ByteArray) : ∀ (ts : List S32) (e n : Nat) (hn : n < ts.length), F.Chain s e ts → F.Chain (s.extract 0 ((ts[n].f3).toNat + ts[n].f1.size)) e (ts.take (n + 1)) ∧ 0 ≤ ts[n].f3 ∧ (ts[n].f3).toNat + ts[n].f1.size ≤ s.size ∧ e ≤ (ts[n].f3).toNat
  | t :: ts, e, 0, hn, hc => by
    obtain ⟨k, m, v, ht, rfl, hc⟩ := hc
    have hp := F.tok_pos ht
    have hge := F.start_ge s e
    have hsz : (s.extract (F.start s e) (F.start s e + m)).size = m := by simp; omega
    simp only [List.getElem_cons_zero, Int.toNat_natCast, hsz]
    refine ⟨?_, by omega, by omega, hge⟩
    have hst := start_cut s (F.start s e + m) e (by omega)
    refine ⟨k, m, v, ?_, ?_, ?_⟩
    · rw [hst]; exact tok_cut ht (Nat.le_refl _)
    · rw [hst, ext_cut _ _ _ _ (Nat.le_refl _)]
    · rw [hst]
      show (s.extract 0 (F.start s e + m)).size ≤ F.start (s.extract 0 (F.start s e + m)) (F.start s e + m)
      have h1 := F.start_ge (s.extract 0 (F.start s e + m)) (F.start s e + m)
      have h2 : (s.extract 0 (F.start s e + m)).size = F.start s e + m := by simp; omega
      omega
  | t :: ts, e, n + 1, hn, hc => by
    obtain ⟨k, m, v, ht, rfl, hc⟩ := hc
    have hp := F.tok_pos ht
    have hge := F.start_ge s e
    simp only [List.length_cons] at hn
    obtain ⟨h1, h2, h3, h4⟩ := chain_cut s ts (F.start s e + m) n (by omega) hc
    simp only [List.getElem_cons_succ]
    refine ⟨?_, h2, h3, by omega⟩
    have hst := start_cut s ((ts[n].f3).toNat + ts[n].f1.size) e (by omega)
    refine ⟨k, m, v, ?_, ?_, ?_⟩
    · rw [hst]; exact tok_cut ht (by omega)
    · rw [hst, ext_cut _ _ _ _ (by omega)]
    · rw [hst]; exact h1
theorem core (s : ByteArray) (a : Int) (R : List S32) (h2 : s.size ≤ 8192) (h3 : F.Chain s 0 R) (h4 : R.length ≤ 1500) (ha : 0 ≤ a) (ha2 : a < (R.length : Int)) : Ev (fun k => selvagelaw04_LexParts.j0 k s a R false) true := by
  obtain ⟨n, rfl⟩ : ∃ n : Nat, a = (n : Int) := ⟨a.toNat, by omega⟩
  have hn : n < R.length := by omega
  obtain ⟨c1, c2, c3, _⟩ := chain_cut s R 0 n hn h3
  have hz : (s.extract 0 ((R[n].f3).toNat + R[n].f1.size)).size ≤ 8192 := by simp; omega
  have hok := F.ok_all hz c1 (by rw [List.length_take]; omega)
  have e1 : wrap64 (R[n].f3 + (R[n].f1.size : Int)) = (((R[n].f3).toNat + R[n].f1.size : Nat) : Int) := by rw [wrap_of (by omega) (by omega)]; omega
  refine Ev.step (f := fun k => (selvageref04_Same.f k (R.take (n + 1)) (R.take (n + 1)))) (fun k => ?_) (same_f _ (by rw [List.length_take]; omega))
  simp only [selvagelaw04_LexParts.j0]
  rw [if_neg (by simp), if_pos (by omega), if_pos (by omega), rd32 hn, e1, if_pos (by omega), if_pos (by omega)]
  have e3 : ((((R[n].f3).toNat + R[n].f1.size : Nat) : Int)).toNat = (R[n].f3).toNat + R[n].f1.size := by omega
  rw [e3, F.toks_f _ (by omega), hok, Option.bind_some]
  simp only [if_true]
  rw [wrap_of (by omega) (by omega), if_pos (by omega), if_pos (by omega)]
  have e2 : ((n : Int) + 1).toNat = n + 1 := by omega
  rw [e2]
  cases selvageref04_Same.f k (R.take (n + 1)) (R.take (n + 1)) <;> rfl
end Parts
theorem LexParts : selvagelaw04_LexParts.Pure := by
  intro s a hs ha
  refine Ev.rounds (g := fun k => selvagelaw04_LexParts.f k s a) ?_
  unfold selvagelaw04_LexParts.f
  refine Ev.bind F.awake ?_
  simp only [if_true, F.toks_f s (by omega), Option.bind_some]
  rcases h : toksAll s with ⟨R, y, x⟩
  simp only
  have out : Ev (fun k => selvagelaw04_LexParts.j0 k s a R true) true := by
    refine Ev.step (f := fun _ => some true) (fun k => ?_) (Ev.now _)
    simp only [selvagelaw04_LexParts.j0]
    rw [if_pos trivial]
  by_cases hy : y = 0
  · subst hy
    simp only [if_true]
    by_cases h0 : a < 0
    · simp only [if_pos h0]
      exact out
    · simp only [if_neg h0]
      by_cases h1 : a ≥ (R.length : Int)
      · rw [decide_eq_true h1]
        exact out
      · rw [decide_eq_false h1]
        obtain ⟨h2, h3, h4, rfl⟩ := F.all_ok h
        exact Parts.core s a R h2 h3 h4 (by omega) (by omega)
  · simp only [if_neg hy]
    exact out
end Go.Proofs.Ytepofemoodaknaa.Pure
