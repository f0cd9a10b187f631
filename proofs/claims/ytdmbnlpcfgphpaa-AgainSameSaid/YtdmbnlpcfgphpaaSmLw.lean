/- Several of my texts in one: Rk, Tp1, Tp2, Pco, Las, LwSame, StAgainSame, PureAgainSame, RowAgainSame. -/
import Derived.Test.YtdmbnlpcfgphpaaSmQk
import Derived.Test.YtdmbnlpcfgphpaaRref
import Derived.Test.YtdmbnlpcfgphpaaSmOt
import Derived.Test.YtdmbnlpcfgphpaaSmTr
import Derived.Test.YtdmbnlpcfgphpaaPst
import Derived.Test.YtdmbnlpcfgphpaaSmQn
import Derived.Test.YtdmbnlpcfgphpaaAin
import Derived.Deep.RegionHeld3
import Derived.Test.YtdmbnlpcfgphpaaRun
import Derived.Test.YtdmbnlpcfgphpaaRows
import Derived.Test.YtdmbnlpcfgphpaaOpen
import Derived.WalkKit
import Derived.ProofKit
import Derived.OpenShut
import Derived.ShutString
import Derived.ChangeOld
import Derived.Below
import Derived.SizedLaws
namespace Go.Proofs.Ytdmbnlpcfgphpaa.Q
open Go.RowKit Go.Proofs.YtdmbnlpcfgphpaaW.PrintWords Go.Proofs.YtdmbnlpcfgphpaaW.PrintLast Go.Proofs.YtdmbnlpcfgphpaaW.PrintMore
set_option linter.unusedVariables false
set_option linter.unusedSimpArgs false
theorem atomic_ev (o : Int) : selvageref13_atomic.f o = some (isAtom o) := by
  unfold selvageref13_atomic.f isAtom
  by_cases h8 : o = 8
  · rw [if_pos h8, h8]; rfl
  by_cases h9 : o = 9
  · rw [if_neg h8, if_pos h9, h9]; rfl
  by_cases h10 : o = 10
  · rw [if_neg h8, if_neg h9, if_pos h10, h10]; rfl
  by_cases h11 : o = 11
  · rw [if_neg h8, if_neg h9, if_neg h10, if_pos h11, h11]; rfl
  rw [if_neg h8, if_neg h9, if_neg h10, if_neg h11, beq_eq_false_iff_ne.2 h8, beq_eq_false_iff_ne.2 h9, beq_eq_false_iff_ne.2 h10, beq_eq_false_iff_ne.2 h11]
  rfl
section
variable {code : List S40}
theorem known_j3 (k : Nat) (i loc : Int) (b : Bool) (o d a bb f4 f5 k6 t7 : Int) : selvageref13_Known.j3 (k + 1) code i loc b o d a bb f4 f5 k6 t7 = if b = true then some (-1) else if isAtom o = true then some (-1) else selvageref13_Known.l0 k code i loc := by
  simp only [selvageref13_Known.j3]
  rw [atomic_ev, Option.bind_some]
theorem known_j2 (k : Nat) (i loc : Int) (b : Bool) (o d a bb f4 f5 k6 t7 : Int) (h : 0 ≤ f4 ∧ f4 ≤ 1000 ∧ 0 ≤ f5 ∧ f5 ≤ 1000) : selvageref13_Known.j2 (k + 2) code i loc b o d a bb f4 f5 k6 t7 = if b = true then some a else if (o = 14 ∧ f4 ≤ loc ∧ loc < f4 + f5) ∨ isAtom o = true then some (-1) else selvageref13_Known.l0 k code i loc := by
  simp only [selvageref13_Known.j2]
  split
  · rfl
  by_cases h14 : o = 14
  · rw [if_pos h14]
    by_cases h1 : loc ≥ f4
    · rw [if_pos h1, known_j3, wrap_of (by omega) (by omega)]
      by_cases h2 : loc < f4 + f5
      · rw [decide_eq_true h2, if_pos rfl, if_pos (Or.inl ⟨h14, h1, h2⟩)]
      · rw [decide_eq_false h2, if_neg (by decide)]
        by_cases ha : isAtom o = true
        · rw [if_pos ha, if_pos (Or.inr ha)]
        · rw [if_neg ha, if_neg (by rintro (h | h); exact h2 h.2.2; exact ha h)]
    · rw [if_neg h1, known_j3, if_neg (by decide)]
      by_cases ha : isAtom o = true
      · rw [if_pos ha, if_pos (Or.inr ha)]
      · rw [if_neg ha, if_neg (by rintro (h | h); exact h1 h.2.1; exact ha h)]
  · rw [if_neg h14, known_j3, if_neg (by decide)]
    by_cases ha : isAtom o = true
    · rw [if_pos ha, if_pos (Or.inr ha)]
    · rw [if_neg ha, if_neg (by rintro (h | h); exact h14 h.1; exact ha h)]
theorem known_j1 (k : Nat) (i loc : Int) (b : Bool) (o d a bb f4 f5 k6 t7 : Int) (h : 0 ≤ f4 ∧ f4 ≤ 1000 ∧ 0 ≤ f5 ∧ f5 ≤ 1000) : selvageref13_Known.j1 (k + 3) code i loc b o d a bb f4 f5 k6 t7 = if b = true then some d else if o = 7 ∧ f4 = loc then some a else if (o = 14 ∧ f4 ≤ loc ∧ loc < f4 + f5) ∨ isAtom o = true then some (-1) else selvageref13_Known.l0 k code i loc := by
  simp only [selvageref13_Known.j1]
  split
  · rfl
  by_cases h7 : o = 7
  · rw [if_pos h7, known_j2 _ _ _ _ _ _ _ _ _ _ _ _ h]
    by_cases he : f4 = loc
    · rw [if_pos (by simp [he]), if_pos ⟨h7, he⟩]
    · rw [if_neg (by simp [he]), if_neg (show ¬ (o = 7 ∧ f4 = loc) from fun h => he h.2)]
  · rw [if_neg h7, known_j2 _ _ _ _ _ _ _ _ _ _ _ _ h, if_neg (by decide), if_neg (show ¬ (o = 7 ∧ f4 = loc) from fun h => h7 h.1)]
theorem known_Ev (t : Tr code) (hL : Lb code) : ∀ i, i < code.length → ∀ loc, Ev (fun m => selvageref13_Known.l0 m code (i : Int) loc) ((kw code i loc).getD (-1)) := by
  intro i
  induction i using Nat.strongRecOn with
  | ind i ih =>
    intro hi loc
    by_cases h0 : i = 0
    · subst h0
      refine ⟨1, fun k hk => ?_⟩
      obtain ⟨q, rfl⟩ : ∃ q, k = q + 1 := ⟨k - 1, by omega⟩
      simp only [selvageref13_Known.l0]
      rw [if_neg (by decide)]
      rfl
    have hl := t.lt i (by omega) hi
    have hp : par code i < code.length := by omega
    obtain ⟨K1, h1⟩ := before_Ev code i (by omega) (by have := t.n4; omega)
    obtain ⟨K2, h2⟩ := ih (par code i) hl hp loc
    have hb : bl code i 0 i = [(par code i : Int)] := t.one i (by omega) hi
    refine ⟨K1 + K2 + 5, fun k hk => ?_⟩
    obtain ⟨q, rfl⟩ : ∃ q, k = q + 4 := ⟨k - 4, by omega⟩
    have hB := h1 (q + 3) (by omega)
    dsimp only at hB
    have hI := h2 q (by omega)
    dsimp only at hI
    have e0 : rd [(par code i : Int)] 0 = (par code i : Int) := rfl
    have e1 : rd_T40 code (par code i : Int) = ins code (par code i) := rfl
    simp only [selvageref13_Known.l0]
    rw [if_pos (by omega), hB, hb, Option.bind_some, if_pos (by simp), e0, if_pos (by omega), if_pos (by omega), e1]
    rw [known_j1 _ _ _ _ _ _ _ _ _ _ _ _ (hL _ hp), known_j1 _ _ _ _ _ _ _ _ _ _ _ _ (hL _ hp), hI, kw_step t (by omega) hi]
    by_cases h6 : (ins code (par code i)).f0 = 6
    · rw [if_pos h6]
      by_cases he : (ins code (par code i)).f4 = loc
      · rw [if_pos (by simp [he]), if_pos ⟨h6, he⟩]; rfl
      · rw [if_neg (by simp [he]), if_neg (show ¬ ((ins code (par code i)).f0 = 6 ∧ (ins code (par code i)).f4 = loc) from fun h => he h.2)]
        by_cases h7 : (ins code (par code i)).f0 = 7 ∧ (ins code (par code i)).f4 = loc
        · exact absurd h7.2 he
        · rw [if_neg h7, if_neg h7]
          split <;> rfl
    · rw [if_neg h6, if_neg (by decide), if_neg (show ¬ ((ins code (par code i)).f0 = 6 ∧ (ins code (par code i)).f4 = loc) from fun h => h6 h.1)]
      by_cases h7 : (ins code (par code i)).f0 = 7 ∧ (ins code (par code i)).f4 = loc
      · rw [if_pos h7, if_pos h7]; rfl
      · rw [if_neg h7, if_neg h7]
        split <;> rfl
theorem kw_bd (t : Tr code) {i : Nat} (hi : i < code.length) {loc u : Int} (h : kw code i loc = some u) : 0 ≤ u ∧ u < 400 := by
  obtain ⟨k, k1, k2, k3, k4⟩ := kw_made t i hi h
  rw [← k4]
  exact tmp_bd (t.tD k (by omega))
theorem rspare_Ev (t : Tr code) (hL : Lb code) {i : Nat} (hi : i < code.length) : Ev (fun m => selvageref13_Spare.f m code (i : Int)) (spr code i) := by
  obtain ⟨K, h⟩ := known_Ev t hL i hi (ins code i).f4
  refine ⟨K, fun k hk => ?_⟩
  have h1 := h k hk
  dsimp only at h1
  have e1 : rd_T40 code (i : Int) = ins code i := rfl
  unfold selvageref13_Spare.f
  dsimp only
  rw [if_pos (by omega), if_pos (by omega), e1]
  unfold spr
  by_cases h6 : (ins code i).f0 = 6
  · rw [if_pos h6, h6]
    unfold selvageref13_Known.f
    rw [h1, Option.bind_some]
    cases hk : kw code i (ins code i).f4 with
    | none => rfl
    | some u =>
      have := kw_bd t hi hk
      show some (decide (u ≥ 0)) = _
      rw [decide_eq_true this.1]; rfl
  · rw [if_neg h6, beq_eq_false_iff_ne.2 h6]; rfl
end
end Go.Proofs.Ytdmbnlpcfgphpaa.Q
namespace Go.Proofs.Ytdmbnlpcfgphpaa.Q
open Go.RowKit Go.Proofs.YtdmbnlpcfgphpaaW.PrintWords Go.Proofs.YtdmbnlpcfgphpaaW.PrintLast Go.Proofs.YtdmbnlpcfgphpaaW.PrintMore
set_option linter.unusedVariables false
set_option linter.unusedSimpArgs false
theorem stp_end (x : S40) (i : Int) (T s : List Int) (hok : okO x.f0 = true) (he : endsA x T = true) : (stp x i T s).fin ≠ 0 ∧ (stp x i T s).fin ≠ 4 ∧ (stp x i T s).new = [] := by
  obtain ⟨o, d, a, b, loc, len, kk, tt⟩ := x
  dsimp only at hok
  rcases op_cases hok with rfl | rfl | rfl | rfl | rfl | rfl | rfl | rfl | rfl | rfl | rfl | rfl | rfl | rfl | rfl | rfl | rfl | rfl <;> simp [endsA] at he
  · simp [stp, he, stGo]
  · have : outb ⟨13, d, a, b, loc, len, kk, tt⟩ T = true := by simpa [outb] using he
    simp [stp, this, stGo]
  · have : outb ⟨14, d, a, b, loc, len, kk, tt⟩ T = true := by simpa [outb] using he
    simp [stp, this, stGo]
  · simp [stp, stGo]
theorem stp_asks (x : S40) (i : Int) (T : List Int) (hok : okO x.f0 = true) (he : endsA x T = false) (ha : isAsk x.f0 = true) : (stp x i T []).fin = 4 ∧ (stp x i T []).new = [] ∧ ∀ y, (stp x i T [y]).next = tnxt x i T y ∧ (stp x i T [y]).T = tnew x T y ∧ ∃ a, (stp x i T [y]).new = [a] := by
  obtain ⟨o, d, a, b, loc, len, kk, tt⟩ := x
  dsimp only at hok ha
  rcases op_cases hok with rfl | rfl | rfl | rfl | rfl | rfl | rfl | rfl | rfl | rfl | rfl | rfl | rfl | rfl | rfl | rfl | rfl | rfl <;> simp [isAsk] at ha
  · simp [stp, stAsk, tnxt, tnew]
  · simp [stp, stAsk, tnxt, tnew]
  · simp [stp, stAsk, tnxt, tnew]
  · simp [stp, stAsk, tnxt, tnew]
  · refine ⟨rfl, rfl, fun y => ?_⟩
    by_cases hy : y = rd T a <;> simp [stp, stCas, tnxt, tnew, hy]
  · have : outb ⟨13, d, a, b, loc, len, kk, tt⟩ T = false := by simpa [endsA, outb] using he
    simp [stp, stAsk, tnxt, tnew, this]
theorem stp_rest (x : S40) (i : Int) (T : List Int) (hok : okO x.f0 = true) (he : endsA x T = false) (ha : isAsk x.f0 = false) : (stp x i T []).fin = 0 ∧ (stp x i T []).next = tnxt x i T 0 ∧ (stp x i T []).T = tnew x T 0 ∧ ∃ a, (stp x i T []).new = if isTell x.f0 = true then [a] else [] := by
  obtain ⟨o, d, a, b, loc, len, kk, tt⟩ := x
  dsimp only at hok ha
  rcases op_cases hok with rfl | rfl | rfl | rfl | rfl | rfl | rfl | rfl | rfl | rfl | rfl | rfl | rfl | rfl | rfl | rfl | rfl | rfl <;> simp [isAsk] at ha
  · simp [stp, stSet, tnxt, tnew, isTell]; exact ⟨⟨0, 0, 0, 0⟩, trivial⟩
  · simp [stp, stSet, tnxt, tnew, isTell]; exact ⟨⟨0, 0, 0, 0⟩, trivial⟩
  · simp [stp, stSet, tnxt, tnew, isTell]; exact ⟨⟨0, 0, 0, 0⟩, trivial⟩
  · simp [stp, stSet, tnxt, tnew, isTell]; exact ⟨⟨0, 0, 0, 0⟩, trivial⟩
  · have : ¬ rd T b = 0 := by simpa [endsA] using he
    simp [stp, stSet, tnxt, tnew, isTell, this]; exact ⟨⟨0, 0, 0, 0⟩, trivial⟩
  · simp [stp, stTell, tnxt, tnew, isTell]
  · simp [stp, stTell, tnxt, tnew, isTell]
  · have : outb ⟨14, d, a, b, loc, len, kk, tt⟩ T = false := by simpa [endsA, outb] using he
    simp [stp, stTell, tnxt, tnew, isTell, this]
  · simp [stp, stTell, tnxt, tnew, isTell]
  · by_cases hy : rd T a < rd T b <;> simp [stp, stGo, tnxt, tnew, isTell, hy] <;> exact ⟨⟨0, 0, 0, 0⟩, trivial⟩
  · by_cases hy : rd T a = rd T b <;> simp [stp, stGo, tnxt, tnew, isTell, hy] <;> exact ⟨⟨0, 0, 0, 0⟩, trivial⟩
  · simp [endsA] at he
end Go.Proofs.Ytdmbnlpcfgphpaa.Q
namespace Go.Proofs.Ytdmbnlpcfgphpaa.Q
open Go.RowKit Go.Proofs.YtdmbnlpcfgphpaaW.PrintWords Go.Proofs.YtdmbnlpcfgphpaaW.PrintLast Go.Proofs.YtdmbnlpcfgphpaaW.PrintMore
set_option linter.unusedVariables false
set_option linter.unusedSimpArgs false
section
variable {code : List S40}
theorem tr_ok (t : Tr code) {i : Nat} (hi : i < code.length) : trOk code (i : Int) = true := by
  have h1 := tmp_bd (t.tD i hi)
  have h2 := tmp_bd (t.tA i hi)
  have h3 := tmp_bd (t.tB i hi)
  simp only [trOk, Bool.and_eq_true, Bool.or_eq_true, decide_eq_true_eq, Bool.not_eq_true', Int.toNat_natCast]
  refine ⟨⟨⟨⟨⟨⟨by omega, by omega⟩, t.ok i hi⟩, h1⟩, h2⟩, h3⟩, ?_⟩
  cases hT : usT (ins code i).f0
  · exact .inl rfl
  · have := (t.tgt i hi hT).1
    exact .inr (by omega)
/-- From some number of rounds on the reference's words answer at all pieces. -/
theorem ev_all (t : Tr code) (hL : Lb code) : ∃ K, ∀ n, K ≤ n → ∀ i, i < code.length → selvageref13_Spare.f n code (i : Int) = some (spr code i) ∧ selvageref13_Known.f n code (i : Int) (ins code i).f4 = some ((kw code i (ins code i).f4).getD (-1)) := by
  have h : ∀ m, m ≤ code.length → ∃ K, ∀ n, K ≤ n → ∀ i, i < m → selvageref13_Spare.f n code (i : Int) = some (spr code i) ∧ selvageref13_Known.f n code (i : Int) (ins code i).f4 = some ((kw code i (ins code i).f4).getD (-1)) := by
    intro m
    induction m with
    | zero => exact fun _ => ⟨0, fun n _ i hi => absurd hi (by omega)⟩
    | succ m ih =>
      intro hm
      obtain ⟨K, hK⟩ := ih (by omega)
      obtain ⟨K1, h1⟩ := rspare_Ev t hL (i := m) (by omega)
      obtain ⟨K2, h2⟩ := known_Ev t hL m (by omega) (ins code m).f4
      refine ⟨K + K1 + K2, fun n hn i hi => ?_⟩
      by_cases he : i < m
      · exact hK n (by omega) i he
      · obtain rfl : i = m := by omega
        exact ⟨h1 n (by omega), h2 n (by omega)⟩
  exact h code.length (Nat.le_refl _)
theorem tnxt_in (t : Tr code) {i : Nat} (hi : i < code.length) {T : List Int} (he : endsA (ins code i) T = false) (old : Int) : ∃ c : Nat, tnxt (ins code i) (i : Int) T old = (c : Int) ∧ i < c ∧ c < code.length := by
  have h18 : (ins code i).f0 ≠ 18 := fun e => by simp [endsA, e] at he
  have h1 := t.nx i hi h18
  have h2 := t.tgt i hi
  have key : tnxt (ins code i) (i : Int) T old = (i : Int) + 1 ∨ (tnxt (ins code i) (i : Int) T old = (ins code i).f7 ∧ usT (ins code i).f0 = true) := by
    unfold tnxt
    by_cases a1 : (ins code i).f0 = 16
    · rw [if_pos a1]
      split
      · exact .inl rfl
      · exact .inr ⟨rfl, by rw [a1]; decide⟩
    · rw [if_neg a1]
      by_cases a2 : (ins code i).f0 = 17
      · rw [if_pos a2]
        split
        · exact .inl rfl
        · exact .inr ⟨rfl, by rw [a2]; decide⟩
      · rw [if_neg a2]
        by_cases a3 : (ins code i).f0 = 12
        · rw [if_pos a3]
          split
          · exact .inl rfl
          · exact .inr ⟨rfl, by rw [a3]; decide⟩
        · rw [if_neg a3]
          exact .inl rfl
  rcases key with e | ⟨e, hT⟩
  · exact ⟨i + 1, by rw [e]; omega, by omega, h1⟩
  · have := h2 hT
    exact ⟨(ins code i).f7.toNat, by rw [e]; omega, by omega, by omega⟩
/-- What a round of the trail is, of a piece of right code. -/
theorem trlO_st {n : Nat} {fill : Bool} (t : Tr code) {i : Nat} (hi : i < code.length) (f : Nat) (T ans ps ts : List Int) :
    (endsA (ins code i) T = true → trlO n code fill (f + 1) (i : Int) T ans ps ts = some (ps, ts ++ ans)) ∧
    (endsA (ins code i) T = false → isAsk (ins code i).f0 = false → trlO n code fill (f + 1) (i : Int) T ans ps ts = trlO n code fill f (tnxt (ins code i) (i : Int) T 0) (tnew (ins code i) T 0) ans (if isTell (ins code i).f0 = true then ps ++ [(i : Int)] else ps) ts) ∧
    (endsA (ins code i) T = false → isAsk (ins code i).f0 = true → spO n code (i : Int) fill = some false → trlO n code fill (f + 1) (i : Int) T [] ps ts = some (ps, ts) ∧ ∀ y s, trlO n code fill (f + 1) (i : Int) T (y :: s) ps ts = trlO n code fill f (tnxt (ins code i) (i : Int) T y) (tnew (ins code i) T y) s (ps ++ [(i : Int)]) (ts ++ [y])) ∧
    (endsA (ins code i) T = false → isAsk (ins code i).f0 = true → spO n code (i : Int) fill = some true → ∀ kv, selvageref13_Known.f n code (i : Int) (ins code i).f4 = some kv → 0 ≤ kv → kv < 400 → trlO n code fill (f + 1) (i : Int) T ans ps ts = trlO n code fill f (tnxt (ins code i) (i : Int) T (rd T kv)) (tnew (ins code i) T (rd T kv)) ans (ps ++ [(i : Int)]) (ts ++ [rd T kv])) := by
  have ok := tr_ok t hi
  refine ⟨fun h => ?_, fun h ha => ?_, fun h ha hs => ⟨?_, fun y s => ?_⟩, fun h ha hs kv hk h0 h1 => ?_⟩
  · conv => lhs; unfold trlO
    rw [if_pos ok, Int.toNat_natCast, if_pos h]
  · conv => lhs; unfold trlO
    rw [if_pos ok, Int.toNat_natCast, if_neg (by rw [h]; decide), if_neg (by rw [ha]; decide)]
  · unfold trlO
    rw [if_pos ok, Int.toNat_natCast, if_neg (by rw [h]; decide), if_pos ha, hs, Option.bind_some, if_neg (by decide)]
  · conv => lhs; unfold trlO
    rw [if_pos ok, Int.toNat_natCast, if_neg (by rw [h]; decide), if_pos ha, hs, Option.bind_some, if_neg (by decide)]
  · conv => lhs; unfold trlO
    rw [if_pos ok, Int.toNat_natCast, if_neg (by rw [h]; decide), if_pos ha, hs, Option.bind_some, if_pos rfl, hk, Option.bind_some, if_pos ⟨h0, h1⟩]
/-- Without filling: the pieces of a run's acts. -/
theorem trl_false {n : Nat} (t : Tr code) (hK : ∀ i, i < code.length → selvageref13_Spare.f n code (i : Int) = some (spr code i)) : ∀ (f i : Nat) (T ans ps ts : List Int), i < code.length → code.length - i ≤ f → ∃ ts', trlO n code false f (i : Int) T ans ps ts = some (ps ++ (runG code f (i : Int) T ans).1.map (fun p => (p.1 : Int)), ts')
  | 0, i, T, ans, ps, ts, hi, hf => absurd hf (by omega)
  | f + 1, i, T, ans, ps, ts, hi, hf => by
    obtain ⟨e1, e2, e3, -⟩ := @trlO_st code n false t i hi f T ans ps ts
    have ok := t.ok i hi
    have hs : spO n code (i : Int) false = some false := by unfold spO; rw [hK i hi]; rfl
    have tg : ∀ a : S47, ([a].map fun a => (i, a)).map (fun p : Nat × S47 => (p.1 : Int)) = [(i : Int)] := fun a => rfl
    cases he : endsA (ins code i) T
    · cases ha : isAsk (ins code i).f0
      · obtain ⟨c1, c2, c3⟩ := tnxt_in t hi he 0
        obtain ⟨b1, b2, b3, a, b4⟩ := stp_rest (ins code i) (i : Int) T ok he ha
        have g1 := (@runG_st code f i T ans _ (stp_go2 (ins code i) (i : Int) T ans (by omega))).1 b1
        rw [e2 he ha, g1]
        dsimp only
        rw [b2, b3, b4, c2]
        obtain ⟨ts', h⟩ := trl_false t hK f c1 (tnew (ins code i) T 0) ans (if isTell (ins code i).f0 = true then ps ++ [(i : Int)] else ps) ts c3.2 (by omega)
        refine ⟨ts', h.trans ?_⟩
        cases hb : isTell (ins code i).f0 <;> simp
      · obtain ⟨b1, b2, b3⟩ := stp_asks (ins code i) (i : Int) T ok he ha
        obtain ⟨d1, d2⟩ := e3 he ha hs
        cases ans with
        | nil =>
          have g1 := (@runG_st code f i T [] _ rfl).2 (by omega)
          rw [d1, g1, b2]
          exact ⟨ts, by simp⟩
        | cons y s =>
          obtain ⟨c, c2, c3⟩ := tnxt_in t hi he y
          obtain ⟨b4, b5, a, b6⟩ := b3 y
          have g1 := (@runG_st code f i T (y :: s) _ (stp_ask2 (ins code i) (i : Int) T y s b1)).1 rfl
          rw [d2, g1]
          dsimp only
          rw [b4, b5, b6, c2]
          obtain ⟨ts', h⟩ := trl_false t hK f c (tnew (ins code i) T y) s (ps ++ [(i : Int)]) (ts ++ [y]) c3.2 (by omega)
          exact ⟨ts', h.trans (by simp)⟩
    · obtain ⟨b1, b2, b3⟩ := stp_end (ins code i) (i : Int) T ans ok he
      have g1 := (@runG_st code f i T ans _ rfl).2 b1
      rw [e1 he, g1, b3]
      exact ⟨ts ++ ans, by simp⟩
/-- What a spare piece is told: the number of the temp that it knows is that of the one that stands for its own. -/
theorem kw_meant (t : Tr code) {i : Nat} {T U : List Int} (S : Sm code i T U) (hi : i < code.length) (hs : spr code i = true) : ∃ kv, kw code i (ins code i).f4 = some kv ∧ (0 ≤ kv ∧ kv < 400) ∧ rd T kv = rd T (mea code (ins code i).f1) := by
  obtain ⟨-, kv, hkv⟩ := spr_parts hs
  obtain ⟨k, k1, k2, k3, k4⟩ := kw_made t i hi hkv
  refine ⟨kv, hkv, kw_bd t hi hkv, ?_⟩
  have h1 := S.a k (by omega) k2 (by omega) k3
  rw [k4] at h1
  rw [mea_some t ((mkr_some t).2 ⟨hi, rfl, hs⟩) hkv, h1]
/-- With filling: the full answers. -/
theorem trl_true {l : List S80} (hR : right code l = true) {n : Nat} (hK : ∀ i, i < code.length → selvageref13_Spare.f n code (i : Int) = some (spr code i) ∧ selvageref13_Known.f n code (i : Int) (ins code i).f4 = some ((kw code i (ins code i).f4).getD (-1))) : ∀ (f i : Nat) (T U ans ps ts : List Int), i < code.length → code.length - i ≤ f → Sm code i T U → ∃ ps', trlO n code true f (i : Int) T ans ps ts = some (ps', ts ++ trF code f (i : Int) T ans)
  | 0, i, T, U, ans, ps, ts, hi, hf, _ => absurd hf (by omega)
  | f + 1, i, T, U, ans, ps, ts, hi, hf, S => by
    have t := tr_of hR
    obtain ⟨e1, e2, e3, e4⟩ := @trlO_st code n true t i hi f T ans ps ts
    have ok := t.ok i hi
    have hsp : spO n code (i : Int) true = some (spr code i) := by unfold spO; rw [(hK i hi).1]; simp
    cases he : endsA (ins code i) T
    · cases ha : isAsk (ins code i).f0
      · obtain ⟨c1, c2, c3⟩ := tnxt_in t hi he 0
        obtain ⟨b1, b2, b3, a, b4⟩ := stp_rest (ins code i) (i : Int) T ok he ha
        have ki : spr code i = false := by
          cases hs : spr code i
          · rfl
          · rw [(spr_parts hs).1] at ha; cases ha
        obtain ⟨c, m1, m2, m3, m4, S2⟩ := (stp_sim hR hi ki S []).2.2 b1
        rw [e2 he ha, c2]
        rw [b2, c2] at m1
        have hcc : c = c1 := by omega
        subst hcc
        rw [b3] at S2
        obtain ⟨ps', h⟩ := trl_true hR hK f c (tnew (ins code i) T 0) _ ans (if isTell (ins code i).f0 = true then ps ++ [(i : Int)] else ps) ts m3 (by omega) S2
        refine ⟨ps', h.trans ?_⟩
        conv => rhs; unfold trF
        rw [Int.toNat_natCast, if_neg (by omega), if_pos b1, b2, b3, c2]
      · obtain ⟨b1, b2, b3⟩ := stp_asks (ins code i) (i : Int) T ok he ha
        cases hs : spr code i
        · rw [hs] at hsp
          obtain ⟨d1, d2⟩ := e3 he ha hsp
          cases ans with
          | nil =>
            rw [d1]
            unfold trF
            rw [Int.toNat_natCast, if_pos b1, hs, if_neg (by decide)]
            exact ⟨ps, by simp⟩
          | cons y s =>
            obtain ⟨c1, c2, c3⟩ := tnxt_in t hi he y
            obtain ⟨b4, b5, a, b6⟩ := b3 y
            obtain ⟨c, m1, m2, m3, m4, S2⟩ := (stp_sim hR hi hs S [y]).2.2 (stp_ask1 _ _ _ _ b1).1
            rw [d2, c2]
            rw [b4, c2] at m1
            have hcc : c = c1 := by omega
            subst hcc
            rw [b5] at S2
            obtain ⟨ps', h⟩ := trl_true hR hK f c (tnew (ins code i) T y) _ s (ps ++ [(i : Int)]) (ts ++ [y]) m3 (by omega) S2
            refine ⟨ps', h.trans ?_⟩
            conv => rhs; unfold trF
            rw [Int.toNat_natCast, if_pos b1, hs, if_neg (by decide)]
            dsimp only
            rw [b4, b5, c2]
            simp
        · rw [hs] at hsp
          obtain ⟨kv, k1, k2, k3⟩ := kw_meant t S hi hs
          have hkn := (hK i hi).2
          rw [k1] at hkn
          have d2 := e4 he ha hsp kv hkn k2.1 k2.2
          obtain ⟨h6, -⟩ := spr_parts hs
          have hi1 := t.nx i hi (by rw [h6]; decide)
          obtain ⟨-, s2⟩ := stp_6 (ins code i) (i : Int) T h6
          have n1 : tnxt (ins code i) (i : Int) T (rd T kv) = ((i + 1 : Nat) : Int) := by
            have := (b3 (rd T kv)).1
            rw [s2] at this
            rw [← this]
            simp
          have n2 : tnew (ins code i) T (rd T kv) = T.set (ins code i).f1.toNat (rd T (mea code (ins code i).f1)) := by
            have := (b3 (rd T kv)).2.1
            rw [s2] at this
            rw [← this, k3]
          rw [d2, n1, n2]
          obtain ⟨ps', h⟩ := trl_true hR hK f (i + 1) _ _ ans (ps ++ [(i : Int)]) (ts ++ [rd T kv]) hi1 (by omega) (S.spare t hi hs)
          refine ⟨ps', h.trans ?_⟩
          conv => rhs; unfold trF
          rw [Int.toNat_natCast, if_pos b1, if_pos hs, s2, k3]
          simp
    · obtain ⟨b1, b2, b3⟩ := stp_end (ins code i) (i : Int) T [] ok he
      rw [e1 he]
      unfold trF
      rw [Int.toNat_natCast, if_neg b2, if_neg b1]
      exact ⟨ps, rfl⟩
end
end Go.Proofs.Ytdmbnlpcfgphpaa.Q
namespace Go.Proofs.Ytdmbnlpcfgphpaa.Q
open Go.RowKit Go.Proofs.YtdmbnlpcfgphpaaW.PrintWords Go.Proofs.YtdmbnlpcfgphpaaW.PrintLast Go.Proofs.YtdmbnlpcfgphpaaW.PrintMore
set_option linter.unusedVariables false
set_option linter.unusedSimpArgs false
set_option maxRecDepth 100000 in
theorem awake13_10 : selvagelaw13_awake.f 10 = some true := by kernel_rfl
theorem awake13_ev (k : Nat) (hk : 10 ≤ k) : selvagelaw13_awake.f k = some true := at_rounds selvagelaw13_awake.mono hk awake13_10
theorem nums13_l0 (l : List Int) (hl : l.length ≤ 100000) : ∀ (r i k : Nat), l.length = i + r → r < k → selvageref08_SameNums.l0 k l l (i : Int) = some true
  | 0, i, k + 1, h, _ => by
    simp only [selvageref08_SameNums.l0]
    rw [if_neg (by omega)]
  | r + 1, i, k + 1, h, hk => by
    simp only [selvageref08_SameNums.l0]
    rw [if_pos (by omega), if_pos (by omega), if_pos (by omega), show wrap64 ((i : Int) + 1) = ((i + 1 : Nat) : Int) by rw [wrap_of (by omega) (by omega)]; omega]
    simp only [if_true]
    exact nums13_l0 l hl r (i + 1) k (by omega) (by omega)
theorem nums13_self (l : List Int) (hl : l.length ≤ 100000) (k : Nat) (hk : l.length < k) : selvageref08_SameNums.f k l l = some true := by
  unfold selvageref08_SameNums.f
  rw [if_pos rfl]
  exact nums13_l0 l hl l.length 0 k (by omega) hk
theorem trF_len (code : List S40) : ∀ (f : Nat) (i : Int) (T ans : List Int), (trF code f i T ans).length ≤ f + ans.length
  | 0, i, T, ans => by simp [trF]
  | f + 1, i, T, ans => by
    unfold trF
    split
    · split
      · have := trF_len code f (stp (ins code i.toNat) i T [rd T (mea code (ins code i.toNat).f1)]).next (stp (ins code i.toNat) i T [rd T (mea code (ins code i.toNat).f1)]).T ans
        rw [List.length_cons]
        omega
      · cases ans with
        | nil => simp
        | cons y s =>
          have := trF_len code f (stp (ins code i.toNat) i T [y]).next (stp (ins code i.toNat) i T [y]).T s
          simp only [List.length_cons]
          omega
    · split
      · have := trF_len code f (stp (ins code i.toNat) i T []).next (stp (ins code i.toNat) i T []).T ans
        omega
      · omega
/-- More fuel changes nothing. -/
theorem runG_fuel {code : List S40} {l : List S80} (hR : right code l = true) : ∀ (f g i : Nat) (T ans : List Int), i < code.length → code.length - i ≤ f → code.length - i ≤ g → runG code f (i : Int) T ans = runG code g (i : Int) T ans
  | 0, _, i, _, _, hi, hf, _ => absurd hf (by omega)
  | _ + 1, 0, i, _, _, hi, _, hg => absurd hg (by omega)
  | f + 1, g + 1, i, T, ans, hi, hf, hg => by
    obtain ⟨hn1, hn2, h18, hchk, -⟩ := right_parts hR
    have hN := next_in hn2 h18 hi (hchk i hi) T ans
    obtain ⟨g0, g1⟩ := @runG_st code f i T ans _ rfl
    obtain ⟨k0, k1⟩ := @runG_st code g i T ans _ rfl
    by_cases h0 : (stp (ins code i) (i : Int) T ans).fin = 0
    · obtain ⟨n1, n2⟩ := hN h0
      obtain ⟨j, hj⟩ : ∃ j : Nat, (stp (ins code i) (i : Int) T ans).next = (j : Int) := ⟨(stp (ins code i) (i : Int) T ans).next.toNat, by omega⟩
      rw [g0 h0, k0 h0, hj, runG_fuel hR f g j _ _ (by omega) (by omega) (by omega)]
    · rw [g1 h0, k1 h0]
theorem trF_fuel {code : List S40} {l : List S80} (hR : right code l = true) : ∀ (f g i : Nat) (T ans : List Int), i < code.length → code.length - i ≤ f → code.length - i ≤ g → trF code f (i : Int) T ans = trF code g (i : Int) T ans
  | 0, _, i, _, _, hi, hf, _ => absurd hf (by omega)
  | _ + 1, 0, i, _, _, hi, _, hg => absurd hg (by omega)
  | f + 1, g + 1, i, T, ans, hi, hf, hg => by
    obtain ⟨hn1, hn2, h18, hchk, -⟩ := right_parts hR
    have step : ∀ (a : List Int), (stp (ins code i) (i : Int) T a).fin = 0 → ∀ U s, trF code f (stp (ins code i) (i : Int) T a).next U s = trF code g (stp (ins code i) (i : Int) T a).next U s := fun a h0 U s => by
      obtain ⟨n1, n2⟩ := next_in hn2 h18 hi (hchk i hi) T a h0
      obtain ⟨j, hj⟩ : ∃ j : Nat, (stp (ins code i) (i : Int) T a).next = (j : Int) := ⟨(stp (ins code i) (i : Int) T a).next.toNat, by omega⟩
      rw [hj]
      exact trF_fuel hR f g j _ _ (by omega) (by omega) (by omega)
    unfold trF
    rw [Int.toNat_natCast]
    by_cases h4 : (stp (ins code i) (i : Int) T []).fin = 4
    · rw [if_pos h4, if_pos h4]
      by_cases hs : spr code i = true
      · rw [if_pos hs, if_pos hs, step _ (stp_ask1 _ _ _ _ h4).1]
      · rw [if_neg hs, if_neg hs]
        cases ans with
        | nil => rfl
        | cons y s => dsimp only; rw [step _ (stp_ask1 _ _ _ _ h4).1]
    · rw [if_neg h4, if_neg h4]
      by_cases h0 : (stp (ins code i) (i : Int) T []).fin = 0
      · rw [if_pos h0, if_pos h0, step _ h0]
      · rw [if_neg h0, if_neg h0]
end Go.Proofs.Ytdmbnlpcfgphpaa.Q
namespace Go.Proofs.Ytdmbnlpcfgphpaa.Q
open Go.RowKit Go.Proofs.YtdmbnlpcfgphpaaW.PrintWords Go.Proofs.YtdmbnlpcfgphpaaW.PrintLast Go.Proofs.YtdmbnlpcfgphpaaW.PrintMore
set_option linter.unusedVariables false
set_option linter.unusedSimpArgs false
/-- A slice that a call has made, as its caller reads it. -/
theorem fresh_S {α : Type} {d : Kd α} {e base n : Nat} {W : World} {ok : Nat → Prop} {v : Value} {xs : List α} (h : d.R e W base ok v xs) (hn : xs.length = n) : ∃ B cB, v = .slice B n cB ∧ n ≤ cB ∧ d.C W B xs.length xs := by
  subst hn
  obtain ⟨B, cB, rfl⟩ := Kd.R_slice h
  obtain ⟨-, h2, h3⟩ := Kd.R_reads' h
  exact ⟨B, cB, rfl, h2, h3⟩
/-- What the law has in hand: the code that is left, the full answers, the acts of both runs, the pieces. -/
structure AsS (w W : World) (B7 : Option Addr) (l7 : List S40) (B9 : Option Addr) (l9 : List Int) (Ba : Option Addr) (la : List S47) (Bb : Option Addr) (lb : List S47) (Bp : Option Addr) (lp : List Int) : Prop where
  HB : Below w.heap.size w W
  C7 : Kd.C k40 W B7 l7.length l7
  C9 : (Kd.int .i64).C W B9 l9.length l9
  Ca : Kd.C k47 W Ba la.length la
  Cb : Kd.C k47 W Bb lb.length lb
  Cp : (Kd.int .i64).C W Bp lp.length lp
section
variable {w W W' : World} {B7 B9 Ba Bb Bp : Option Addr} {l7 : List S40} {l9 lp : List Int} {la lb : List S47}
theorem AsS.below (S : AsS w W B7 l7 B9 l9 Ba la Bb lb Bp lp) (hb : Below W.heap.size W W') : AsS w W' B7 l7 B9 l9 Ba la Bb lb Bp lp :=
  ⟨below_step S.HB hb, Kd.C_below S.C7 hb, Kd.C_below S.C9 hb, Kd.C_below S.Ca hb, Kd.C_below S.Cb hb, Kd.C_below S.Cp hb⟩
theorem AsS.start (w : World) : AsS w w none [] none [] none [] none [] none [] :=
  ⟨Below.refl _ _, (Kd.R_reads' (Kd.R_nil k40 40 w 0 (fun _ => True))).2.2, (Kd.R_reads' (Kd.R_nil (Kd.int .i64) 2 w 0 (fun _ => True))).2.2, (Kd.R_reads' (Kd.R_nil k47 47 w 0 (fun _ => True))).2.2, (Kd.R_reads' (Kd.R_nil k47 47 w 0 (fun _ => True))).2.2, (Kd.R_reads' (Kd.R_nil (Kd.int .i64) 3 w 0 (fun _ => True))).2.2⟩
end
/-- The contracts of what the law calls. -/
structure AsH (A : Option Addr) (c : Nat) (code : List S40) (Al : Option Addr) (cl : Nat) (l : List S80) (An : Option Addr) (cn : Nat) (answers : List Int) (w : World) (out : List S40) (fu : List Int) (la lb : List S47) (st : Int) (ps ts : List Int) (sb : Nat → Bool) : Prop where
  h24 : ∀ W, Calls Try.prog 24 #[] W fun e w' => e = .returned (.bool true) ∧ Below W.heap.size W w'
  h14 : ∀ W, Below w.heap.size w W → Calls Try.prog 14 #[.slice A code.length c, .slice Al l.length cl] W fun e w' => e = .returned (.bool true) ∧ Below W.heap.size W w'
  h26 : ∀ W, Below w.heap.size w W → Calls Try.prog 26 #[.slice A code.length c, .slice Al l.length cl] W fun e w' => ∃ v, e = .returned (.tuple #[v, .int .i64 0]) ∧ Kd.R k40 40 w' W.heap.size (fun _ => True) v out ∧ Below W.heap.size W w'
  h27 : ∀ W, Below w.heap.size w W → Calls Try.prog 27 #[.slice A code.length c, .slice Al l.length cl, .slice An answers.length cn] W fun e w' => ∃ v, e = .returned (.tuple #[v, .int .i64 0]) ∧ Kd.R (Kd.int .i64) 2 w' W.heap.size (fun _ => True) v fu ∧ Below W.heap.size W w'
  h13 : ∀ W B cB, Below w.heap.size w W → Kd.C k40 W B out.length out → out.length ≤ cB → Calls Try.prog 13 #[.slice B out.length cB, .slice Al l.length cl] W fun e w' => e = .returned (.bool true) ∧ Below W.heap.size W w'
  h16a : ∀ W B cB, Below w.heap.size w W → Kd.C k40 W B out.length out → out.length ≤ cB → Calls Try.prog 16 #[.slice B out.length cB, .slice Al l.length cl, .slice An answers.length cn] W fun e w' => ∃ v, e = .returned (.agg #[v, .int .i64 st]) ∧ Kd.R k47 47 w' W.heap.size (fun _ => True) v la ∧ Below W.heap.size W w'
  h16b : ∀ W B cB, Below w.heap.size w W → (Kd.int .i64).C W B fu.length fu → fu.length ≤ cB → Calls Try.prog 16 #[.slice A code.length c, .slice Al l.length cl, .slice B fu.length cB] W fun e w' => ∃ v, e = .returned (.agg #[v, .int .i64 st]) ∧ Kd.R k47 47 w' W.heap.size (fun _ => True) v lb ∧ Below W.heap.size W w'
  h29 : ∀ W B cB, Below w.heap.size w W → (Kd.int .i64).C W B fu.length fu → fu.length ≤ cB → Calls Try.prog 29 #[.slice A code.length c, .slice B fu.length cB, .bool false] W fun e w' => ∃ v0_ v1_ : Value, e = .returned (.tuple #[v0_, v1_]) ∧ Kd.R (Kd.int .i64) 3 w' W.heap.size (fun _ => True) v0_ ps ∧ Kd.R (Kd.int .i64) 2 w' W.heap.size (fun _ => True) v1_ ts ∧ Below W.heap.size W w'
  h28 : ∀ W (i : Nat), i < ps.length → Below w.heap.size w W → Calls Try.prog 28 #[.slice A code.length c, .int .i64 (rd ps i)] W fun e w' => e = .returned (.bool (sb i)) ∧ Below W.heap.size W w'
  h19 : ∀ W B1 k1 B2 k2 (xs : List S47), xs.length ≤ 400 → Kd.C k47 W B1 xs.length xs → xs.length ≤ k1 → Kd.C k47 W B2 xs.length xs → xs.length ≤ k2 → Calls Try.prog 19 #[.slice B1 xs.length k1, .slice B2 xs.length k2] W fun e w' => e = .returned (.bool true) ∧ Below W.heap.size W w'
section
variable {A : Option Addr} {c : Nat} {code : List S40} {Al : Option Addr} {cl : Nat} {l : List S80} {An : Option Addr} {cn : Nat} {answers : List Int} {w : World} {out : List S40} {fu ps ts : List Int} {la lb : List S47} {st : Int} {sb : Nat → Bool}
set_option maxHeartbeats 8000000 in
set_option maxRecDepth 100000 in
theorem same_right (H : AsH A c code Al cl l An cn answers w out fu la lb st ps ts sb) (kp : Nat → List S47) (k0 : kp 0 = []) (k1 : ∀ i, i < lb.length → kp (i + 1) = if sb i = true then kp i else kp i ++ [rd_T47 lb (i : Int)]) (k2 : kp lb.length = la) (k4 : ∀ i, (kp i).length ≤ 400) (hps : ps.length = lb.length) (hlb : lb.length ≤ 400) (hla : la.length ≤ 400) (hout : out.length ≤ code.length) (h1 : code.length ≤ 60) (h2 : l.length ≤ 16) (h3 : answers.length ≤ 100) :
    Calls Try.prog 9 #[.slice A code.length c, .slice Al l.length cl, .slice An answers.length cn] w fun e w' => e = .returned (.bool true) ∧ Below w.heap.size w w' := by
  have HH := Aside0.mk H
  clear H
  have c1 : decide ((60 : Int) < (code.length : Int)) = false := decide_eq_false (by omega)
  have c1' : decide (60 < code.length) = false := decide_eq_false (by omega)
  have c2 : decide ((16 : Int) < (l.length : Int)) = false := decide_eq_false (by omega)
  have c2' : decide (16 < l.length) = false := decide_eq_false (by omega)
  have c3 : decide ((100 : Int) < (answers.length : Int)) = false := decide_eq_false (by omega)
  have c3' : decide (100 < answers.length) = false := decide_eq_false (by omega)
  have c5 : decide ((code.length : Int) < (out.length : Int)) = false := decide_eq_false (by omega)
  have c5' : decide (code.length < out.length) = false := decide_eq_false (by omega)
  have S0 := Aside0.mk (AsS.start w)
  have P0 := Aside0.mk k0
  have P1 := Aside0.mk k1
  have P2 := Aside0.mk k2
  have P4 := Aside0.mk k4
  clear k0 k1 k2 k4
  go_enter Try.func9, Try.ntmps9
  go_wp2_with (first
    | (go_at_call 24; refine (HH.out.h24 _).mono ?_; rintro e w1 ⟨rfl, hb⟩; have S1 := Aside0.mk (S0.out.below hb); clear hb)
    | (go_at_call 14; refine (HH.out.h14 _ S1.out.HB).mono ?_; rintro e w2 ⟨rfl, hb⟩; have S2 := Aside0.mk (S1.out.below hb); clear hb)
    | (go_at_call 26; refine (HH.out.h26 _ S2.out.HB).mono ?_; rintro e w3 ⟨v, rfl, hR, hb⟩; obtain ⟨B7, c7, rfl, hn7, hC⟩ := fresh_S hR rfl; have N7 := Aside0.mk hn7; have S3 : Aside0 (AsS w w3 B7 out none [] none [] none [] none []) := ⟨{ S2.out.below hb with C7 := hC }⟩; clear hb hR hC hn7)
    | (go_at_call 27; refine (HH.out.h27 _ S3.out.HB).mono ?_; rintro e w4 ⟨v, rfl, hR, hb⟩; obtain ⟨B9, c9, rfl, hn9, hC⟩ := fresh_S hR rfl; have N9 := Aside0.mk hn9; have S4 : Aside0 (AsS w w4 B7 out B9 fu none [] none [] none []) := ⟨{ S3.out.below hb with C9 := hC }⟩; clear hb hR hC hn9)
    | (go_at_call 13; refine (HH.out.h13 _ _ _ S4.out.HB S4.out.C7 N7.out).mono ?_; rintro e w5 ⟨rfl, hb⟩; have S5 := Aside0.mk (S4.out.below hb); clear hb)
    | (go_at_call 16; refine (HH.out.h16b _ _ _ S6.out.HB S6.out.C9 N9.out).mono ?_; rintro e w7 ⟨v, rfl, hR, hb⟩; obtain ⟨Bb, cb, rfl, hnb, hC⟩ := fresh_S hR rfl; have Nb := Aside0.mk hnb; have S7 : Aside0 (AsS w w7 B7 out B9 fu Ba la Bb lb none []) := ⟨{ S6.out.below hb with Cb := hC }⟩; clear hb hR hC hnb)
    | (go_at_call 16; refine (HH.out.h16a _ _ _ S5.out.HB S5.out.C7 N7.out).mono ?_; rintro e w6 ⟨v, rfl, hR, hb⟩; obtain ⟨Ba, ca, rfl, hna, hC⟩ := fresh_S hR rfl; have Na := Aside0.mk hna; have S6 : Aside0 (AsS w w6 B7 out B9 fu Ba la none [] none []) := ⟨{ S5.out.below hb with Ca := hC }⟩; clear hb hR hC hna)
    | (go_at_call 29; refine (HH.out.h29 _ _ _ (S7.out.below (below_alloc (below_alloc (Below.refl _ _) _) _)).HB (S7.out.below (below_alloc (below_alloc (Below.refl _ _) _) _)).C9 N9.out).mono ?_; rintro e w8 ⟨v0, v1, rfl, hR0, hR1, hb⟩; obtain ⟨Bp, cp, rfl, hnp, hC⟩ := fresh_S hR0 rfl; obtain ⟨Bt, ct, rfl, -, -⟩ := fresh_S hR1 rfl; have S8 : Aside0 (AsS w w8 B7 out B9 fu Ba la Bb lb Bp ps) := ⟨{ (S7.out.below (below_alloc (below_alloc (Below.refl _ _) _) _)).below hb with Cp := hC }⟩; have K11 : Aside0 (w8.heap[w7.heap.size]? = some (.cells #[.slice Ba la.length ca, .int .i64 st] 31 (0, 0))) := ⟨blk_below (blk_alloc (blk_new w7 _) _) hb⟩; have K12 : Aside0 (w8.heap[w7.heap.size + 1]? = some (.cells #[.slice Bb lb.length cb, .int .i64 st] 31 (0, 0))) := ⟨by have h := blk_below (blk_new (w7.alloc (.cells #[.slice Ba la.length ca, .int .i64 st] 31)) (.cells #[.slice Bb lb.length cb, .int .i64 st] 31)) hb; rwa [World.size_alloc] at h⟩; clear hR0 hR1 hb hC hnp; have y0 := blk_cell K12.out 0))
  clear S0 S1 S2 S3 S4 S5 S6 S7 y0
  go_loopw [15, 16] (fun v15 v16 wr => ∃ i : Nat, v16 = .int .i64 (i : Int) ∧ i ≤ lb.length ∧ Aside0 (Below w8.heap.size w8 wr) ∧ Aside0 (Kd.R k47 47 wr w8.heap.size (fun _ => True) v15 (kp i))) (fun _ v _ => lb.length - (intOf v).toNat)
  case atStart => exact ⟨0, rfl, by omega, ⟨Below.refl _ _⟩, ⟨by rw [P0.out]; exact Kd.R_nil _ _ _ _ _⟩⟩
  case round =>
    obtain ⟨i, rfl, hi, HB8, HL⟩ := hrel
    have S := Aside0.mk (S8.out.below HB8.out)
    obtain ⟨Av, cv, rfl⟩ := Kd.R_slice HL.out
    by_cases hlt : i < lb.length
    · have c4 : decide ((i : Int) < (lb.length : Int)) = true := decide_eq_true (by omega)
      have q1 : ((i : Int) < (lb.length : Int)) = True := eq_true (by omega)
      have q0 : (0 ≤ (i : Int)) = True := eq_true (by omega)
      obtain ⟨ad1, e1, hx1⟩ := Kd.at_int S.out.Cp (i : Int) (by omega) (by omega)
      obtain ⟨ad2, e2, z0, z1, z2, z3⟩ := at_T47 S.out.Cb (i : Int) (by omega) (by omega)
      cases e1
      cases e2
      simp only [Int.toNat_natCast] at hx1 z0 z1 z2 z3
      have KN := P1.out i hlt
      have H28 := HH.out.h28
      have hl4 := P4.out i
      have H28i := Aside0.mk (fun W hW => H28 W i (by omega) hW)
      clear H28
      have K12r := Aside0.mk (blk_below K12.out HB8.out)
      cases hs : sb i
      · rw [hs] at H28i KN
        rw [if_neg (by decide)] at KN
        have KN' := Aside0.mk KN
        clear KN
        obtain ⟨X, hX⟩ : ∃ X, X = rd_T47 lb (i : Int) := ⟨_, rfl⟩
        rw [← hX] at z0 z1 z2 z3 KN'
        clear hX
        obtain ⟨f0, f1, f2, f3⟩ := X
        dsimp only at z0 z1 z2 z3
        go_wp2_with (first
          | (go_at_call 28; refine (H28i.out _ S.out.HB).mono ?_; rintro e w9 ⟨rfl, hb⟩; have HB9 := Aside0.mk (below_step HB8.out hb); have HL9 := Aside0.mk (Kd.R_below HL.out hb); have y0 := blk_cell (blk_below K12r.out hb) 0; have y1 := pw_cell_below hb z0; have y2 := pw_cell_below hb z1; have y3 := pw_cell_below hb z2; have y4 := pw_cell_below hb z3; clear hb)
          | (at_builtin; refine Kd.R_append k47 (w0 := w8) w8.heap.size rfl _ _ 29 47 _ 32 rfl Try.underlying29 info47 rfl (by decide) (by decide) (.slice Av (kp i).length cv) (kp i) ⟨f0, f1, f2, f3⟩ [.int .i64 f0, .int .i64 f1, .int .i64 f2, .int .i64 f3] (fun _ => True) (fun _ => False) rfl ?hx1 (k47_mkM _ _ _ ⟨f0, f1, f2, f3⟩) (fun _ h => h.elim) (fun _ _ => trivial) HL9.out HB9.out HB9.out.size ?hx2 ?_; (case hx1 => simp [Act.eval]); (case hx2 => omega); intro v9 w10 hR hB9 hg9 hat9; have HR := Aside0.mk hR; have HB10 := Aside0.mk hB9; clear hR hB9 hg9 hat9))
        exact ⟨⟨i + 1, by simp, by omega, HB10, ⟨by rw [KN'.out]; exact HR.out⟩⟩, by simp [intOf]; omega⟩
      · rw [hs] at H28i KN
        rw [if_pos rfl] at KN
        have KN' := Aside0.mk KN
        clear KN z0 z1 z2 z3
        go_wp2_with (go_at_call 28; refine (H28i.out _ S.out.HB).mono ?_; rintro e w9 ⟨rfl, hb⟩; have HB9 := Aside0.mk (below_step HB8.out hb); have HL9 := Aside0.mk (Kd.R_below HL.out hb); clear hb)
        exact ⟨⟨i + 1, by simp, by omega, HB9, ⟨by rw [KN'.out]; exact HL9.out⟩⟩, by simp [intOf]; omega⟩
    · have c4 : decide ((i : Int) < (lb.length : Int)) = false := decide_eq_false (by omega)
      have c4' : decide (i < lb.length) = false := decide_eq_false hlt
      have hie : i = lb.length := by omega
      have HL' : Aside0 (Kd.R k47 47 wr w8.heap.size (fun _ => True) (.slice Av (kp i).length cv) la) := ⟨by rw [← P2.out, ← hie]; exact HL.out⟩
      have hkl : (kp i).length = la.length := by rw [hie, P2.out]
      rw [hkl] at HL' ⊢
      obtain ⟨-, hn15, hC15⟩ := Kd.R_reads' HL'.out
      have N15 := Aside0.mk hn15
      have C15 := Aside0.mk hC15
      have HLa := Aside0.mk hla
      clear hn15 hC15 hla hkl HL
      have y0 := blk_cell (blk_below K11.out HB8.out) 0
      have y1 := blk_cell (blk_below K11.out HB8.out) 1
      have y2 := blk_cell (blk_below K12.out HB8.out) 1
      go_wp2_with (go_at_call 19; refine (HH.out.h19 _ Ba ca Av cv la HLa.out S.out.Ca Na.out C15.out N15.out).mono ?_; rintro e w10 ⟨rfl, hb⟩; have S9 := Aside0.mk (S.out.below hb); clear hb)
      show bodyPost Try.prog Try.f9 _ Exit.ret _ _
      refine bodyPost_ret (v := .bool true) ?_ rfl ⟨rfl, S9.out.HB⟩
      simp [results, Try.results9, go_sem]
set_option maxHeartbeats 8000000 in
set_option maxRecDepth 100000 in
/-- Texts that are too great are let go. -/
theorem same_big {b : Bool} (h24 : ∀ W, Calls Try.prog 24 #[] W fun e w' => e = .returned (.bool true) ∧ Below W.heap.size W w') (h14 : l.length ≤ 16 → ∀ W, Below w.heap.size w W → Calls Try.prog 14 #[.slice A code.length c, .slice Al l.length cl] W fun e w' => e = .returned (.bool b) ∧ Below W.heap.size W w') (h : ¬ (code.length ≤ 60 ∧ l.length ≤ 16 ∧ answers.length ≤ 100 ∧ b = true)) :
    Calls Try.prog 9 #[.slice A code.length c, .slice Al l.length cl, .slice An answers.length cn] w fun e w' => e = .returned (.bool true) ∧ Below w.heap.size w w' := by
  have HH := Aside0.mk h24
  clear h24
  by_cases h1 : 60 < code.length
  · have c1 : decide ((60 : Int) < (code.length : Int)) = true := decide_eq_true (by omega)
    have c1' : decide (60 < code.length) = true := decide_eq_true h1
    go_enter Try.func9, Try.ntmps9
    go_wp2_with (go_at_call 24; refine (HH.out _).mono ?_; rintro e w1 ⟨rfl, hb⟩; have HB := Aside0.mk hb; clear hb)
    go_ret
    exact ⟨rfl, HB.out⟩
  have c1 : decide ((60 : Int) < (code.length : Int)) = false := decide_eq_false (by omega)
  have c1' : decide (60 < code.length) = false := decide_eq_false h1
  by_cases h2 : 16 < l.length
  · have c2 : decide ((16 : Int) < (l.length : Int)) = true := decide_eq_true (by omega)
    have c2' : decide (16 < l.length) = true := decide_eq_true h2
    go_enter Try.func9, Try.ntmps9
    go_wp2_with (go_at_call 24; refine (HH.out _).mono ?_; rintro e w1 ⟨rfl, hb⟩; have HB := Aside0.mk hb; clear hb)
    go_ret
    exact ⟨rfl, HB.out⟩
  have c2 : decide ((16 : Int) < (l.length : Int)) = false := decide_eq_false (by omega)
  have c2' : decide (16 < l.length) = false := decide_eq_false h2
  by_cases h3 : 100 < answers.length
  · have c3 : decide ((100 : Int) < (answers.length : Int)) = true := decide_eq_true (by omega)
    have c3' : decide (100 < answers.length) = true := decide_eq_true h3
    go_enter Try.func9, Try.ntmps9
    go_wp2_with (go_at_call 24; refine (HH.out _).mono ?_; rintro e w1 ⟨rfl, hb⟩; have HB := Aside0.mk hb; clear hb)
    go_ret
    exact ⟨rfl, HB.out⟩
  have c3 : decide ((100 : Int) < (answers.length : Int)) = false := decide_eq_false (by omega)
  have c3' : decide (100 < answers.length) = false := decide_eq_false h3
  obtain rfl : b = false := by cases b <;> simp_all <;> omega
  have HK := Aside0.mk (h14 (by omega))
  clear h14 h
  go_enter Try.func9, Try.ntmps9
  go_wp2_with (first | (go_at_call 24; refine (HH.out _).mono ?_; rintro e w1 ⟨rfl, hb⟩; have HB := Aside0.mk hb; clear hb) | (go_at_call 14; refine (HK.out _ HB.out).mono ?_; rintro e w2 ⟨rfl, hb⟩; have HB2 := Aside0.mk (below_step HB.out hb); clear hb))
  go_ret
  exact ⟨rfl, HB2.out⟩
end
end Go.Proofs.Ytdmbnlpcfgphpaa.Q
namespace Go.Proofs.Ytdmbnlpcfgphpaa.Q
open Go.RowKit Go.Proofs.YtdmbnlpcfgphpaaW.PrintWords Go.Proofs.YtdmbnlpcfgphpaaW.PrintLast Go.Proofs.YtdmbnlpcfgphpaaW.PrintMore
set_option linter.unusedVariables false
set_option linter.unusedSimpArgs false
theorem same13_l0 (l : List S47) (hl : l.length ≤ 100000) : ∀ (r i k : Nat), l.length = i + r → r < k → selvageref08_Same.l0 k l l (i : Int) = some true
  | 0, i, k + 1, h, _ => by
    simp only [selvageref08_Same.l0]
    rw [if_neg (by omega)]
  | r + 1, i, k + 1, h, hk => by
    simp only [selvageref08_Same.l0]
    rw [if_pos (by omega), if_pos (by omega), if_pos (by omega), show wrap64 ((i : Int) + 1) = ((i + 1 : Nat) : Int) by rw [wrap_of (by omega) (by omega)]; omega]
    rw [if_neg (by simp)]
    exact same13_l0 l hl r (i + 1) k (by omega) (by omega)
theorem same13_self (l : List S47) (hl : l.length ≤ 100000) (k : Nat) (hk : l.length < k) : selvageref08_Same.f k l l = some true := by
  unfold selvageref08_Same.f
  rw [if_pos rfl]
  exact same13_l0 l hl l.length 0 k (by omega) hk
/-- A run keeps within the code. -/
theorem runG_in {code : List S40} {l : List S80} (hR : right code l = true) : ∀ (f i : Nat) (T ans : List Int), i < code.length → ∀ p, p ∈ (runG code f (i : Int) T ans).1 → p.1 < code.length
  | 0, i, T, ans, hi, p, h => by simp [runG] at h
  | f + 1, i, T, ans, hi, p, h => by
    obtain ⟨hn1, hn2, h18, hchk, -⟩ := right_parts hR
    have hN := next_in hn2 h18 hi (hchk i hi) T ans
    have tag : ∀ l : List S47, p ∈ l.map (fun a => (i, a)) → p.1 < code.length := fun l hp => by
      obtain ⟨a, -, rfl⟩ := List.mem_map.1 hp
      exact hi
    obtain ⟨g0, g1⟩ := @runG_st code f i T ans _ rfl
    by_cases h0 : (stp (ins code i) (i : Int) T ans).fin = 0
    · rw [g0 h0] at h
      rcases List.mem_append.1 h with h | h
      · exact tag _ h
      · obtain ⟨n1, n2⟩ := hN h0
        obtain ⟨j, hj⟩ : ∃ j : Nat, (stp (ins code i) (i : Int) T ans).next = (j : Int) := ⟨(stp (ins code i) (i : Int) T ans).next.toNat, by omega⟩
        rw [hj] at h n2
        exact runG_in hR f j _ _ (by omega) p h
    · rw [g1 h0] at h
      exact tag _ h
theorem las_awake (W : World) : Calls Try.prog 24 #[] W fun e w' => e = .returned (.bool true) ∧ Below W.heap.size W w' := selvagelaw13_awake.calls 10 true W awake13_10
section
variable {A : Option Addr} {c : Nat} {code : List S40} {Al : Option Addr} {cl : Nat} {l : List S80} {An : Option Addr} {cn : Nat} {answers : List Int} {w : World}
/-- Is the piece of an act spare? -/
def sbG (code : List S40) (G : List (Nat × S47)) (i : Nat) : Bool := match G[i]? with
  | some p => spr code p.1
  | none => false
theorem las_H (hr : Kd.C k40 w A code.length code) (hc : code.length ≤ c) (hrl : Kd.C k80 w Al l.length l) (hcl : l.length ≤ cl) (hra : (Kd.int .i64).C w An answers.length answers) (hca : answers.length ≤ cn) (hwK : ∀ i, i < code.length → wf64 (ins code i).f6) (hwA : ∀ x ∈ answers, wf64 x) (h1 : code.length ≤ 60) (h2 : l.length ≤ 16) (h3 : answers.length ≤ 100) (hR : right code l = true) :
    ∃ ts, AsH A c code Al cl l An cn answers w (outL code code.length) (full code answers) (kpA code (runG code code.length 0 zT (full code answers)).1) ((runG code code.length 0 zT (full code answers)).1.map (·.2)) (runAll code l (full code answers)).2 ((runG code code.length 0 zT (full code answers)).1.map fun p => (p.1 : Int)) ts (sbG code (runG code code.length 0 zT (full code answers)).1) := by
  have t := tr_of hR
  have n1 := t.n1
  have hL := lb_of hR (by omega)
  have hO := out_right hR
  have hN := nsp_le code code.length
  have hlen := outL_len code code.length
  obtain ⟨K, hK⟩ := ev_all t hL
  have hfl : (full code answers).length ≤ 160 := by
    rw [full_tr hR]
    have := trF_len code code.length 0 zT answers
    omega
  obtain ⟨ts, hts⟩ := trl_false (n := K + 100) t (fun i hi => (hK _ (by omega) i hi).1) (K + 100) 0 zT (full code answers) [] [] (by omega) (by omega)
  have hfu : runG code (K + 100) 0 zT (full code answers) = runG code code.length 0 zT (full code answers) := runG_fuel hR (K + 100) code.length 0 zT (full code answers) (by omega) (by omega) (by omega)
  rw [List.nil_append] at hts
  have hts2 : trlO (K + 100) code false (K + 100) 0 zT (full code answers) [] [] = some ((runG code code.length 0 zT (full code answers)).1.map (fun p => (p.1 : Int)), ts) := by rw [← hfu]; exact hts
  obtain ⟨s1, s2⟩ := sim_all hR answers
  have s3 := runAll_G l hR (full code answers)
  have hin := runG_in hR code.length 0 zT (full code answers) (by omega)
  refine ⟨ts, las_awake, fun W hW => ?_, fun W hW => ?_, fun W hW => ?_, fun W B cB hW hC hn => ?_, fun W B cB hW hC hn => ?_, fun W B cB hW hC hn => ?_, fun W B cB hW hC hn => ?_, fun W i hi hW => ?_, fun W B1 k1 B2 k2 xs hx g1 g2 g3 g4 => ?_⟩
  · have h := rref_any A c code Al cl l W (Kd.C_below hr hW) hc (Kd.C_below hrl hW) hcl h2
    rw [hR] at h
    exact h
  · have h := again_any A c code Al cl l W (Kd.C_below hr hW) hc (Kd.C_below hrl hW) hcl (by omega)
    rw [show agA code l = (outL code code.length, 0) by unfold agA; rw [hR]; rfl] at h
    exact h
  · have h := full_any A c code Al cl l An cn answers W (Kd.C_below hr hW) hc (Kd.C_below hrl hW) hcl (by omega) (Kd.C_below hra hW) hca (by omega) hwK hwA
    rw [show agF code l answers = (full code answers, 0) by unfold agF; rw [hR]; rfl] at h
    exact h
  · have h := right_any B cB (outL code code.length) Al cl l W hC hn (Kd.C_below hrl hW) hcl (by omega)
    rw [hO] at h
    exact h
  · have h := run_right B cB (outL code code.length) Al cl l An cn answers W hC hn (Kd.C_below hrl hW) hcl (by omega) (Kd.C_below hra hW) hca hO
    refine h.mono ?_
    rintro e w' ⟨v, h1, h2, h3⟩
    rw [s1] at h1
    rw [s2] at h2
    exact ⟨v, h1, h2, h3⟩
  · have h := run_right A c code Al cl l B cB (full code answers) W (Kd.C_below hr hW) hc (Kd.C_below hrl hW) hcl (by omega) hC hn hR
    refine h.mono ?_
    rintro e w' ⟨v, h1, h2, h3⟩
    rw [show (runAll code l (full code answers)).1 = (runG code code.length 0 zT (full code answers)).1.map (·.2) by rw [s3]] at h2
    exact ⟨v, h1, h2, h3⟩
  · exact trail_any (K + 100) A c code B cB (full code answers) false _ W (Kd.C_below hr hW) hc hC hn (by omega) (by omega) hts2
  · rw [List.length_map] at hi
    have hp := hin _ (List.getElem_mem hi)
    have h1 : rd ((runG code code.length 0 zT (full code answers)).1.map fun p => (p.1 : Int)) (i : Int) = (((runG code code.length 0 zT (full code answers)).1[i].1 : Nat) : Int) := by simp [rd, List.getD, hi]
    have h2 : sbG code (runG code code.length 0 zT (full code answers)).1 i = spr code (runG code code.length 0 zT (full code answers)).1[i].1 := by unfold sbG; rw [List.getElem?_eq_getElem hi]
    rw [h1, h2]
    exact selvageref13_Spare.calls K A c code _ _ W (Kd.C_below hr hW) hc (hK K (Nat.le_refl _) _ hp).1
  · exact (selvageref08_Same.calls 500 B1 k1 xs B2 k2 xs true W g1 g2 g3 g4 (same13_self xs (by omega) 500 (by omega))).mono fun e w' h => ⟨h.1, h.2.below⟩
end
def selvagelaw13_AgainSame.f (k : Nat) (l0 : List (S40)) (l1 : List (S80)) (l2 : List Int) : Option (Bool) := if (l0.all fun x => (Lit.int .i64 x.f6).wf) = true ∧ (l2.all fun x => (Lit.int .i64 x).wf) = true then some true else none
theorem selvagelaw13_AgainSame.calls (k : Nat) (A0 : Option Addr) (c0 : Nat) (l0 : List (S40)) (A1 : Option Addr) (c1 : Nat) (l1 : List (S80)) (A2 : Option Addr) (c2 : Nat) (l2 : List Int) (r : Bool) (w : World) (hr0 : Kd.C k40 w A0 l0.length l0) (hc0 : l0.length ≤ c0) (hr1 : Kd.C k80 w A1 l1.length l1) (hc1 : l1.length ≤ c1) (hr2 : Kd.C (Kd.int .i64) w A2 l2.length l2) (hc2 : l2.length ≤ c2) (h : selvagelaw13_AgainSame.f k l0 l1 l2 = some r) :
    Calls Try.prog 9 #[.slice A0 l0.length c0, .slice A1 l1.length c1, .slice A2 l2.length c2] w fun e w' => e = .returned (.bool r) ∧ Below w.heap.size w w' := by
  unfold selvagelaw13_AgainSame.f at h
  split at h
  case isFalse => cases h
  rename_i hs
  obtain rfl := Option.some.inj h
  by_cases hb : l0.length ≤ 60 ∧ l1.length ≤ 16 ∧ l2.length ≤ 100 ∧ right l0 l1 = true
  case neg => exact same_big las_awake (fun h2 W hW => rref_any A0 c0 l0 A1 c1 l1 W (Kd.C_below hr0 hW) hc0 (Kd.C_below hr1 hW) hc1 h2) hb
  obtain ⟨h1, h2, h3, hR⟩ := hb
  have hwK : ∀ i, i < l0.length → wf64 (ins l0 i).f6 := fun i hi => List.all_eq_true.1 hs.1 (ins l0 i) (by unfold ins; rw [List.getD_eq_getElem?_getD, List.getElem?_eq_getElem hi]; exact List.getElem_mem hi)
  have hwA : ∀ x ∈ l2, wf64 x := fun x hx => List.all_eq_true.1 hs.2 x hx
  obtain ⟨ts, H⟩ := las_H hr0 hc0 hr1 hc1 hr2 hc2 hwK hwA h1 h2 h3 hR
  have hN := nsp_le l0 l0.length
  have hlen := outL_len l0 l0.length
  have a2 := runAll_len l0 l1 (full l0 l2)
  have s3 := runAll_G l1 hR (full l0 l2)
  rw [show (runAll l0 l1 (full l0 l2)).1 = (runG l0 l0.length 0 zT (full l0 l2)).1.map (·.2) by rw [s3]] at a2
  generalize hG : (runG l0 l0.length 0 zT (full l0 l2)).1 = G at H a2
  have hG4 : G.length ≤ 400 := by rw [List.length_map] at a2; exact a2
  have kl : ∀ i, (kpA l0 (G.take i)).length ≤ 400 := fun i => by
    unfold kpA
    rw [List.length_map]
    refine Nat.le_trans (List.length_filter_le _ _) ?_
    rw [List.length_take]
    omega
  refine same_right (kp := fun i => kpA l0 (G.take i)) H rfl (fun i hi => ?_) ?_ kl (by rw [List.length_map, List.length_map]) a2 ?_ (by omega) h1 h2 h3
  · rw [List.length_map] at hi
    have h2 : rd_T47 (G.map (·.2)) (i : Int) = G[i].2 := by simp [rd_T47, List.getD, hi]
    have h3 : G.take (i + 1) = G.take i ++ [G[i]] := by rw [List.take_add_one, List.getElem?_eq_getElem hi]; rfl
    have h4 : sbG l0 G i = spr l0 G[i].1 := by unfold sbG; rw [List.getElem?_eq_getElem hi]
    rw [h2, h3, h4, kpA_app]
    cases hs : spr l0 G[i].1
    · rw [if_neg (by decide), show kpA l0 [G[i]] = [G[i].2] from by simp [kpA, hs]]
    · rw [if_pos rfl, show kpA l0 [G[i]] = [] from by simp [kpA, hs], List.append_nil]
  · rw [List.length_map, List.take_length]
  · have := kl G.length
    rw [List.take_length] at this
    exact this
end Go.Proofs.Ytdmbnlpcfgphpaa.Q
namespace Go.Proofs.Ytdmbnlpcfgphpaa.StAgainSame
open Go.RowKit Go.Proofs.YtdmbnlpcfgphpaaW.PrintWords Go.Proofs.YtdmbnlpcfgphpaaW.PrintLast Go.Proofs.Ytdmbnlpcfgphpaa.Q
def good40 (x : S40) : Prop := (Lit.int .i64 x.f0).wf = true ∧ (Lit.int .i64 x.f1).wf = true ∧ (Lit.int .i64 x.f2).wf = true ∧ (Lit.int .i64 x.f3).wf = true ∧ (Lit.int .i64 x.f4).wf = true ∧ (Lit.int .i64 x.f5).wf = true ∧ (Lit.int .i64 x.f6).wf = true ∧ (Lit.int .i64 x.f7).wf = true
def good80 (x : S80) : Prop := True ∧ (Lit.int .i64 x.f1).wf = true
def Pure : Prop := ∀ (l0 : List S40) (l1 : List S80) (l2 : List Int), (∀ x ∈ l0, good40 x) → l0.length * 64 ≤ 140737488351232 → (∀ x ∈ l1, good80 x) → l1.length * 16 ≤ 140737488351232 → (∀ x ∈ l2, (Lit.int .i64 x).wf = true) → l2.length * 8 ≤ 140737488351232 → ∃ k, selvagelaw13_AgainSame.f k l0 l1 l2 = some true
end Go.Proofs.Ytdmbnlpcfgphpaa.StAgainSame
namespace Go.Proofs.Ytdmbnlpcfgphpaa.StAgainSame
open Go.RowKit Go.Proofs.YtdmbnlpcfgphpaaW.PrintWords Go.Proofs.YtdmbnlpcfgphpaaW.PrintLast Go.Proofs.YtdmbnlpcfgphpaaW.PrintMore Go.Proofs.Ytdmbnlpcfgphpaa.Q
theorem all : Pure := by
  intro l0 l1 l2 g0 _ _ _ g2 _
  refine ⟨0, ?_⟩
  unfold selvagelaw13_AgainSame.f
  rw [if_pos]
  exact ⟨List.all_eq_true.2 (fun x hx => (g0 x hx).2.2.2.2.2.2.1), List.all_eq_true.2 (fun x hx => g2 x hx)⟩
end Go.Proofs.Ytdmbnlpcfgphpaa.StAgainSame
namespace Go.Proofs.Ytdmbnlpcfgphpaa.Pure
theorem AgainSame : Go.Proofs.Ytdmbnlpcfgphpaa.StAgainSame.Pure := Go.Proofs.Ytdmbnlpcfgphpaa.StAgainSame.all
end Go.Proofs.Ytdmbnlpcfgphpaa.Pure
namespace Go.Proofs.Ytdmbnlpcfgphpaa.againSame
open Go.ChangeShapes Go.WideShapes Go.ChangeAt Go.RowKit Go.Proofs.YtdmbnlpcfgphpaaW.PrintWords Go.Proofs.Ytdmbnlpcfgphpaa.Q Go.Proofs.Ytdmbnlpcfgphpaa.Opn Go.Proofs.Ytdmbnlpcfgphpaa.StAgainSame
set_option linter.unusedVariables false
theorem o40 : Opn Try.prog 40 k40 good40 := Opn.struct Try.underlying40 (by kernel_rfl) (by kernel_rfl) (ts := [3, 3, 3, 3, 3, 3, 2, 3]) rfl (OpnF.cons (Opn.int Try.underlying3 (by kernel_rfl)) (by kernel_rfl) (OpnF.cons (Opn.int Try.underlying3 (by kernel_rfl)) (by kernel_rfl) (OpnF.cons (Opn.int Try.underlying3 (by kernel_rfl)) (by kernel_rfl) (OpnF.cons (Opn.int Try.underlying3 (by kernel_rfl)) (by kernel_rfl) (OpnF.cons (Opn.int Try.underlying3 (by kernel_rfl)) (by kernel_rfl) (OpnF.cons (Opn.int Try.underlying3 (by kernel_rfl)) (by kernel_rfl) (OpnF.cons (Opn.int Try.underlying2 (by kernel_rfl)) (by kernel_rfl) (OpnF.one (Opn.int Try.underlying3 (by kernel_rfl)) (by kernel_rfl))))))))) (fun x : S40 => (x.f0, x.f1, x.f2, x.f3, x.f4, x.f5, x.f6, x.f7)) (fun a => ⟨a.1, a.2.1, a.2.2.1, a.2.2.2.1, a.2.2.2.2.1, a.2.2.2.2.2.1, a.2.2.2.2.2.2.1, a.2.2.2.2.2.2.2⟩) (fun _ => rfl)
theorem o80 : Opn Try.prog 80 k80 good80 := Opn.struct Try.underlying80 (by kernel_rfl) (by kernel_rfl) (ts := [4, 2]) rfl (OpnF.cons (Opn.bool Try.underlying4 (by kernel_rfl)) (by kernel_rfl) (OpnF.one (Opn.int Try.underlying2 (by kernel_rfl)) (by kernel_rfl))) (fun x : S80 => (x.f0, x.f1)) (fun a => ⟨a.1, a.2⟩) (fun _ => rfl)
theorem own : ownKnob Try.prog.godebug = none := by kernel_rfl
theorem laidOut : laidOutB Try.prog = true := by kernel_rfl
set_option maxRecDepth 100000 in
theorem lifted (os : Os) (started : os.Started) (H : Type) (enc : TypeId × Value → H) :
    ReturnsInHanded {} Try.checked os 9 .any (Rows.againSameSpec.pre6 enc Try.prog Try.f9 Rows.againSameRow.domain false) (Rows.againSameSpec.post enc Try.prog Try.f9 false true false false) := by
  refine returnsInHanded_of_change_sized (C := Try.checked) own started (by kernel_rfl) Try.func9
    (ChangeSpec.witness6 (enc := enc) (C := Try.checked) false ⟨#[], #[.slice none 0 0, .slice none 0 0, .slice none 0 0], []⟩ 8 (by kernel_rfl) (by kernel_rfl) (by kernel_rfl) (by kernel_rfl)) ?_
  intro W base args ds gs before hval0 hW hcnd hsz0 _
  have hsz : (DataW.weightsEach Try.prog (Try.f9.params.toList ++ Rows.againSameSpec.plain.varTypes Try.prog) (ds ++ gs)).all (· ≤ reachBytes) = true := hsz0
  have hval : ∀ (j : Nat) t v, Try.f9.params[j]? = some t → args[j]? = some v → Value.okWide Try.prog W .any base t v := hval0
  have hW' := hW
  obtain ⟨p, q, hA0, hV, rfl, hfz, hnd⟩ := hW
  have hA : DataW.TrodAll enc Try.prog W 0 (fun _ => true) true Try.f9.params.toList args.toList ds p := hA0
  rw [Try.params9] at hA hval hsz
  obtain ⟨v0, vs0, d0, ds0, p0, q0, hargs, rfl, rfl, h0, r0⟩ := trodAll_cons hA
  obtain ⟨v1, vs1, d1, ds1, p1, q1, rfl, rfl, rfl, h1, r1⟩ := trodAll_cons r0
  obtain ⟨v2, vs2, d2, ds2, p2, q2, rfl, rfl, rfl, h2, r2⟩ := trodAll_cons r1
  obtain ⟨rfl, rfl, rfl⟩ := trodAll_nil r2
  obtain rfl : args = #[v0, v1, v2] := by cases args; simp_all
  obtain ⟨rfl, rfl⟩ := trodVars_none hV
  have k0 := h0
  have lt0 : ∀ x ∈ p0, x.block < W.heap.size := by obtain ⟨m, hm⟩ := k0; exact DataW.trod_lt m _ _ _ hm
  obtain ⟨A0, c0, l0, rfl, r0_, m0, w0, y0⟩ := Opn.arg_slice (j := 0) (Opn.slice (t := 22) Try.underlying22 (by kernel_rfl) (B := 64) (by kernel_rfl) o40) Try.underlying22 hsz rfl rfl (hval 0 22 v0 rfl rfl) h0
  have k1 := h1
  have lt1 : ∀ x ∈ p1, x.block < W.heap.size := by obtain ⟨m, hm⟩ := k1; exact DataW.trod_lt m _ _ _ hm
  obtain ⟨A1, c1, l1, rfl, r1_, m1, w1, y1⟩ := Opn.arg_slice (j := 1) (Opn.slice (t := 23) Try.underlying23 (by kernel_rfl) (B := 16) (by kernel_rfl) o80) Try.underlying23 hsz rfl rfl (hval 1 23 v1 rfl rfl) h1
  have k2 := h2
  have lt2 : ∀ x ∈ p2, x.block < W.heap.size := by obtain ⟨m, hm⟩ := k2; exact DataW.trod_lt m _ _ _ hm
  obtain ⟨A2, c2, l2, rfl, r2_, m2, w2, y2⟩ := Opn.arg_slice (j := 2) (Opn.slice (t := 24) Try.underlying24 (by kernel_rfl) (B := 8) (by kernel_rfl) (Opn.int Try.underlying2 (by kernel_rfl))) Try.underlying24 hsz rfl rfl (hval 2 24 v2 rfl rfl) h2
  clear hA0 hval0 hsz0 hsz
  obtain ⟨k, hk⟩ := Pure.AgainSame l0 l1 l2 w0 y0 w1 y1 w2 y2
  refine (selvagelaw13_AgainSame.calls k _ _ l0 _ _ l1 _ _ l2 true W r0_ m0 r1_ m1 r2_ m2 hk).mono fun e W' ⟨he, bel⟩ => ?_
  subst he
  exact ⟨_, rfl, _, _, _, [], _, [], hW', trodAll_mk1 (shut_bool Try.underlying4 _), (trodAll_cons_mk (Below.trod laidOut (by kernel_rfl) (of_decide_eq_true (by kernel_rfl)) k0 bel lt0) (trodAll_cons_mk (Below.trod laidOut (by kernel_rfl) (of_decide_eq_true (by kernel_rfl)) k1 bel lt1) (trodAll_cons_mk (Below.trod laidOut (by kernel_rfl) (of_decide_eq_true (by kernel_rfl)) k2 bel lt2) trodAll_mk0))), rfl, bel.frame _, fun h => by cases h⟩
theorem over : Rows.againSameRow.holds Try.pinned (OpenSpec.ofChange Rows.againSameSpec) :=
  OpenClaim.holds_of_wide 9 Try.f9 rfl rfl rfl rfl rfl rfl rfl ⟨rfl, rfl, rfl, rfl, rfl⟩ rfl rfl rfl rfl rfl (by kernel_rfl) Try.func9 (by kernel_rfl)
    (of_decide_eq_true (by kernel_rfl)) (by unfold Func.isWrapper; first | (rw [if_pos (by decide +kernel)]; kernel_rfl) | (rw [if_neg (by decide +kernel)]; exact ⟨rfl, rfl⟩))
    (fun os started H enc _ => lifted os started H enc)
theorem proved : Rows.AgainSameSaid := over
#print axioms proved
end Go.Proofs.Ytdmbnlpcfgphpaa.againSame
namespace Go.Proofs.Ytdmbnlpcfgphpaa
/-- The row, under a short name, for the claim. -/
theorem againSame_holds : Rows.AgainSameSaid := againSame.proved
end Go.Proofs.Ytdmbnlpcfgphpaa
