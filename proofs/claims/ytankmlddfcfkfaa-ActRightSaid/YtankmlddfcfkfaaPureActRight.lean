/- Any act is one on some locations, or none, as the document says: the pure statement of ActRight, proved; no further condition. -/
import Derived.Test.YtankmlddfcfkfaaStActRight
namespace Go.Proofs.Ytankmlddfcfkfaa.Pure
open Go.RowKit Go.Proofs.YtankmlddfcfkfaaW.PrintWords Go.Proofs.YtankmlddfcfkfaaW.PrintLast Go.Proofs.Ytankmlddfcfkfaa.PActRight Go.Proofs.Ytankmlddfcfkfaa.StActRight
namespace Right
theorem awake : Ev (fun k => selvagelaw08_awake.f k) true := Ev.of (k := 20) selvagelaw08_awake.mono (by kernel_rfl)

theorem ref_said (a1 a2 a3 : Int) (l : List S31) : Ev (fun k => selvageref08_Right.f k 6 a1 a2 a3 l) (a1 == 0 && a2 == 0) := by
  refine Ev.congr (f := fun _ => some (a1 == 0 && a2 == 0)) (fun k => ?_) (Ev.now _)
  simp [selvageref08_Right.f]
theorem ref_out (a0 a1 a2 a3 : Int) (l : List S31) (h6 : a0 ≠ 6) (h : a1 < 0 ∨ (l.length : Int) ≤ a1) : Ev (fun k => selvageref08_Right.f k a0 a1 a2 a3 l) false := by
  have hj : Ev (fun k => selvageref08_Right.j0 k l true a0 a1 a2 a3) false := by
    refine Ev.step (f := fun _ => some false) (fun k => ?_) (Ev.now _)
    simp [selvageref08_Right.j0]
  refine Ev.congr (fun k => ?_) hj
  unfold selvageref08_Right.f
  rw [if_neg h6]
  by_cases h0 : a1 < 0
  · rw [if_pos h0]
  · rw [if_neg h0, decide_eq_true (by omega)]
theorem ref_in (a0 a1 a2 a3 : Int) (l : List S31) (h6 : a0 ≠ 6) (h0 : 0 ≤ a1) (h1 : a1 < (l.length : Int)) (b : Bool) (hb : ∀ k, selvageref08_Right.j0 (k + 1) l false a0 a1 a2 a3 = some b) : Ev (fun k => selvageref08_Right.f k a0 a1 a2 a3 l) b := by
  have hj : Ev (fun k => selvageref08_Right.j0 k l false a0 a1 a2 a3) b := Ev.step (f := fun _ => some b) hb (Ev.now _)
  refine Ev.congr (fun k => ?_) hj
  unfold selvageref08_Right.f
  rw [if_neg h6, if_neg (by omega), decide_eq_false (by omega)]

def ans (a0 a2 a3 : Int) (f : Bool) : Bool := if a0 = 1 then !f && a3 == 0 else if a0 = 2 then !f && a2 == 0 else if a0 = 3 then f && a3 == 0 else if a0 = 4 then f && a2 == 0 else (a0 == 5 && f)
theorem both (a0 a1 a2 a3 : Int) (l : List S31) : ∃ b, act_Right.f a0 a1 a2 a3 l = some b ∧ Ev (fun k => selvageref08_Right.f k a0 a1 a2 a3 l) b := by
  by_cases h6 : a0 = 6
  · subst h6
    refine ⟨_, ?_, ref_said a1 a2 a3 l⟩
    unfold act_Right.f
    by_cases h : a1 = 0 <;> simp [h]
  · by_cases hin : 0 ≤ a1 ∧ a1 < (l.length : Int)
    · obtain ⟨h0, h1⟩ := hin
      have e1 : (a1 ≥ 0) = True := by simp [h0]
      have e2 : (a1 < (l.length : Int)) = True := by simp [h1]
      have e3 : (0 ≤ a1) = True := by simp [h0]
      refine ⟨ans a0 a2 a3 (rd_T31 l a1).f0, ?_, ref_in a0 a1 a2 a3 l h6 h0 h1 _ (fun k => ?_)⟩
      · unfold act_Right.f ans
        simp only [e1, e2, if_true, if_neg h6]
        cases (rd_T31 l a1).f0 <;> by_cases c1 : a0 = 1 <;> by_cases c2 : a0 = 2 <;> by_cases c3 : a0 = 3 <;> by_cases c4 : a0 = 4 <;> by_cases c5 : a0 = 5 <;> by_cases c6 : a2 = 0 <;> first | omega | simp [c1, c2, c3, c4, c5, c6]
      · simp only [selvageref08_Right.j0, ans, e2, e3, if_true]
        cases (rd_T31 l a1).f0 <;> by_cases c1 : a0 = 1 <;> by_cases c2 : a0 = 2 <;> by_cases c3 : a0 = 3 <;> by_cases c4 : a0 = 4 <;> by_cases c5 : a0 = 5 <;> first | omega | simp [c1, c2, c3, c4, c5]
    · refine ⟨false, ?_, ref_out a0 a1 a2 a3 l h6 (by omega)⟩
      unfold act_Right.f
      rw [if_neg h6]
      by_cases h0 : 0 ≤ a1
      · have h1 : ¬ a1 < (l.length : Int) := fun h => hin ⟨h0, h⟩
        simp only [ge_iff_le, if_pos h0, if_neg h1]
        repeat (split <;> first | rfl | skip)
      · simp only [ge_iff_le, if_neg h0]
        repeat (split <;> first | rfl | skip)
end Right

theorem ActRight : StActRight.Pure := by
  rintro ⟨a0, a1, a2, a3⟩ l _ _ _
  refine Ev.rounds (g := fun k => selvagelaw08_ActRight.f k a0 a1 a2 a3 l) ?_
  unfold selvagelaw08_ActRight.f
  refine Ev.bind Right.awake ?_
  simp only [if_true]
  obtain ⟨b, h1, h2⟩ := Right.both a0 a1 a2 a3 l
  simp only [h1, Option.bind_some]
  exact Ev.bind h2 (by simpa using Ev.now true)
end Go.Proofs.Ytankmlddfcfkfaa.Pure
