/- The contract of tree.above: is a temp made on the way to a piece? -/
import Derived.Test.YtdmbnlpcfgphpaaMapi
import Derived.Test.YtdmbnlpcfgphpaaTree
import Derived.Lib.Hide
namespace Go.Proofs.Ytdmbnlpcfgphpaa.Q
open Go.RowKit Go.Maps Go.Proofs.YtdmbnlpcfgphpaaW.PrintWords Go.Proofs.YtdmbnlpcfgphpaaW.PrintLast Go.Proofs.YtdmbnlpcfgphpaaW.PrintMore
set_option linter.unusedVariables false
set_option linter.unusedSimpArgs false
/-- From piece i up to the piece 'at': is it met? -/
def climb (fs : List Int) (at_ : Int) : Nat → Int → Bool
  | 0, _ => false
  | f + 1, i => if at_ < i then (if rd fs i = at_ then true else climb fs at_ f (rd fs i)) else false
def aboveOf (m : Int → Option Int) (fs : List Int) (t : Int) (i : Nat) : Bool :=
  match m t with
  | none => false
  | some at_ => climb fs at_ (i + 1) i
set_option maxHeartbeats 4000000 in
set_option maxRecDepth 100000 in
theorem above_any (b n : Nat) (m : Int → Option Int) (A : Option Addr) (c : Nat) (fs : List Int) (t : Int) (i : Nat) (w : World) (hm : MapI w b n m) (ht : wf64 t) (hr : (Kd.int .i64).C w A fs.length fs) (hc : fs.length ≤ c)
    (hi : i < fs.length) (hf : ∀ j : Int, 1 ≤ j → j ≤ i → 0 ≤ rd fs j ∧ rd fs j < j) (hat : ∀ v, m t = some v → 0 ≤ v) :
    Calls Try.prog 36 #[.map (some b), .slice A fs.length c, .int .i64 t, .int .i64 (i : Int)] w fun e w' => e = .returned (.bool (aboveOf m fs t i)) ∧ Drawn0 w w' := by
  have HM := Aside0.mk hm
  have HR := Aside0.mk hr
  have HC := Aside0.mk hc
  clear hm hr hc
  rcases hmt : m t with _ | at_
  · have e1 : (m t).isSome = false := by rw [hmt]; rfl
    have e2 : aboveOf m fs t i = false := by unfold aboveOf; rw [hmt]
    rw [e2]
    go_enter Try.func36, Try.ntmps36
    go_wp2_with (at_lookup; refine MapI.look HM.out rfl _ _ rfl rfl t rfl ht ?_; rw [e1])
    go_ret
    exact ⟨rfl, by repeat (first | exact Drawn0.refl _ | apply Drawn0.step)⟩
  · have e1 : (m t).isSome = true := by rw [hmt]; rfl
    have e2 : (m t).getD 0 = at_ := by rw [hmt]; rfl
    have e3 : aboveOf m fs t i = climb fs at_ (i + 1) i := by unfold aboveOf; rw [hmt]
    have h0 : 0 ≤ at_ := hat _ hmt
    rw [e3]
    clear hmt e3
    go_enter Try.func36, Try.ntmps36
    go_wp2_with (at_lookup; refine MapI.look HM.out rfl _ _ rfl rfl t rfl ht ?_; rw [e1, e2])
    go_loopw [3] (fun v w' => ∃ (j : Int) (f : Nat), v = .int .i64 j ∧ 0 ≤ j ∧ j ≤ i ∧ j < f ∧ Aside0 (climb fs at_ (i + 1) i = climb fs at_ f j) ∧ Drawn0 w w') (fun v _ => (intOf v).toNat)
    case atStart => exact ⟨i, i + 1, rfl, by omega, by omega, by omega, ⟨rfl⟩, by repeat (first | exact Drawn0.refl _ | apply Drawn0.step)⟩
    case round =>
      obtain ⟨j, f, rfl, hj0, hji, hjf, HQ, ⟨m1, rfl⟩⟩ := hrel
      obtain ⟨f, rfl⟩ : ∃ f', f = f' + 1 := ⟨f - 1, by omega⟩
      by_cases hlt : at_ < j
      · have hj1 : 1 ≤ j := by omega
        obtain ⟨hq0, hq1⟩ := hf j hj1 hji
        have c1 : decide (at_ < j) = true := decide_eq_true hlt
        have p1 : 0 ≤ j := hj0
        have q1 : j < (fs.length : Int) := by omega
        obtain ⟨ad1, ea1, hx1⟩ := Kd.at_int HR.out j p1 q1
        cases ea1
        replace p1 := eq_true p1
        replace q1 := eq_true q1
        by_cases hq : rd fs j = at_
        · have c2 : (rd fs j == at_) = true := beq_iff_eq.2 hq
          have e5 : climb fs at_ (i + 1) i = true := by rw [HQ.out]; simp only [climb]; rw [if_pos hlt, if_pos hq]
          go_wp2
          go_ret
          exact ⟨by (first | exact rfl | (rw [e5]; exact rfl)), by repeat (first | exact Drawn0.refl _ | apply Drawn0.step)⟩
        · have c2 : (rd fs j == at_) = false := beq_eq_false_iff_ne.2 hq
          have e5 : climb fs at_ (i + 1) i = climb fs at_ f (rd fs j) := by rw [HQ.out]; simp only [climb]; rw [if_pos hlt, if_neg hq]
          have E5 := Aside0.mk e5
          clear e5
          go_wp2
          go_roundw
          case measure => simp [intOf]; omega
          case rel => exact ⟨rd fs j, f, rfl, by omega, by omega, by omega, E5, by repeat (first | exact Drawn0.refl _ | apply Drawn0.step)⟩
      · have c1 : decide (at_ < j) = false := decide_eq_false hlt
        have e5 : climb fs at_ (i + 1) i = false := by rw [HQ.out]; simp only [climb]; rw [if_neg hlt]
        go_wp2
        go_ret
        exact ⟨by (first | exact rfl | (rw [e5]; exact rfl)), by repeat (first | exact Drawn0.refl _ | apply Drawn0.step)⟩
end Go.Proofs.Ytdmbnlpcfgphpaa.Q
