-- Printed by qprint.py (a program of this session, round the print): not a text of print.sh. Lean checks it.
import Derived.Test.YtdmbnlpcfgphpaaQx0
import Derived.Test.YtdmbnlpcfgphpaaQx17
namespace Go.Proofs.Ytdmbnlpcfgphpaa.Q
open Go.RowKit Go.Proofs.YtdmbnlpcfgphpaaW.PrintWords Go.Proofs.YtdmbnlpcfgphpaaW.PrintLast Go.Proofs.YtdmbnlpcfgphpaaW.PrintMore
attribute [local go_sem] max2_int min2_int max_two min_two max_three min_three max_four min_four   -- for this text's walks alone
set_option linter.unusedVariables false
set_option linter.unusedSimpArgs false

/-! ### selvageref10_Has: function 20 -/
def selvageref10_Has.l0 : Nat → Int → ByteArray → Int → Option (Bool)
  | 0, _, _, _ => none
  | k + 1, x1, x5, x6 => if x6 < (x5.size : Int) then (if 0 ≤ x6 then (if (bt x5 x6) = x1 then (some true) else (selvageref10_Has.l0 k x1 x5 (wrap64 (x6 + 1)))) else (none)) else (some false)
def selvageref10_Has.f (k : Nat) (a0 : Int) (a1 : Int) : Option (Bool) := (selvageref10_letters.f k a0).bind fun t143 => (selvageref10_Has.l0 k a1 t143 0)
theorem selvageref10_Has.mono_l : ∀ k, (∀ y0 y1 y2, LeO (selvageref10_Has.l0 k y0 y1 y2) (selvageref10_Has.l0 (k + 1) y0 y1 y2))
  | 0 => fun _ _ _ r h => by simp [selvageref10_Has.l0] at h
  | k + 1 => by
    have ih0 := selvageref10_Has.mono_l k
    · intro y0 y1 y2
      unfold selvageref10_Has.l0
      repeat' first
      | (with_reducible exact ih0 _ _ _)
      | (with_reducible exact selvageref10_letters.mono _ _)
      | (with_reducible exact LeO.refl _)
      | (with_reducible exact LeO.none _)
      | (with_reducible refine LeO.ite ?_ ?_)
      | (with_reducible refine LeO.bind ?_ (fun _ => ?_))
      | exact ih0 _ _ _
      | exact selvageref10_letters.mono _ _
      | exact LeO.none _
      | refine LeO.ite ?_ ?_
      | refine LeO.bind ?_ (fun _ => ?_)
theorem selvageref10_Has.mono : ∀ a0 a1 k, LeO (selvageref10_Has.f k a0 a1) (selvageref10_Has.f (k + 1) a0 a1) := by
  intro a0 a1 k
  have ih0 := selvageref10_Has.mono_l k
  unfold selvageref10_Has.f
  repeat' first
      | (with_reducible exact ih0 _ _ _)
      | (with_reducible exact selvageref10_letters.mono _ _)
      | (with_reducible exact LeO.refl _)
      | (with_reducible exact LeO.none _)
      | (with_reducible refine LeO.ite ?_ ?_)
      | (with_reducible refine LeO.bind ?_ (fun _ => ?_))
      | exact ih0 _ _ _
      | exact selvageref10_letters.mono _ _
      | exact LeO.none _
      | refine LeO.ite ?_ ?_
      | refine LeO.bind ?_ (fun _ => ?_)
set_option maxHeartbeats 8000000 in
set_option maxRecDepth 100000 in
theorem selvageref10_Has.calls (k : Nat) (a0 : Int) (a1 : Int) (r : Bool) (w : World) (h : selvageref10_Has.f k a0 a1 = some r) :
    Calls Try.prog 20 #[.int .i64 a0, .int .u8 a1] w fun e w' => e = .returned (.bool r) ∧ Drawn0 w w' := by
  have H : ((selvageref10_letters.f k a0).bind fun t143 => (selvageref10_Has.l0 k a1 t143 0)) = some r := h
  clear h
  replace H := Option.bind_eq_some_iff.mp H
  obtain ⟨t143, A30, H⟩ := H
  replace H : (selvageref10_Has.l0 k a1 t143 0) = some r := H
  have A3 := Aside0.mk A30
  clear A30
  have H' := Aside0.mk H
  clear H
  go_enter Try.func20, Try.ntmps20
  go_wp2_with (first | ((with_reducible refine gate_callee (f := 40) rfl ?_); refine goesL_ (some 8) rfl rfl Try.func40 (by kernel_rfl) rfl #[.int .i64 a0] rfl (by (try simp only [List.map_toArray, List.map_cons, List.map_nil]); first | done | rfl | (simp only [List.length_drop, List.length_take]; rfl)) ?_; (with_reducible refine (selvageref10_letters.calls k a0 t143 _ A3.out).mono ?_); rintro e w' ⟨rfl, ⟨nd, rfl⟩⟩; refine ⟨_, rfl, ?_⟩))
  go_loopg [6] k (fun kq v6 w' => ∃ (x6_1 : Int), v6 = .int .i64 x6_1 ∧ Aside0 (selvageref10_Has.l0 kq a1 t143 x6_1 = some r) ∧ Aside0 (kq ≤ k) ∧ Drawn0 w w')
  case atStart => exact ⟨(0), (by first | rfl | (simp; done) | (simp [*]; done)), H', ⟨Nat.le_refl _⟩, by repeat (first | exact Drawn0.refl _ | apply Drawn0.step)⟩
  case round =>
    clear H'
    try clear c2
    try clear p2
    obtain ⟨x6_1, rfl, HA, HK1, ⟨m1, rfl⟩⟩ := hrel
    cases gk with
    | zero => exact absurd HA.out (by simp [selvageref10_Has.l0])
    | succ k1 =>
      have H := HA.out
      clear HA
      simp only [selvageref10_Has.l0] at H
      by_cases c4 : x6_1 < (t143.size : Int)
      · rw [if_pos c4] at H
        have c4b0 : decide (x6_1 < (t143.size : Int)) = true := decide_eq_true c4
        clear c4
        by_cases c5 : 0 ≤ x6_1
        · rw [if_pos c5] at H
          have c5b0 : decide (0 ≤ x6_1) = true := decide_eq_true c5
          clear c5
          by_cases c7 : (bt t143 x6_1) = a1
          · rw [if_pos c7] at H
            have c7b0 : ((bt t143 x6_1) == a1) = true := beq_iff_eq.mpr c7
            have c7b1 : ((bt t143 x6_1) != a1) = false := bne_eq_false_iff_eq.mpr c7
            clear c7
            obtain rfl := Option.some.inj H
            have p6 : 0 ≤ (x6_1 : Int) := of_decide_eq_true (by first | (with_reducible assumption) | assumption)
            have q6 : x6_1 < (t143.size : Int) := of_decide_eq_true (by first | (with_reducible assumption) | assumption)
            have hx6 := bt_at t143 x6_1
            replace p6 := eq_true p6
            replace q6 := eq_true q6
            go_wp2
            go_ret
            exact ⟨by first | rfl | (simp; done) | (simp [*]; done), by repeat (first | exact Drawn0.refl _ | apply Drawn0.step)⟩
          · rw [if_neg c7] at H
            have c7b0 : ((bt t143 x6_1) == a1) = false := beq_eq_false_iff_ne.mpr c7
            have c7b1 : ((bt t143 x6_1) != a1) = true := bne_iff_ne.mpr c7
            have H' := Aside0.mk H
            clear H
            have p6 : 0 ≤ (x6_1 : Int) := of_decide_eq_true (by first | (with_reducible assumption) | assumption)
            have q6 : x6_1 < (t143.size : Int) := of_decide_eq_true (by first | (with_reducible assumption) | assumption)
            have hx6 := bt_at t143 x6_1
            replace p6 := eq_true p6
            replace q6 := eq_true q6
            go_wp2
            go_roundg k1
            case measure => have := HK1.out; omega
            case rel => exact ⟨(wrap64 (x6_1 + 1)), (by first | rfl | (simp; done) | (simp [*]; done)), H', ⟨by have := HK1.out; omega⟩, by repeat (first | exact Drawn0.refl _ | apply Drawn0.step)⟩
        · rw [if_neg c5] at H
          exact absurd H (by simp)
      · rw [if_neg c4] at H
        have c4b0 : decide (x6_1 < (t143.size : Int)) = false := decide_eq_false c4
        clear c4
        obtain rfl := Option.some.inj H
        go_wp2
        go_ret
        exact ⟨by first | rfl | (simp; done) | (simp [*]; done), by repeat (first | exact Drawn0.refl _ | apply Drawn0.step)⟩

end Go.Proofs.Ytdmbnlpcfgphpaa.Q
