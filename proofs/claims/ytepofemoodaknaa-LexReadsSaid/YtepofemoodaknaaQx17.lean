-- Printed by qprint.py (a program of this session, round the print): not a text of print.sh. Lean checks it.
import Derived.Test.YtepofemoodaknaaQx0
namespace Go.Proofs.Ytepofemoodaknaa.Q
open Go.RowKit Go.Proofs.YtepofemoodaknaaW.PrintWords Go.Proofs.YtepofemoodaknaaW.PrintLast Go.Proofs.YtepofemoodaknaaW.PrintMore
attribute [local go_sem] max2_int min2_int max_two min_two max_three min_three max_four min_four   -- for this text's walks alone
set_option linter.unusedVariables false
set_option linter.unusedSimpArgs false

/-! ### selvageref04_Key: function 19 -/
def selvageref04_Key.l0 : Nat → ByteArray → Int → Option (Bool)
  | 0, _, _ => none
  | k + 1, x0, x3 => if (wrap64 ((wrap64 (x3 + (x0.size : Int))) + 2)) ≤ 101 then (if 0 ≤ x3 then (if x3 ≤ (wrap64 ((wrap64 (x3 + (x0.size : Int))) + 2)) then (if 1 + x0.size ≤ 9223372036854775807 then (if ((⟨#[32]⟩ : ByteArray) ++ x0).size + 1 ≤ 9223372036854775807 then (if ((⟨#[32, 99, 101, 108, 108, 32, 97, 116, 111, 109, 32, 114, 111, 119, 32, 100, 111, 109, 97, 105, 110, 32, 101, 110, 100, 32, 108, 101, 116, 32, 105, 110, 32, 105, 102, 32, 116, 104, 101, 110, 32, 101, 108, 115, 101, 32, 102, 117, 110, 32, 109, 97, 116, 99, 104, 32, 119, 105, 116, 104, 32, 110, 111, 110, 101, 32, 115, 111, 109, 101, 32, 116, 114, 117, 101, 32, 102, 97, 108, 115, 101, 32, 112, 114, 105, 110, 116, 32, 115, 119, 97, 112, 32, 97, 100, 100, 32, 99, 97, 115, 32]⟩ : ByteArray).extract (x3 : Int).toNat ((wrap64 ((wrap64 (x3 + (x0.size : Int))) + 2)) : Int).toNat).toList = (((⟨#[32]⟩ : ByteArray) ++ x0) ++ (⟨#[32]⟩ : ByteArray)).toList then (some (decide ((x0.size : Int) > 0))) else (selvageref04_Key.l0 k x0 (wrap64 (x3 + 1)))) else (none)) else (none)) else (none)) else (none)) else (some false)
def selvageref04_Key.f (k : Nat) (a0 : ByteArray) : Option (Bool) := selvageref04_Key.l0 k a0 0
theorem selvageref04_Key.mono_l : ∀ k, (∀ y0 y1, LeO (selvageref04_Key.l0 k y0 y1) (selvageref04_Key.l0 (k + 1) y0 y1))
  | 0 => fun _ _ r h => by simp [selvageref04_Key.l0] at h
  | k + 1 => by
    have ih0 := selvageref04_Key.mono_l k
    · intro y0 y1
      unfold selvageref04_Key.l0
      repeat' first
      | (with_reducible exact ih0 _ _)
      | (with_reducible exact LeO.refl _)
      | (with_reducible exact LeO.none _)
      | (with_reducible refine LeO.ite ?_ ?_)
      | (with_reducible refine LeO.bind ?_ (fun _ => ?_))
      | exact ih0 _ _
      | exact LeO.none _
      | refine LeO.ite ?_ ?_
      | refine LeO.bind ?_ (fun _ => ?_)
theorem selvageref04_Key.mono : ∀ a0 k, LeO (selvageref04_Key.f k a0) (selvageref04_Key.f (k + 1) a0) := by
  intro a0 k
  have ih0 := selvageref04_Key.mono_l k
  unfold selvageref04_Key.f
  repeat' first
      | (with_reducible exact ih0 _ _)
      | (with_reducible exact LeO.refl _)
      | (with_reducible exact LeO.none _)
      | (with_reducible refine LeO.ite ?_ ?_)
      | (with_reducible refine LeO.bind ?_ (fun _ => ?_))
      | exact ih0 _ _
      | exact LeO.none _
      | refine LeO.ite ?_ ?_
      | refine LeO.bind ?_ (fun _ => ?_)
set_option maxHeartbeats 8000000 in
set_option maxRecDepth 100000 in
theorem selvageref04_Key.calls (k : Nat) (a0 : ByteArray) (r : Bool) (w : World) (h : selvageref04_Key.f k a0 = some r) :
    Calls Try.prog 19 #[.string a0] w fun e w' => e = .returned (.bool r) ∧ Drawn0 w w' := by
  have H : (selvageref04_Key.l0 k a0 0) = some r := h
  clear h
  have H' := Aside0.mk H
  clear H
  go_enter Try.func19, Try.ntmps19
  go_wp2
  go_loopg [3] k (fun kq v3 w' => ∃ (x3_1 : Int), v3 = .int .i64 x3_1 ∧ Aside0 (selvageref04_Key.l0 kq a0 x3_1 = some r) ∧ Aside0 (kq ≤ k) ∧ Drawn0 w w')
  case atStart => exact ⟨(0), (by first | rfl | (simp; done) | (simp [*]; done)), H', ⟨Nat.le_refl _⟩, by repeat (first | exact Drawn0.refl _ | apply Drawn0.step)⟩
  case round =>
    clear H'
    try clear c1
    obtain ⟨x3_1, rfl, HA, HK1, ⟨m1, rfl⟩⟩ := hrel
    cases gk with
    | zero => exact absurd HA.out (by simp [selvageref04_Key.l0])
    | succ k1 =>
      have H := HA.out
      clear HA
      simp only [selvageref04_Key.l0] at H
      by_cases c2 : (wrap64 ((wrap64 (x3_1 + (a0.size : Int))) + 2)) ≤ 101
      · rw [if_pos c2] at H
        have c2b0 : decide ((wrap64 ((wrap64 (x3_1 + (a0.size : Int))) + 2)) ≤ 101) = true := decide_eq_true c2
        clear c2
        by_cases c3 : 0 ≤ x3_1
        · rw [if_pos c3] at H
          have c3b0 := eq_true c3
          have c3b1 : decide (0 ≤ x3_1) = true := decide_eq_true c3
          clear c3
          by_cases c4 : x3_1 ≤ (wrap64 ((wrap64 (x3_1 + (a0.size : Int))) + 2))
          · rw [if_pos c4] at H
            have c4b0 := eq_true c4
            have c4b1 : decide (x3_1 ≤ (wrap64 ((wrap64 (x3_1 + (a0.size : Int))) + 2))) = true := decide_eq_true c4
            have c5b0 := eq_true (of_decide_eq_true (by first | (with_reducible assumption) | assumption) : (wrap64 ((wrap64 (x3_1 + (a0.size : Int))) + 2)) ≤ 101)
            by_cases c6 : 1 + a0.size ≤ 9223372036854775807
            · rw [if_pos c6] at H
              have c6b0 := eq_true c6
              have c6b1 : decide (1 + a0.size ≤ 9223372036854775807) = true := decide_eq_true c6
              try have c6b2 : (9223372036854775807 < 1 + a0.size) = False := eq_false (Nat.not_lt.2 c6)
              by_cases c7 : ((⟨#[32]⟩ : ByteArray) ++ a0).size + 1 ≤ 9223372036854775807
              · rw [if_pos c7] at H
                have c7b0 := eq_true c7
                have c7b1 : decide (((⟨#[32]⟩ : ByteArray) ++ a0).size + 1 ≤ 9223372036854775807) = true := decide_eq_true c7
                try have c7b2 : (9223372036854775807 < ((⟨#[32]⟩ : ByteArray) ++ a0).size + 1) = False := eq_false (Nat.not_lt.2 c7)
                have c7b3 : (9223372036854775807 < 1 + a0.size + 1) = False := eq_false (by have h_ := c7; rw [ByteArray.size_append] at h_; have h1_ : (⟨#[32]⟩ : ByteArray).size = 1 := rfl; omega)
                by_cases c8 : ((⟨#[32, 99, 101, 108, 108, 32, 97, 116, 111, 109, 32, 114, 111, 119, 32, 100, 111, 109, 97, 105, 110, 32, 101, 110, 100, 32, 108, 101, 116, 32, 105, 110, 32, 105, 102, 32, 116, 104, 101, 110, 32, 101, 108, 115, 101, 32, 102, 117, 110, 32, 109, 97, 116, 99, 104, 32, 119, 105, 116, 104, 32, 110, 111, 110, 101, 32, 115, 111, 109, 101, 32, 116, 114, 117, 101, 32, 102, 97, 108, 115, 101, 32, 112, 114, 105, 110, 116, 32, 115, 119, 97, 112, 32, 97, 100, 100, 32, 99, 97, 115, 32]⟩ : ByteArray).extract (x3_1 : Int).toNat ((wrap64 ((wrap64 (x3_1 + (a0.size : Int))) + 2)) : Int).toNat).toList = (((⟨#[32]⟩ : ByteArray) ++ a0) ++ (⟨#[32]⟩ : ByteArray)).toList
                · rw [if_pos c8] at H
                  have c8b0 : (((⟨#[32, 99, 101, 108, 108, 32, 97, 116, 111, 109, 32, 114, 111, 119, 32, 100, 111, 109, 97, 105, 110, 32, 101, 110, 100, 32, 108, 101, 116, 32, 105, 110, 32, 105, 102, 32, 116, 104, 101, 110, 32, 101, 108, 115, 101, 32, 102, 117, 110, 32, 109, 97, 116, 99, 104, 32, 119, 105, 116, 104, 32, 110, 111, 110, 101, 32, 115, 111, 109, 101, 32, 116, 114, 117, 101, 32, 102, 97, 108, 115, 101, 32, 112, 114, 105, 110, 116, 32, 115, 119, 97, 112, 32, 97, 100, 100, 32, 99, 97, 115, 32]⟩ : ByteArray).extract (x3_1 : Int).toNat ((wrap64 ((wrap64 (x3_1 + (a0.size : Int))) + 2)) : Int).toNat).toList == (((⟨#[32]⟩ : ByteArray) ++ a0) ++ (⟨#[32]⟩ : ByteArray)).toList) = true := beq_iff_eq.mpr c8
                  have c8b1 : (((⟨#[32, 99, 101, 108, 108, 32, 97, 116, 111, 109, 32, 114, 111, 119, 32, 100, 111, 109, 97, 105, 110, 32, 101, 110, 100, 32, 108, 101, 116, 32, 105, 110, 32, 105, 102, 32, 116, 104, 101, 110, 32, 101, 108, 115, 101, 32, 102, 117, 110, 32, 109, 97, 116, 99, 104, 32, 119, 105, 116, 104, 32, 110, 111, 110, 101, 32, 115, 111, 109, 101, 32, 116, 114, 117, 101, 32, 102, 97, 108, 115, 101, 32, 112, 114, 105, 110, 116, 32, 115, 119, 97, 112, 32, 97, 100, 100, 32, 99, 97, 115, 32]⟩ : ByteArray).extract (x3_1 : Int).toNat ((wrap64 ((wrap64 (x3_1 + (a0.size : Int))) + 2)) : Int).toNat).toList != (((⟨#[32]⟩ : ByteArray) ++ a0) ++ (⟨#[32]⟩ : ByteArray)).toList) = false := bne_eq_false_iff_eq.mpr c8
                  clear c8
                  obtain rfl := Option.some.inj H
                  go_wp2
                  go_ret
                  exact ⟨by first | rfl | (simp; done) | (simp [*]; done), by repeat (first | exact Drawn0.refl _ | apply Drawn0.step)⟩
                · rw [if_neg c8] at H
                  have c8b0 : (((⟨#[32, 99, 101, 108, 108, 32, 97, 116, 111, 109, 32, 114, 111, 119, 32, 100, 111, 109, 97, 105, 110, 32, 101, 110, 100, 32, 108, 101, 116, 32, 105, 110, 32, 105, 102, 32, 116, 104, 101, 110, 32, 101, 108, 115, 101, 32, 102, 117, 110, 32, 109, 97, 116, 99, 104, 32, 119, 105, 116, 104, 32, 110, 111, 110, 101, 32, 115, 111, 109, 101, 32, 116, 114, 117, 101, 32, 102, 97, 108, 115, 101, 32, 112, 114, 105, 110, 116, 32, 115, 119, 97, 112, 32, 97, 100, 100, 32, 99, 97, 115, 32]⟩ : ByteArray).extract (x3_1 : Int).toNat ((wrap64 ((wrap64 (x3_1 + (a0.size : Int))) + 2)) : Int).toNat).toList == (((⟨#[32]⟩ : ByteArray) ++ a0) ++ (⟨#[32]⟩ : ByteArray)).toList) = false := beq_eq_false_iff_ne.mpr c8
                  have c8b1 : (((⟨#[32, 99, 101, 108, 108, 32, 97, 116, 111, 109, 32, 114, 111, 119, 32, 100, 111, 109, 97, 105, 110, 32, 101, 110, 100, 32, 108, 101, 116, 32, 105, 110, 32, 105, 102, 32, 116, 104, 101, 110, 32, 101, 108, 115, 101, 32, 102, 117, 110, 32, 109, 97, 116, 99, 104, 32, 119, 105, 116, 104, 32, 110, 111, 110, 101, 32, 115, 111, 109, 101, 32, 116, 114, 117, 101, 32, 102, 97, 108, 115, 101, 32, 112, 114, 105, 110, 116, 32, 115, 119, 97, 112, 32, 97, 100, 100, 32, 99, 97, 115, 32]⟩ : ByteArray).extract (x3_1 : Int).toNat ((wrap64 ((wrap64 (x3_1 + (a0.size : Int))) + 2)) : Int).toNat).toList != (((⟨#[32]⟩ : ByteArray) ++ a0) ++ (⟨#[32]⟩ : ByteArray)).toList) = true := bne_iff_ne.mpr c8
                  have H' := Aside0.mk H
                  clear H
                  go_wp2
                  go_roundg k1
                  case measure => have := HK1.out; omega
                  case rel => exact ⟨(wrap64 (x3_1 + 1)), (by first | rfl | (simp; done) | (simp [*]; done)), H', ⟨by have := HK1.out; omega⟩, by repeat (first | exact Drawn0.refl _ | apply Drawn0.step)⟩
              · rw [if_neg c7] at H
                exact absurd H (by simp)
            · rw [if_neg c6] at H
              exact absurd H (by simp)
          · rw [if_neg c4] at H
            exact absurd H (by simp)
        · rw [if_neg c3] at H
          exact absurd H (by simp)
      · rw [if_neg c2] at H
        have c2b0 : decide ((wrap64 ((wrap64 (x3_1 + (a0.size : Int))) + 2)) ≤ 101) = false := decide_eq_false c2
        clear c2
        obtain rfl := Option.some.inj H
        go_wp2
        go_ret
        exact ⟨by first | rfl | (simp; done) | (simp [*]; done), by repeat (first | exact Drawn0.refl _ | apply Drawn0.step)⟩

end Go.Proofs.Ytepofemoodaknaa.Q
