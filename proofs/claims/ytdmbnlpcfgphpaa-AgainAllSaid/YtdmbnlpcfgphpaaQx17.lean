-- Printed by qprint.py (a program of this session, round the print): not a text of print.sh. Lean checks it.
import Derived.Test.YtdmbnlpcfgphpaaQx0
namespace Go.Proofs.Ytdmbnlpcfgphpaa.Q
open Go.RowKit Go.Proofs.YtdmbnlpcfgphpaaW.PrintWords Go.Proofs.YtdmbnlpcfgphpaaW.PrintLast Go.Proofs.YtdmbnlpcfgphpaaW.PrintMore
attribute [local go_sem] max2_int min2_int max_two min_two max_three min_three max_four min_four   -- for this text's walks alone
set_option linter.unusedVariables false
set_option linter.unusedSimpArgs false

/-! ### selvageref10_letters: function 40 -/
mutual
def selvageref10_letters.j0 : Nat → Int → Bool → Option (ByteArray)
  | 0, _, _ => none
  | k + 1, x3, x6 => if x6 = true then (some (⟨#[100, 97, 98]⟩ : ByteArray)) else (if x3 = 6 then (some (⟨#[100, 108]⟩ : ByteArray)) else (if x3 = 7 then (some (⟨#[97, 108]⟩ : ByteArray)) else (if x3 = 8 then (some (⟨#[100, 109]⟩ : ByteArray)) else (if x3 = 9 then (some (⟨#[97, 109]⟩ : ByteArray)) else (if x3 = 10 then (selvageref10_letters.j1 k x3 (x3 == 10)) else (selvageref10_letters.j1 k x3 (x3 == 11)))))))
def selvageref10_letters.j1 : Nat → Int → Bool → Option (ByteArray)
  | 0, _, _ => none
  | k + 1, x3, x19 => if x19 = true then (some (⟨#[100, 97, 109]⟩ : ByteArray)) else (if x3 = 12 then (some (⟨#[97, 98, 109, 116]⟩ : ByteArray)) else (if x3 = 13 then (some (⟨#[100, 97, 114]⟩ : ByteArray)) else (if x3 = 14 then (some (⟨#[97, 98, 114]⟩ : ByteArray)) else (if x3 = 15 then (some (⟨#[97]⟩ : ByteArray)) else (if x3 = 16 then (selvageref10_letters.j2 k x3 (x3 == 16)) else (selvageref10_letters.j2 k x3 (x3 == 17)))))))
def selvageref10_letters.j2 : Nat → Int → Bool → Option (ByteArray)
  | 0, _, _ => none
  | k + 1, x3, x30 => if x30 = true then (some (⟨#[97, 98, 116]⟩ : ByteArray)) else (if x3 = 18 then (some (⟨#[46]⟩ : ByteArray)) else (some (⟨#[]⟩ : ByteArray)))
end
def selvageref10_letters.f (k : Nat) (a0 : Int) : Option (ByteArray) := if a0 = 1 then (some (⟨#[100, 107]⟩ : ByteArray)) else (if a0 = 2 then (selvageref10_letters.j0 k a0 (a0 == 2)) else (if a0 = 3 then (selvageref10_letters.j0 k a0 (a0 == 3)) else (if a0 = 4 then (selvageref10_letters.j0 k a0 (a0 == 4)) else (selvageref10_letters.j0 k a0 (a0 == 5)))))
theorem selvageref10_letters.mono_l : ∀ k, (∀ y0 y1, LeO (selvageref10_letters.j0 k y0 y1) (selvageref10_letters.j0 (k + 1) y0 y1)) ∧ (∀ y0 y1, LeO (selvageref10_letters.j1 k y0 y1) (selvageref10_letters.j1 (k + 1) y0 y1)) ∧ (∀ y0 y1, LeO (selvageref10_letters.j2 k y0 y1) (selvageref10_letters.j2 (k + 1) y0 y1))
  | 0 => ⟨fun _ _ r h => by simp [selvageref10_letters.j0] at h, fun _ _ r h => by simp [selvageref10_letters.j1] at h, fun _ _ r h => by simp [selvageref10_letters.j2] at h⟩
  | k + 1 => by
    obtain ⟨ih0, ih1, ih2⟩ := selvageref10_letters.mono_l k
    refine ⟨?_, ?_, ?_⟩
    · intro y0 y1
      unfold selvageref10_letters.j0
      repeat' first
      | (with_reducible exact ih0 _ _)
      | (with_reducible exact ih1 _ _)
      | (with_reducible exact ih2 _ _)
      | (with_reducible exact LeO.refl _)
      | (with_reducible exact LeO.none _)
      | (with_reducible refine LeO.ite ?_ ?_)
      | (with_reducible refine LeO.bind ?_ (fun _ => ?_))
      | exact ih0 _ _
      | exact ih1 _ _
      | exact ih2 _ _
      | exact LeO.none _
      | refine LeO.ite ?_ ?_
      | refine LeO.bind ?_ (fun _ => ?_)
    · intro y0 y1
      unfold selvageref10_letters.j1
      repeat' first
      | (with_reducible exact ih0 _ _)
      | (with_reducible exact ih1 _ _)
      | (with_reducible exact ih2 _ _)
      | (with_reducible exact LeO.refl _)
      | (with_reducible exact LeO.none _)
      | (with_reducible refine LeO.ite ?_ ?_)
      | (with_reducible refine LeO.bind ?_ (fun _ => ?_))
      | exact ih0 _ _
      | exact ih1 _ _
      | exact ih2 _ _
      | exact LeO.none _
      | refine LeO.ite ?_ ?_
      | refine LeO.bind ?_ (fun _ => ?_)
    · intro y0 y1
      unfold selvageref10_letters.j2
      repeat' first
      | (with_reducible exact ih0 _ _)
      | (with_reducible exact ih1 _ _)
      | (with_reducible exact ih2 _ _)
      | (with_reducible exact LeO.refl _)
      | (with_reducible exact LeO.none _)
      | (with_reducible refine LeO.ite ?_ ?_)
      | (with_reducible refine LeO.bind ?_ (fun _ => ?_))
      | exact ih0 _ _
      | exact ih1 _ _
      | exact ih2 _ _
      | exact LeO.none _
      | refine LeO.ite ?_ ?_
      | refine LeO.bind ?_ (fun _ => ?_)
theorem selvageref10_letters.mono : ∀ a0 k, LeO (selvageref10_letters.f k a0) (selvageref10_letters.f (k + 1) a0) := by
  intro a0 k
  obtain ⟨ih0, ih1, ih2⟩ := selvageref10_letters.mono_l k
  unfold selvageref10_letters.f
  repeat' first
      | (with_reducible exact ih0 _ _)
      | (with_reducible exact ih1 _ _)
      | (with_reducible exact ih2 _ _)
      | (with_reducible exact LeO.refl _)
      | (with_reducible exact LeO.none _)
      | (with_reducible refine LeO.ite ?_ ?_)
      | (with_reducible refine LeO.bind ?_ (fun _ => ?_))
      | exact ih0 _ _
      | exact ih1 _ _
      | exact ih2 _ _
      | exact LeO.none _
      | refine LeO.ite ?_ ?_
      | refine LeO.bind ?_ (fun _ => ?_)
set_option maxHeartbeats 8000000 in
set_option maxRecDepth 100000 in
theorem selvageref10_letters.calls (k : Nat) (a0 : Int) (r : ByteArray) (w : World) (h : selvageref10_letters.f k a0 = some r) :
    Calls Try.prog 40 #[.int .i64 a0] w fun e w' => e = .returned (.string r) ∧ Drawn0 w w' := by
  have H : (if a0 = 1 then (some (⟨#[100, 107]⟩ : ByteArray)) else (if a0 = 2 then (selvageref10_letters.j0 k a0 (a0 == 2)) else (if a0 = 3 then (selvageref10_letters.j0 k a0 (a0 == 3)) else (if a0 = 4 then (selvageref10_letters.j0 k a0 (a0 == 4)) else (selvageref10_letters.j0 k a0 (a0 == 5)))))) = some r := h
  clear h
  by_cases c2 : a0 = 1
  · rw [if_pos c2] at H
    have c2b0 : (a0 == 1) = true := beq_iff_eq.mpr c2
    have c2b1 : (a0 != 1) = false := bne_eq_false_iff_eq.mpr c2
    clear c2
    obtain rfl := Option.some.inj H
    go_enter Try.func40, Try.ntmps40
    go_wp2
    go_ret
    exact ⟨by first | rfl | (simp; done) | (simp [*]; done), by repeat (first | exact Drawn0.refl _ | apply Drawn0.step)⟩
  · rw [if_neg c2] at H
    have c2b0 : (a0 == 1) = false := beq_eq_false_iff_ne.mpr c2
    have c2b1 : (a0 != 1) = true := bne_iff_ne.mpr c2
    have HC3 := Aside0.mk H
    clear H
    go_enter Try.func40, Try.ntmps40
    go_upto_if 6 with (fail)
    go_cut [6] (fun v6 wc => ∃ (kq : Nat) (x6_2 : Bool), v6 = .bool x6_2 ∧ Aside0 (selvageref10_letters.j0 kq a0 x6_2 = some r) ∧ Aside0 (kq ≤ k) ∧ Drawn0 w wc)
    case first =>
      have H := HC3.out
      clear HC3
      by_cases c4 : a0 = 2
      · rw [if_pos c4] at H
        have c4b0 : (a0 == 2) = true := beq_iff_eq.mpr c4
        have c4b1 : (a0 != 2) = false := bne_eq_false_iff_eq.mpr c4
        clear c4
        (first | rw [c4b0] | (simp only [i64_w, i32_w]; rw [c4b0]) | skip)
        have H' := Aside0.mk H
        clear H
        go_wp2
        go_meet
        case rel => exact ⟨_, ((a0 == 2)), (by first | rfl | (simp; done) | (simp [*]; done)), H', ⟨by first | omega | exact Nat.le_refl _⟩, by repeat (first | exact Drawn0.refl _ | apply Drawn0.step)⟩
      · rw [if_neg c4] at H
        have c4b0 : (a0 == 2) = false := beq_eq_false_iff_ne.mpr c4
        have c4b1 : (a0 != 2) = true := bne_iff_ne.mpr c4
        (first | rw [c4b0] | (simp only [i64_w, i32_w]; rw [c4b0]) | skip)
        by_cases c5 : a0 = 3
        · rw [if_pos c5] at H
          have c5b0 : (a0 == 3) = true := beq_iff_eq.mpr c5
          have c5b1 : (a0 != 3) = false := bne_eq_false_iff_eq.mpr c5
          clear c5
          have H' := Aside0.mk H
          clear H
          go_wp2
          go_meet
          case rel => exact ⟨_, ((a0 == 3)), (by first | rfl | (simp; done) | (simp [*]; done)), H', ⟨by first | omega | exact Nat.le_refl _⟩, by repeat (first | exact Drawn0.refl _ | apply Drawn0.step)⟩
        · rw [if_neg c5] at H
          have c5b0 : (a0 == 3) = false := beq_eq_false_iff_ne.mpr c5
          have c5b1 : (a0 != 3) = true := bne_iff_ne.mpr c5
          by_cases c6 : a0 = 4
          · rw [if_pos c6] at H
            have c6b0 : (a0 == 4) = true := beq_iff_eq.mpr c6
            have c6b1 : (a0 != 4) = false := bne_eq_false_iff_eq.mpr c6
            clear c6
            have H' := Aside0.mk H
            clear H
            go_wp2
            go_meet
            case rel => exact ⟨_, ((a0 == 4)), (by first | rfl | (simp; done) | (simp [*]; done)), H', ⟨by first | omega | exact Nat.le_refl _⟩, by repeat (first | exact Drawn0.refl _ | apply Drawn0.step)⟩
          · rw [if_neg c6] at H
            have c6b0 : (a0 == 4) = false := beq_eq_false_iff_ne.mpr c6
            have c6b1 : (a0 != 4) = true := bne_iff_ne.mpr c6
            have H' := Aside0.mk H
            clear H
            go_wp2
            go_meet
            case rel => exact ⟨_, ((a0 == 5)), (by first | rfl | (simp; done) | (simp [*]; done)), H', ⟨by first | omega | exact Nat.le_refl _⟩, by repeat (first | exact Drawn0.refl _ | apply Drawn0.step)⟩
    case rest =>
      clear HC3
      try clear c2
      try clear c2b0
      try clear c2b1
      try clear p2
      try clear c4
      try clear c4b0
      try clear c4b1
      try clear c5
      try clear c5b0
      try clear c5b1
      try clear c6
      try clear c6b0
      try clear c6b1
      obtain ⟨kq, x6_2, rfl, HA, HJ2, ⟨mc2, rfl⟩⟩ := hcut
      cases kq with
      | zero => exact absurd HA.out (by simp [selvageref10_letters.j0])
      | succ kj2 =>
        have H := HA.out
        clear HA
        simp only [selvageref10_letters.j0] at H
        by_cases c7 : x6_2 = true
        · subst c7
          have H1 : (some (⟨#[100, 97, 98]⟩ : ByteArray)) = some r := by rw [if_pos rfl] at H; exact H
          clear H
          have H := H1
          clear H1
          obtain rfl := Option.some.inj H
          go_wp2
          go_ret
          exact ⟨by first | rfl | (simp; done) | (simp [*]; done), by repeat (first | exact Drawn0.refl _ | apply Drawn0.step)⟩
        · replace c7 := Bool.eq_false_iff.mpr c7
          subst c7
          have H1 : (if a0 = 6 then (some (⟨#[100, 108]⟩ : ByteArray)) else (if a0 = 7 then (some (⟨#[97, 108]⟩ : ByteArray)) else (if a0 = 8 then (some (⟨#[100, 109]⟩ : ByteArray)) else (if a0 = 9 then (some (⟨#[97, 109]⟩ : ByteArray)) else (if a0 = 10 then (selvageref10_letters.j1 kj2 a0 (a0 == 10)) else (selvageref10_letters.j1 kj2 a0 (a0 == 11))))))) = some r := by rw [if_neg (show ¬ (false = true) by decide)] at H; exact H
          clear H
          have H := H1
          clear H1
          by_cases c8 : a0 = 6
          · rw [if_pos c8] at H
            have c8b0 : (a0 == 6) = true := beq_iff_eq.mpr c8
            have c8b1 : (a0 != 6) = false := bne_eq_false_iff_eq.mpr c8
            clear c8
            obtain rfl := Option.some.inj H
            go_wp2
            go_ret
            exact ⟨by first | rfl | (simp; done) | (simp [*]; done), by repeat (first | exact Drawn0.refl _ | apply Drawn0.step)⟩
          · rw [if_neg c8] at H
            have c8b0 : (a0 == 6) = false := beq_eq_false_iff_ne.mpr c8
            have c8b1 : (a0 != 6) = true := bne_iff_ne.mpr c8
            by_cases c9 : a0 = 7
            · rw [if_pos c9] at H
              have c9b0 : (a0 == 7) = true := beq_iff_eq.mpr c9
              have c9b1 : (a0 != 7) = false := bne_eq_false_iff_eq.mpr c9
              clear c9
              obtain rfl := Option.some.inj H
              go_wp2
              go_ret
              exact ⟨by first | rfl | (simp; done) | (simp [*]; done), by repeat (first | exact Drawn0.refl _ | apply Drawn0.step)⟩
            · rw [if_neg c9] at H
              have c9b0 : (a0 == 7) = false := beq_eq_false_iff_ne.mpr c9
              have c9b1 : (a0 != 7) = true := bne_iff_ne.mpr c9
              by_cases c10 : a0 = 8
              · rw [if_pos c10] at H
                have c10b0 : (a0 == 8) = true := beq_iff_eq.mpr c10
                have c10b1 : (a0 != 8) = false := bne_eq_false_iff_eq.mpr c10
                clear c10
                obtain rfl := Option.some.inj H
                go_wp2
                go_ret
                exact ⟨by first | rfl | (simp; done) | (simp [*]; done), by repeat (first | exact Drawn0.refl _ | apply Drawn0.step)⟩
              · rw [if_neg c10] at H
                have c10b0 : (a0 == 8) = false := beq_eq_false_iff_ne.mpr c10
                have c10b1 : (a0 != 8) = true := bne_iff_ne.mpr c10
                by_cases c11 : a0 = 9
                · rw [if_pos c11] at H
                  have c11b0 : (a0 == 9) = true := beq_iff_eq.mpr c11
                  have c11b1 : (a0 != 9) = false := bne_eq_false_iff_eq.mpr c11
                  clear c11
                  obtain rfl := Option.some.inj H
                  go_wp2
                  go_ret
                  exact ⟨by first | rfl | (simp; done) | (simp [*]; done), by repeat (first | exact Drawn0.refl _ | apply Drawn0.step)⟩
                · rw [if_neg c11] at H
                  have c11b0 : (a0 == 9) = false := beq_eq_false_iff_ne.mpr c11
                  have c11b1 : (a0 != 9) = true := bne_iff_ne.mpr c11
                  have HC12 := Aside0.mk H
                  clear H
                  go_upto_if 19 with (fail)
                  go_cut [19] (fun v19 wc => ∃ (kq : Nat) (x19_11 : Bool), v19 = .bool x19_11 ∧ Aside0 (selvageref10_letters.j1 kq a0 x19_11 = some r) ∧ Aside0 (kq ≤ kj2) ∧ Drawn0 w wc)
                  case first =>
                    have H := HC12.out
                    clear HC12
                    by_cases c13 : a0 = 10
                    · rw [if_pos c13] at H
                      have c13b0 : (a0 == 10) = true := beq_iff_eq.mpr c13
                      have c13b1 : (a0 != 10) = false := bne_eq_false_iff_eq.mpr c13
                      clear c13
                      (first | rw [c13b0] | (simp only [i64_w, i32_w]; rw [c13b0]) | skip)
                      have H' := Aside0.mk H
                      clear H
                      go_wp2
                      go_meet
                      case rel => exact ⟨_, ((a0 == 10)), (by first | rfl | (simp; done) | (simp [*]; done)), H', ⟨by have := HJ2.out; first | omega | exact Nat.le_refl _⟩, by repeat (first | exact Drawn0.refl _ | apply Drawn0.step)⟩
                    · rw [if_neg c13] at H
                      have c13b0 : (a0 == 10) = false := beq_eq_false_iff_ne.mpr c13
                      have c13b1 : (a0 != 10) = true := bne_iff_ne.mpr c13
                      (first | rw [c13b0] | (simp only [i64_w, i32_w]; rw [c13b0]) | skip)
                      have H' := Aside0.mk H
                      clear H
                      go_wp2
                      go_meet
                      case rel => exact ⟨_, ((a0 == 11)), (by first | rfl | (simp; done) | (simp [*]; done)), H', ⟨by have := HJ2.out; first | omega | exact Nat.le_refl _⟩, by repeat (first | exact Drawn0.refl _ | apply Drawn0.step)⟩
                  case rest =>
                    clear HC12
                    try clear c1
                    try clear c2
                    try clear c2b0
                    try clear c2b1
                    try clear p2
                    try clear c4
                    try clear c4b0
                    try clear c4b1
                    try clear c5
                    try clear c5b0
                    try clear c5b1
                    try clear c6
                    try clear c6b0
                    try clear c6b1
                    try clear c7
                    try clear c8
                    try clear c8b0
                    try clear c8b1
                    try clear c9
                    try clear c9b0
                    try clear c9b1
                    try clear c10
                    try clear c10b0
                    try clear c10b1
                    try clear c11
                    try clear c11b0
                    try clear c11b1
                    try clear c13
                    try clear c13b0
                    try clear c13b1
                    try clear p2
                    obtain ⟨kq, x19_11, rfl, HA, HJ11, ⟨mc11, rfl⟩⟩ := hcut
                    cases kq with
                    | zero => exact absurd HA.out (by simp [selvageref10_letters.j1])
                    | succ kj11 =>
                      have H := HA.out
                      clear HA
                      simp only [selvageref10_letters.j1] at H
                      by_cases c14 : x19_11 = true
                      · subst c14
                        have H1 : (some (⟨#[100, 97, 109]⟩ : ByteArray)) = some r := by rw [if_pos rfl] at H; exact H
                        clear H
                        have H := H1
                        clear H1
                        obtain rfl := Option.some.inj H
                        go_wp2
                        go_ret
                        exact ⟨by first | rfl | (simp; done) | (simp [*]; done), by repeat (first | exact Drawn0.refl _ | apply Drawn0.step)⟩
                      · replace c14 := Bool.eq_false_iff.mpr c14
                        subst c14
                        have H1 : (if a0 = 12 then (some (⟨#[97, 98, 109, 116]⟩ : ByteArray)) else (if a0 = 13 then (some (⟨#[100, 97, 114]⟩ : ByteArray)) else (if a0 = 14 then (some (⟨#[97, 98, 114]⟩ : ByteArray)) else (if a0 = 15 then (some (⟨#[97]⟩ : ByteArray)) else (if a0 = 16 then (selvageref10_letters.j2 kj11 a0 (a0 == 16)) else (selvageref10_letters.j2 kj11 a0 (a0 == 17))))))) = some r := by rw [if_neg (show ¬ (false = true) by decide)] at H; exact H
                        clear H
                        have H := H1
                        clear H1
                        by_cases c15 : a0 = 12
                        · rw [if_pos c15] at H
                          have c15b0 : (a0 == 12) = true := beq_iff_eq.mpr c15
                          have c15b1 : (a0 != 12) = false := bne_eq_false_iff_eq.mpr c15
                          clear c15
                          obtain rfl := Option.some.inj H
                          go_wp2
                          go_ret
                          exact ⟨by first | rfl | (simp; done) | (simp [*]; done), by repeat (first | exact Drawn0.refl _ | apply Drawn0.step)⟩
                        · rw [if_neg c15] at H
                          have c15b0 : (a0 == 12) = false := beq_eq_false_iff_ne.mpr c15
                          have c15b1 : (a0 != 12) = true := bne_iff_ne.mpr c15
                          by_cases c16 : a0 = 13
                          · rw [if_pos c16] at H
                            have c16b0 : (a0 == 13) = true := beq_iff_eq.mpr c16
                            have c16b1 : (a0 != 13) = false := bne_eq_false_iff_eq.mpr c16
                            clear c16
                            obtain rfl := Option.some.inj H
                            go_wp2
                            go_ret
                            exact ⟨by first | rfl | (simp; done) | (simp [*]; done), by repeat (first | exact Drawn0.refl _ | apply Drawn0.step)⟩
                          · rw [if_neg c16] at H
                            have c16b0 : (a0 == 13) = false := beq_eq_false_iff_ne.mpr c16
                            have c16b1 : (a0 != 13) = true := bne_iff_ne.mpr c16
                            by_cases c17 : a0 = 14
                            · rw [if_pos c17] at H
                              have c17b0 : (a0 == 14) = true := beq_iff_eq.mpr c17
                              have c17b1 : (a0 != 14) = false := bne_eq_false_iff_eq.mpr c17
                              clear c17
                              obtain rfl := Option.some.inj H
                              go_wp2
                              go_ret
                              exact ⟨by first | rfl | (simp; done) | (simp [*]; done), by repeat (first | exact Drawn0.refl _ | apply Drawn0.step)⟩
                            · rw [if_neg c17] at H
                              have c17b0 : (a0 == 14) = false := beq_eq_false_iff_ne.mpr c17
                              have c17b1 : (a0 != 14) = true := bne_iff_ne.mpr c17
                              by_cases c18 : a0 = 15
                              · rw [if_pos c18] at H
                                have c18b0 : (a0 == 15) = true := beq_iff_eq.mpr c18
                                have c18b1 : (a0 != 15) = false := bne_eq_false_iff_eq.mpr c18
                                clear c18
                                obtain rfl := Option.some.inj H
                                go_wp2
                                go_ret
                                exact ⟨by first | rfl | (simp; done) | (simp [*]; done), by repeat (first | exact Drawn0.refl _ | apply Drawn0.step)⟩
                              · rw [if_neg c18] at H
                                have c18b0 : (a0 == 15) = false := beq_eq_false_iff_ne.mpr c18
                                have c18b1 : (a0 != 15) = true := bne_iff_ne.mpr c18
                                have HC19 := Aside0.mk H
                                clear H
                                go_upto_if 30 with (fail)
                                go_cut [30] (fun v30 wc => ∃ (kq : Nat) (x30_18 : Bool), v30 = .bool x30_18 ∧ Aside0 (selvageref10_letters.j2 kq a0 x30_18 = some r) ∧ Aside0 (kq ≤ kj11) ∧ Drawn0 w wc)
                                case first =>
                                  have H := HC19.out
                                  clear HC19
                                  by_cases c20 : a0 = 16
                                  · rw [if_pos c20] at H
                                    have c20b0 : (a0 == 16) = true := beq_iff_eq.mpr c20
                                    have c20b1 : (a0 != 16) = false := bne_eq_false_iff_eq.mpr c20
                                    clear c20
                                    (first | rw [c20b0] | (simp only [i64_w, i32_w]; rw [c20b0]) | skip)
                                    have H' := Aside0.mk H
                                    clear H
                                    go_wp2
                                    go_meet
                                    case rel => exact ⟨_, ((a0 == 16)), (by first | rfl | (simp; done) | (simp [*]; done)), H', ⟨by have := HJ2.out; have := HJ11.out; first | omega | exact Nat.le_refl _⟩, by repeat (first | exact Drawn0.refl _ | apply Drawn0.step)⟩
                                  · rw [if_neg c20] at H
                                    have c20b0 : (a0 == 16) = false := beq_eq_false_iff_ne.mpr c20
                                    have c20b1 : (a0 != 16) = true := bne_iff_ne.mpr c20
                                    (first | rw [c20b0] | (simp only [i64_w, i32_w]; rw [c20b0]) | skip)
                                    have H' := Aside0.mk H
                                    clear H
                                    go_wp2
                                    go_meet
                                    case rel => exact ⟨_, ((a0 == 17)), (by first | rfl | (simp; done) | (simp [*]; done)), H', ⟨by have := HJ2.out; have := HJ11.out; first | omega | exact Nat.le_refl _⟩, by repeat (first | exact Drawn0.refl _ | apply Drawn0.step)⟩
                                case rest =>
                                  clear HC19
                                  try clear c1
                                  try clear c2
                                  try clear c2b0
                                  try clear c2b1
                                  try clear p2
                                  try clear c4
                                  try clear c4b0
                                  try clear c4b1
                                  try clear c5
                                  try clear c5b0
                                  try clear c5b1
                                  try clear c6
                                  try clear c6b0
                                  try clear c6b1
                                  try clear c7
                                  try clear c8
                                  try clear c8b0
                                  try clear c8b1
                                  try clear c9
                                  try clear c9b0
                                  try clear c9b1
                                  try clear c10
                                  try clear c10b0
                                  try clear c10b1
                                  try clear c11
                                  try clear c11b0
                                  try clear c11b1
                                  try clear c13
                                  try clear c13b0
                                  try clear c13b1
                                  try clear c14
                                  try clear c15
                                  try clear c15b0
                                  try clear c15b1
                                  try clear c16
                                  try clear c16b0
                                  try clear c16b1
                                  try clear c17
                                  try clear c17b0
                                  try clear c17b1
                                  try clear c18
                                  try clear c18b0
                                  try clear c18b1
                                  try clear c20
                                  try clear c20b0
                                  try clear c20b1
                                  try clear p2
                                  obtain ⟨kq, x30_18, rfl, HA, HJ18, ⟨mc18, rfl⟩⟩ := hcut
                                  cases kq with
                                  | zero => exact absurd HA.out (by simp [selvageref10_letters.j2])
                                  | succ kj18 =>
                                    have H := HA.out
                                    clear HA
                                    simp only [selvageref10_letters.j2] at H
                                    by_cases c21 : x30_18 = true
                                    · subst c21
                                      have H1 : (some (⟨#[97, 98, 116]⟩ : ByteArray)) = some r := by rw [if_pos rfl] at H; exact H
                                      clear H
                                      have H := H1
                                      clear H1
                                      obtain rfl := Option.some.inj H
                                      go_wp2
                                      go_ret
                                      exact ⟨by first | rfl | (simp; done) | (simp [*]; done), by repeat (first | exact Drawn0.refl _ | apply Drawn0.step)⟩
                                    · replace c21 := Bool.eq_false_iff.mpr c21
                                      subst c21
                                      have H1 : (if a0 = 18 then (some (⟨#[46]⟩ : ByteArray)) else (some (⟨#[]⟩ : ByteArray))) = some r := by rw [if_neg (show ¬ (false = true) by decide)] at H; exact H
                                      clear H
                                      have H := H1
                                      clear H1
                                      by_cases c22 : a0 = 18
                                      · rw [if_pos c22] at H
                                        have c22b0 : (a0 == 18) = true := beq_iff_eq.mpr c22
                                        have c22b1 : (a0 != 18) = false := bne_eq_false_iff_eq.mpr c22
                                        clear c22
                                        obtain rfl := Option.some.inj H
                                        go_wp2
                                        go_ret
                                        exact ⟨by first | rfl | (simp; done) | (simp [*]; done), by repeat (first | exact Drawn0.refl _ | apply Drawn0.step)⟩
                                      · rw [if_neg c22] at H
                                        have c22b0 : (a0 == 18) = false := beq_eq_false_iff_ne.mpr c22
                                        have c22b1 : (a0 != 18) = true := bne_iff_ne.mpr c22
                                        obtain rfl := Option.some.inj H
                                        go_wp2
                                        go_ret
                                        exact ⟨by first | rfl | (simp; done) | (simp [*]; done), by repeat (first | exact Drawn0.refl _ | apply Drawn0.step)⟩

end Go.Proofs.Ytdmbnlpcfgphpaa.Q
