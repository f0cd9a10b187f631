-- Printed by qprint.py (a program of this session, round the print): not a text of print.sh. Lean checks it.
import Derived.Test.YtepofemoodaknaaQx0
import Derived.Test.YtepofemoodaknaaQx12
import Derived.Test.YtepofemoodaknaaQx14
namespace Go.Proofs.Ytepofemoodaknaa.Q
open Go.RowKit Go.Proofs.YtepofemoodaknaaW.PrintWords Go.Proofs.YtepofemoodaknaaW.PrintLast Go.Proofs.YtepofemoodaknaaW.PrintMore
attribute [local go_sem] max2_int min2_int max_two min_two max_three min_three max_four min_four   -- for this text's walks alone
set_option linter.unusedVariables false
set_option linter.unusedSimpArgs false

/-! ### selvagelaw04_LexPlaces: function 4 -/
mutual
def selvagelaw04_LexPlaces.l0 : Nat → ByteArray → List (S32) → Int → Int → Option (Bool)
  | 0, _, _, _, _ => none
  | k + 1, x0, x3, x6, x7 => if x7 ≤ (x3.length : Int) then (if x7 < (x3.length : Int) then (if 0 ≤ x7 then (selvagelaw04_LexPlaces.j1 k x0 x3 x6 x7 ((rd_T32 x3 x7).f3)) else (none)) else (selvagelaw04_LexPlaces.j1 k x0 x3 x6 x7 (x0.size : Int))) else (some true)
def selvagelaw04_LexPlaces.j1 : Nat → ByteArray → List (S32) → Int → Int → Int → Option (Bool)
  | 0, _, _, _, _, _ => none
  | k + 1, x0, x3, x6, x7, x8 => if x8 < x6 then (selvagelaw04_LexPlaces.j2 k x0 x3 x6 x7 x8 true) else (selvagelaw04_LexPlaces.j2 k x0 x3 x6 x7 x8 (decide (x8 > (x0.size : Int))))
def selvagelaw04_LexPlaces.j2 : Nat → ByteArray → List (S32) → Int → Int → Int → Bool → Option (Bool)
  | 0, _, _, _, _, _, _ => none
  | k + 1, x0, x3, x6, x7, x8, x60 => if x60 = true then (some false) else (selvagelaw04_LexPlaces.l1 k x0 x3 x6 x7 x8 false x6)
def selvagelaw04_LexPlaces.l1 : Nat → ByteArray → List (S32) → Int → Int → Int → Bool → Int → Option (Bool)
  | 0, _, _, _, _, _, _, _ => none
  | k + 1, x0, x3, x6, x7, x8, x9, x10 => if x10 < x8 then (if 0 ≤ x10 then (if x10 < (x0.size : Int) then (if (bt x0 x10) = 35 then (selvagelaw04_LexPlaces.j4 k x0 x3 x6 x7 x8 true x10 (bt x0 x10)) else (selvagelaw04_LexPlaces.j4 k x0 x3 x6 x7 x8 x9 x10 (bt x0 x10))) else (none)) else (none)) else (if x9 = true then (selvagelaw04_LexPlaces.j6 k x0 x3 x6 x7 x8 (decide (x7 < (x3.length : Int)))) else (selvagelaw04_LexPlaces.j6 k x0 x3 x6 x7 x8 false))
def selvagelaw04_LexPlaces.j4 : Nat → ByteArray → List (S32) → Int → Int → Int → Bool → Int → Int → Option (Bool)
  | 0, _, _, _, _, _, _, _, _ => none
  | k + 1, x0, x3, x6, x7, x8, x9, x10, x11 => if x9 = true then (selvagelaw04_LexPlaces.j5 k x0 x3 x6 x7 x8 x9 x10 x11 false) else (if x11 = 32 then (selvagelaw04_LexPlaces.j5 k x0 x3 x6 x7 x8 x9 x10 x11 false) else (if x11 = 9 then (selvagelaw04_LexPlaces.j5 k x0 x3 x6 x7 x8 x9 x10 x11 false) else (if x11 = 10 then (selvagelaw04_LexPlaces.j5 k x0 x3 x6 x7 x8 x9 x10 x11 false) else (selvagelaw04_LexPlaces.j5 k x0 x3 x6 x7 x8 x9 x10 x11 (x11 != 13)))))
def selvagelaw04_LexPlaces.j5 : Nat → ByteArray → List (S32) → Int → Int → Int → Bool → Int → Int → Bool → Option (Bool)
  | 0, _, _, _, _, _, _, _, _, _ => none
  | k + 1, x0, x3, x6, x7, x8, x9, x10, x11, x89 => if x89 = true then (some false) else (if x11 = 10 then (selvagelaw04_LexPlaces.l1 k x0 x3 x6 x7 x8 false (wrap64 (x10 + 1))) else (selvagelaw04_LexPlaces.l1 k x0 x3 x6 x7 x8 x9 (wrap64 (x10 + 1))))
def selvagelaw04_LexPlaces.j6 : Nat → ByteArray → List (S32) → Int → Int → Int → Bool → Option (Bool)
  | 0, _, _, _, _, _, _ => none
  | k + 1, x0, x3, x6, x7, x8, x98 => if x98 = true then (some false) else (if x7 < (x3.length : Int) then (if 0 ≤ x7 then (if (((rd_T32 x3 x7).f1).size : Int) = 0 then (some false) else (if (((rd_T32 x3 x7).f1).size : Int) > (wrap64 ((x0.size : Int) - x8)) then (some false) else (if 0 ≤ x8 then (if x8 ≤ (wrap64 (x8 + (((rd_T32 x3 x7).f1).size : Int))) then (if (wrap64 (x8 + (((rd_T32 x3 x7).f1).size : Int))) ≤ (x0.size : Int) then (if (x0.extract (x8 : Int).toNat ((wrap64 (x8 + (((rd_T32 x3 x7).f1).size : Int))) : Int).toNat).toList = ((rd_T32 x3 x7).f1).toList then (selvagelaw04_LexPlaces.l0 k x0 x3 (wrap64 (x8 + (((rd_T32 x3 x7).f1).size : Int))) (wrap64 (x7 + 1))) else (some false)) else (none)) else (none)) else (none)))) else (none)) else (selvagelaw04_LexPlaces.l0 k x0 x3 x6 (wrap64 (x7 + 1))))
end
def selvagelaw04_LexPlaces.f (k : Nat) (a0 : ByteArray) : Option (Bool) := (selvagelaw04_awake.f k).bind fun t163 => (if t163 = true then ((lex_Tokens.f a0).bind fun bt164 => (if bt164.2.1 = 0 then (selvagelaw04_LexPlaces.l0 k a0 bt164.1 0 0) else (if (bt164.1.length : Int) = 0 then (if bt164.2.2 ≥ 0 then (some (decide (bt164.2.2 ≤ (a0.size : Int)))) else (some false)) else (some false)))) else (some false))
theorem selvagelaw04_LexPlaces.mono_l : ∀ k, (∀ y0 y1 y2 y3, LeO (selvagelaw04_LexPlaces.l0 k y0 y1 y2 y3) (selvagelaw04_LexPlaces.l0 (k + 1) y0 y1 y2 y3)) ∧ (∀ y0 y1 y2 y3 y4, LeO (selvagelaw04_LexPlaces.j1 k y0 y1 y2 y3 y4) (selvagelaw04_LexPlaces.j1 (k + 1) y0 y1 y2 y3 y4)) ∧ (∀ y0 y1 y2 y3 y4 y5, LeO (selvagelaw04_LexPlaces.j2 k y0 y1 y2 y3 y4 y5) (selvagelaw04_LexPlaces.j2 (k + 1) y0 y1 y2 y3 y4 y5)) ∧ (∀ y0 y1 y2 y3 y4 y5 y6, LeO (selvagelaw04_LexPlaces.l1 k y0 y1 y2 y3 y4 y5 y6) (selvagelaw04_LexPlaces.l1 (k + 1) y0 y1 y2 y3 y4 y5 y6)) ∧ (∀ y0 y1 y2 y3 y4 y5 y6 y7, LeO (selvagelaw04_LexPlaces.j4 k y0 y1 y2 y3 y4 y5 y6 y7) (selvagelaw04_LexPlaces.j4 (k + 1) y0 y1 y2 y3 y4 y5 y6 y7)) ∧ (∀ y0 y1 y2 y3 y4 y5 y6 y7 y8, LeO (selvagelaw04_LexPlaces.j5 k y0 y1 y2 y3 y4 y5 y6 y7 y8) (selvagelaw04_LexPlaces.j5 (k + 1) y0 y1 y2 y3 y4 y5 y6 y7 y8)) ∧ (∀ y0 y1 y2 y3 y4 y5, LeO (selvagelaw04_LexPlaces.j6 k y0 y1 y2 y3 y4 y5) (selvagelaw04_LexPlaces.j6 (k + 1) y0 y1 y2 y3 y4 y5))
  | 0 => ⟨fun _ _ _ _ r h => by simp [selvagelaw04_LexPlaces.l0] at h, fun _ _ _ _ _ r h => by simp [selvagelaw04_LexPlaces.j1] at h, fun _ _ _ _ _ _ r h => by simp [selvagelaw04_LexPlaces.j2] at h, fun _ _ _ _ _ _ _ r h => by simp [selvagelaw04_LexPlaces.l1] at h, fun _ _ _ _ _ _ _ _ r h => by simp [selvagelaw04_LexPlaces.j4] at h, fun _ _ _ _ _ _ _ _ _ r h => by simp [selvagelaw04_LexPlaces.j5] at h, fun _ _ _ _ _ _ r h => by simp [selvagelaw04_LexPlaces.j6] at h⟩
  | k + 1 => by
    obtain ⟨ih0, ih1, ih2, ih3, ih4, ih5, ih6⟩ := selvagelaw04_LexPlaces.mono_l k
    refine ⟨?_, ?_, ?_, ?_, ?_, ?_, ?_⟩
    · intro y0 y1 y2 y3
      unfold selvagelaw04_LexPlaces.l0
      repeat' first
      | (with_reducible exact ih0 _ _ _ _)
      | (with_reducible exact ih1 _ _ _ _ _)
      | (with_reducible exact ih2 _ _ _ _ _ _)
      | (with_reducible exact ih3 _ _ _ _ _ _ _)
      | (with_reducible exact ih4 _ _ _ _ _ _ _ _)
      | (with_reducible exact ih5 _ _ _ _ _ _ _ _ _)
      | (with_reducible exact ih6 _ _ _ _ _ _)
      | (with_reducible exact selvagelaw04_awake.mono _)
      | (with_reducible exact LeO.refl _)
      | (with_reducible exact LeO.none _)
      | (with_reducible refine LeO.ite ?_ ?_)
      | (with_reducible refine LeO.bind ?_ (fun _ => ?_))
      | exact ih0 _ _ _ _
      | exact ih1 _ _ _ _ _
      | exact ih2 _ _ _ _ _ _
      | exact ih3 _ _ _ _ _ _ _
      | exact ih4 _ _ _ _ _ _ _ _
      | exact ih5 _ _ _ _ _ _ _ _ _
      | exact ih6 _ _ _ _ _ _
      | exact selvagelaw04_awake.mono _
      | exact LeO.none _
      | refine LeO.ite ?_ ?_
      | refine LeO.bind ?_ (fun _ => ?_)
    · intro y0 y1 y2 y3 y4
      unfold selvagelaw04_LexPlaces.j1
      repeat' first
      | (with_reducible exact ih0 _ _ _ _)
      | (with_reducible exact ih1 _ _ _ _ _)
      | (with_reducible exact ih2 _ _ _ _ _ _)
      | (with_reducible exact ih3 _ _ _ _ _ _ _)
      | (with_reducible exact ih4 _ _ _ _ _ _ _ _)
      | (with_reducible exact ih5 _ _ _ _ _ _ _ _ _)
      | (with_reducible exact ih6 _ _ _ _ _ _)
      | (with_reducible exact selvagelaw04_awake.mono _)
      | (with_reducible exact LeO.refl _)
      | (with_reducible exact LeO.none _)
      | (with_reducible refine LeO.ite ?_ ?_)
      | (with_reducible refine LeO.bind ?_ (fun _ => ?_))
      | exact ih0 _ _ _ _
      | exact ih1 _ _ _ _ _
      | exact ih2 _ _ _ _ _ _
      | exact ih3 _ _ _ _ _ _ _
      | exact ih4 _ _ _ _ _ _ _ _
      | exact ih5 _ _ _ _ _ _ _ _ _
      | exact ih6 _ _ _ _ _ _
      | exact selvagelaw04_awake.mono _
      | exact LeO.none _
      | refine LeO.ite ?_ ?_
      | refine LeO.bind ?_ (fun _ => ?_)
    · intro y0 y1 y2 y3 y4 y5
      unfold selvagelaw04_LexPlaces.j2
      repeat' first
      | (with_reducible exact ih0 _ _ _ _)
      | (with_reducible exact ih1 _ _ _ _ _)
      | (with_reducible exact ih2 _ _ _ _ _ _)
      | (with_reducible exact ih3 _ _ _ _ _ _ _)
      | (with_reducible exact ih4 _ _ _ _ _ _ _ _)
      | (with_reducible exact ih5 _ _ _ _ _ _ _ _ _)
      | (with_reducible exact ih6 _ _ _ _ _ _)
      | (with_reducible exact selvagelaw04_awake.mono _)
      | (with_reducible exact LeO.refl _)
      | (with_reducible exact LeO.none _)
      | (with_reducible refine LeO.ite ?_ ?_)
      | (with_reducible refine LeO.bind ?_ (fun _ => ?_))
      | exact ih0 _ _ _ _
      | exact ih1 _ _ _ _ _
      | exact ih2 _ _ _ _ _ _
      | exact ih3 _ _ _ _ _ _ _
      | exact ih4 _ _ _ _ _ _ _ _
      | exact ih5 _ _ _ _ _ _ _ _ _
      | exact ih6 _ _ _ _ _ _
      | exact selvagelaw04_awake.mono _
      | exact LeO.none _
      | refine LeO.ite ?_ ?_
      | refine LeO.bind ?_ (fun _ => ?_)
    · intro y0 y1 y2 y3 y4 y5 y6
      unfold selvagelaw04_LexPlaces.l1
      repeat' first
      | (with_reducible exact ih0 _ _ _ _)
      | (with_reducible exact ih1 _ _ _ _ _)
      | (with_reducible exact ih2 _ _ _ _ _ _)
      | (with_reducible exact ih3 _ _ _ _ _ _ _)
      | (with_reducible exact ih4 _ _ _ _ _ _ _ _)
      | (with_reducible exact ih5 _ _ _ _ _ _ _ _ _)
      | (with_reducible exact ih6 _ _ _ _ _ _)
      | (with_reducible exact selvagelaw04_awake.mono _)
      | (with_reducible exact LeO.refl _)
      | (with_reducible exact LeO.none _)
      | (with_reducible refine LeO.ite ?_ ?_)
      | (with_reducible refine LeO.bind ?_ (fun _ => ?_))
      | exact ih0 _ _ _ _
      | exact ih1 _ _ _ _ _
      | exact ih2 _ _ _ _ _ _
      | exact ih3 _ _ _ _ _ _ _
      | exact ih4 _ _ _ _ _ _ _ _
      | exact ih5 _ _ _ _ _ _ _ _ _
      | exact ih6 _ _ _ _ _ _
      | exact selvagelaw04_awake.mono _
      | exact LeO.none _
      | refine LeO.ite ?_ ?_
      | refine LeO.bind ?_ (fun _ => ?_)
    · intro y0 y1 y2 y3 y4 y5 y6 y7
      unfold selvagelaw04_LexPlaces.j4
      repeat' first
      | (with_reducible exact ih0 _ _ _ _)
      | (with_reducible exact ih1 _ _ _ _ _)
      | (with_reducible exact ih2 _ _ _ _ _ _)
      | (with_reducible exact ih3 _ _ _ _ _ _ _)
      | (with_reducible exact ih4 _ _ _ _ _ _ _ _)
      | (with_reducible exact ih5 _ _ _ _ _ _ _ _ _)
      | (with_reducible exact ih6 _ _ _ _ _ _)
      | (with_reducible exact selvagelaw04_awake.mono _)
      | (with_reducible exact LeO.refl _)
      | (with_reducible exact LeO.none _)
      | (with_reducible refine LeO.ite ?_ ?_)
      | (with_reducible refine LeO.bind ?_ (fun _ => ?_))
      | exact ih0 _ _ _ _
      | exact ih1 _ _ _ _ _
      | exact ih2 _ _ _ _ _ _
      | exact ih3 _ _ _ _ _ _ _
      | exact ih4 _ _ _ _ _ _ _ _
      | exact ih5 _ _ _ _ _ _ _ _ _
      | exact ih6 _ _ _ _ _ _
      | exact selvagelaw04_awake.mono _
      | exact LeO.none _
      | refine LeO.ite ?_ ?_
      | refine LeO.bind ?_ (fun _ => ?_)
    · intro y0 y1 y2 y3 y4 y5 y6 y7 y8
      unfold selvagelaw04_LexPlaces.j5
      repeat' first
      | (with_reducible exact ih0 _ _ _ _)
      | (with_reducible exact ih1 _ _ _ _ _)
      | (with_reducible exact ih2 _ _ _ _ _ _)
      | (with_reducible exact ih3 _ _ _ _ _ _ _)
      | (with_reducible exact ih4 _ _ _ _ _ _ _ _)
      | (with_reducible exact ih5 _ _ _ _ _ _ _ _ _)
      | (with_reducible exact ih6 _ _ _ _ _ _)
      | (with_reducible exact selvagelaw04_awake.mono _)
      | (with_reducible exact LeO.refl _)
      | (with_reducible exact LeO.none _)
      | (with_reducible refine LeO.ite ?_ ?_)
      | (with_reducible refine LeO.bind ?_ (fun _ => ?_))
      | exact ih0 _ _ _ _
      | exact ih1 _ _ _ _ _
      | exact ih2 _ _ _ _ _ _
      | exact ih3 _ _ _ _ _ _ _
      | exact ih4 _ _ _ _ _ _ _ _
      | exact ih5 _ _ _ _ _ _ _ _ _
      | exact ih6 _ _ _ _ _ _
      | exact selvagelaw04_awake.mono _
      | exact LeO.none _
      | refine LeO.ite ?_ ?_
      | refine LeO.bind ?_ (fun _ => ?_)
    · intro y0 y1 y2 y3 y4 y5
      unfold selvagelaw04_LexPlaces.j6
      repeat' first
      | (with_reducible exact ih0 _ _ _ _)
      | (with_reducible exact ih1 _ _ _ _ _)
      | (with_reducible exact ih2 _ _ _ _ _ _)
      | (with_reducible exact ih3 _ _ _ _ _ _ _)
      | (with_reducible exact ih4 _ _ _ _ _ _ _ _)
      | (with_reducible exact ih5 _ _ _ _ _ _ _ _ _)
      | (with_reducible exact ih6 _ _ _ _ _ _)
      | (with_reducible exact selvagelaw04_awake.mono _)
      | (with_reducible exact LeO.refl _)
      | (with_reducible exact LeO.none _)
      | (with_reducible refine LeO.ite ?_ ?_)
      | (with_reducible refine LeO.bind ?_ (fun _ => ?_))
      | exact ih0 _ _ _ _
      | exact ih1 _ _ _ _ _
      | exact ih2 _ _ _ _ _ _
      | exact ih3 _ _ _ _ _ _ _
      | exact ih4 _ _ _ _ _ _ _ _
      | exact ih5 _ _ _ _ _ _ _ _ _
      | exact ih6 _ _ _ _ _ _
      | exact selvagelaw04_awake.mono _
      | exact LeO.none _
      | refine LeO.ite ?_ ?_
      | refine LeO.bind ?_ (fun _ => ?_)
theorem selvagelaw04_LexPlaces.mono : ∀ a0 k, LeO (selvagelaw04_LexPlaces.f k a0) (selvagelaw04_LexPlaces.f (k + 1) a0) := by
  intro a0 k
  obtain ⟨ih0, ih1, ih2, ih3, ih4, ih5, ih6⟩ := selvagelaw04_LexPlaces.mono_l k
  unfold selvagelaw04_LexPlaces.f
  repeat' first
      | (with_reducible exact ih0 _ _ _ _)
      | (with_reducible exact ih1 _ _ _ _ _)
      | (with_reducible exact ih2 _ _ _ _ _ _)
      | (with_reducible exact ih3 _ _ _ _ _ _ _)
      | (with_reducible exact ih4 _ _ _ _ _ _ _ _)
      | (with_reducible exact ih5 _ _ _ _ _ _ _ _ _)
      | (with_reducible exact ih6 _ _ _ _ _ _)
      | (with_reducible exact selvagelaw04_awake.mono _)
      | (with_reducible exact LeO.refl _)
      | (with_reducible exact LeO.none _)
      | (with_reducible refine LeO.ite ?_ ?_)
      | (with_reducible refine LeO.bind ?_ (fun _ => ?_))
      | exact ih0 _ _ _ _
      | exact ih1 _ _ _ _ _
      | exact ih2 _ _ _ _ _ _
      | exact ih3 _ _ _ _ _ _ _
      | exact ih4 _ _ _ _ _ _ _ _
      | exact ih5 _ _ _ _ _ _ _ _ _
      | exact ih6 _ _ _ _ _ _
      | exact selvagelaw04_awake.mono _
      | exact LeO.none _
      | refine LeO.ite ?_ ?_
      | refine LeO.bind ?_ (fun _ => ?_)
set_option maxHeartbeats 8000000 in
set_option maxRecDepth 100000 in
theorem selvagelaw04_LexPlaces.calls (k : Nat) (a0 : ByteArray) (r : Bool) (w : World) (h : selvagelaw04_LexPlaces.f k a0 = some r) :
    Calls Try.prog 4 #[.string a0] w fun e w' => e = .returned (.bool r) ∧ Below w.heap.size w w' := by
  have HB := Aside0.mk (Below.refl w.heap.size w)
  have H : ((selvagelaw04_awake.f k).bind fun t163 => (if t163 = true then ((lex_Tokens.f a0).bind fun bt164 => (if bt164.2.1 = 0 then (selvagelaw04_LexPlaces.l0 k a0 bt164.1 0 0) else (if (bt164.1.length : Int) = 0 then (if bt164.2.2 ≥ 0 then (some (decide (bt164.2.2 ≤ (a0.size : Int)))) else (some false)) else (some false)))) else (some false))) = some r := h
  clear h
  replace H := Option.bind_eq_some_iff.mp H
  obtain ⟨t163, A20, H⟩ := H
  replace H : (if t163 = true then ((lex_Tokens.f a0).bind fun bt164 => (if bt164.2.1 = 0 then (selvagelaw04_LexPlaces.l0 k a0 bt164.1 0 0) else (if (bt164.1.length : Int) = 0 then (if bt164.2.2 ≥ 0 then (some (decide (bt164.2.2 ≤ (a0.size : Int)))) else (some false)) else (some false)))) else (some false)) = some r := H
  have A2 := Aside0.mk A20
  clear A20
  by_cases c3 : t163 = true
  · subst c3
    have H1 : ((lex_Tokens.f a0).bind fun bt164 => (if bt164.2.1 = 0 then (selvagelaw04_LexPlaces.l0 k a0 bt164.1 0 0) else (if (bt164.1.length : Int) = 0 then (if bt164.2.2 ≥ 0 then (some (decide (bt164.2.2 ≤ (a0.size : Int)))) else (some false)) else (some false)))) = some r := by rw [if_pos rfl] at H; exact H
    clear H
    have H := H1
    clear H1
    replace H := Option.bind_eq_some_iff.mp H
    obtain ⟨⟨t164, t165, t166⟩, A40, H⟩ := H
    replace H : (if t165 = 0 then (selvagelaw04_LexPlaces.l0 k a0 t164 0 0) else (if (t164.length : Int) = 0 then (if t166 ≥ 0 then (some (decide (t166 ≤ (a0.size : Int)))) else (some false)) else (some false))) = some r := H
    have A4 := Aside0.mk A40
    clear A40
    by_cases c5 : t165 = 0
    · rw [if_pos c5] at H
      have c5b0 : (t165 == 0) = true := beq_iff_eq.mpr c5
      have c5b1 : (t165 != 0) = false := bne_eq_false_iff_eq.mpr c5
      clear c5
      have H' := Aside0.mk H
      clear H
      go_enter Try.func4, Try.ntmps4
      go_wp2_with (first | (go_at_call 8; (with_reducible refine (selvagelaw04_awake.calls k  true _ A2.out).mono ?_); rintro e w6 ⟨rfl, hb⟩; have n0_ := Aside0.mk (below_step (by repeat (first | (with_reducible first | exact HB.out | apply below_alloc | apply pw_below_drewN | apply below_drew1) | exact HB.out)) hb); clear HB; have HB := n0_; clear n0_; (try clear hb); (try clear hb2); (try clear hk); (try clear hi)) | (go_at_call 9; (with_reducible refine (lex_Tokens.calls a0 t164 t165 t166 _ A4.out).mono ?_); rintro e w7 ⟨v167, rfl, ho0, hb⟩; have n0_ := Aside0.mk (Kd.R_lower ho0 (below_size (by repeat (first | (with_reducible first | exact HB.out | apply below_alloc | apply pw_below_drewN | apply below_drew1) | exact HB.out)))); have n1_ := Aside0.mk (below_step (by repeat (first | (with_reducible first | exact HB.out | apply below_alloc | apply pw_below_drewN | apply below_drew1) | exact HB.out)) hb); clear HB; have HO168 := n0_; have HB := n1_; clear n0_ n1_; (try clear hb); (try clear hb2); (try clear hk); (try clear hi); (try clear ho0)))
      repeat (go_quiet (first | (go_at_call 8; (with_reducible refine (selvagelaw04_awake.calls k  true _ A2.out).mono ?_); rintro e w6 ⟨rfl, hb⟩; have n0_ := Aside0.mk (below_step (by repeat (first | (with_reducible first | exact HB.out | apply below_alloc | apply pw_below_drewN | apply below_drew1) | exact HB.out)) hb); clear HB; have HB := n0_; clear n0_; (try clear hb); (try clear hb2); (try clear hk); (try clear hi)) | (go_at_call 9; (with_reducible refine (lex_Tokens.calls a0 t164 t165 t166 _ A4.out).mono ?_); rintro e w7 ⟨v167, rfl, ho0, hb⟩; have n0_ := Aside0.mk (Kd.R_lower ho0 (below_size (by repeat (first | (with_reducible first | exact HB.out | apply below_alloc | apply pw_below_drewN | apply below_drew1) | exact HB.out)))); have n1_ := Aside0.mk (below_step (by repeat (first | (with_reducible first | exact HB.out | apply below_alloc | apply pw_below_drewN | apply below_drew1) | exact HB.out)) hb); clear HB; have HO168 := n0_; have HB := n1_; clear n0_ n1_; (try clear hb); (try clear hb2); (try clear hk); (try clear hi); (try clear ho0))); try go_wp2_with (first | (go_at_call 8; (with_reducible refine (selvagelaw04_awake.calls k  true _ A2.out).mono ?_); rintro e w6 ⟨rfl, hb⟩; have n0_ := Aside0.mk (below_step (by repeat (first | (with_reducible first | exact HB.out | apply below_alloc | apply pw_below_drewN | apply below_drew1) | exact HB.out)) hb); clear HB; have HB := n0_; clear n0_; (try clear hb); (try clear hb2); (try clear hk); (try clear hi)) | (go_at_call 9; (with_reducible refine (lex_Tokens.calls a0 t164 t165 t166 _ A4.out).mono ?_); rintro e w7 ⟨v167, rfl, ho0, hb⟩; have n0_ := Aside0.mk (Kd.R_lower ho0 (below_size (by repeat (first | (with_reducible first | exact HB.out | apply below_alloc | apply pw_below_drewN | apply below_drew1) | exact HB.out)))); have n1_ := Aside0.mk (below_step (by repeat (first | (with_reducible first | exact HB.out | apply below_alloc | apply pw_below_drewN | apply below_drew1) | exact HB.out)) hb); clear HB; have HO168 := n0_; have HB := n1_; clear n0_ n1_; (try clear hb); (try clear hb2); (try clear hk); (try clear hi); (try clear ho0))))
      go_loopg [6, 7] k (fun kq v6 v7 w' => ∃ (x6_1 : Int) (x7_1 : Int), v6 = .int .i64 x6_1 ∧ v7 = .int .i64 x7_1 ∧ Aside0 (selvagelaw04_LexPlaces.l0 kq a0 t164 x6_1 x7_1 = some r) ∧ Aside0 (kq ≤ k) ∧ Aside0 (Kd.R k32 32 w' w.heap.size (fun _ => True) v167 t164) ∧ Aside0 (Below w.heap.size w w'))
      case atStart => exact ⟨(0), (0), (by first | rfl | (simp; done) | (simp [*]; done)), (by first | rfl | (simp; done) | (simp [*]; done)), H', ⟨Nat.le_refl _⟩, ⟨by (with_reducible repeat (first | apply Kd.R_alloc | apply Kd.R_drewN | apply Kd.R_drew)); exact HO168.out⟩, ⟨by repeat (first | (with_reducible first | exact HB.out | apply below_alloc | apply pw_below_drewN | apply below_drew1) | exact HB.out)⟩⟩
      case round =>
        clear H'
        try clear p2
        try clear c3
        try clear c4
        try clear c5
        try clear c5b0
        try clear c5b1
        obtain ⟨x6_1, x7_1, rfl, rfl, HA, HK1, HO_3, HB⟩ := hrel
        cases gk with
        | zero => exact absurd HA.out (by simp [selvagelaw04_LexPlaces.l0])
        | succ k1 =>
          have H := HA.out
          clear HA
          simp only [selvagelaw04_LexPlaces.l0] at H
          by_cases c8 : x7_1 ≤ (t164.length : Int)
          · rw [if_pos c8] at H
            have c8b0 : decide (x7_1 ≤ (t164.length : Int)) = true := decide_eq_true c8
            clear c8
            have HC9 := Aside0.mk H
            clear H
            obtain ⟨Ao10, co10, eo10⟩ := Kd.R_slice HO_3.out
            subst eo10
            go_upto_if 46 with (fail)
            repeat (go_quiet (fail); go_upto_if 46 with (fail))
            go_cut [8] (fun v8 wc => ∃ (kq : Nat) (x8_8 : Int), v8 = .int .i64 x8_8 ∧ Aside0 (selvagelaw04_LexPlaces.j1 kq a0 t164 x6_1 x7_1 x8_8 = some r) ∧ Aside0 (kq ≤ k1) ∧ Aside0 (Kd.R k32 32 wc w.heap.size (fun _ => True) (.slice Ao10 t164.length co10) t164) ∧ Aside0 (Below w.heap.size w wc))
            case first =>
              have H := HC9.out
              clear HC9
              by_cases c11 : x7_1 < (t164.length : Int)
              · rw [if_pos c11] at H
                have c11b0 : decide (x7_1 < (t164.length : Int)) = true := decide_eq_true c11
                clear c11
                (first | rw [c11b0] | (simp only [i64_w, i32_w]; rw [c11b0]) | skip)
                by_cases c12 : 0 ≤ x7_1
                · rw [if_pos c12] at H
                  have c12b0 : decide (0 ≤ x7_1) = true := decide_eq_true c12
                  clear c12
                  have H' := Aside0.mk H
                  clear H
                  have p169 : 0 ≤ (x7_1 : Int) := of_decide_eq_true (by first | (with_reducible assumption) | assumption)
                  have q169 : x7_1 < (t164.length : Int) := of_decide_eq_true (by first | (with_reducible assumption) | assumption)
                  obtain ⟨ad169, e169, hx169_0, hx169_1, hx169_2, hx169_3⟩ := at_T32 (Kd.R_reads' HO_3.out).2.2 x7_1 p169 q169
                  cases e169
                  replace p169 := eq_true p169
                  replace q169 := eq_true q169
                  go_wp2
                  repeat (go_quiet (fail); try go_wp2)
                  go_meet
                  case rel => exact ⟨_, ((rd_T32 t164 x7_1).f3), (by first | rfl | (simp; done) | (simp [*]; done)), H', ⟨by have := HK1.out; first | omega | exact Nat.le_refl _⟩, ⟨by (with_reducible repeat (first | apply Kd.R_alloc | apply Kd.R_drewN | apply Kd.R_drew)); exact HO_3.out⟩, ⟨by repeat (first | (with_reducible first | exact HB.out | apply below_alloc | apply pw_below_drewN | apply below_drew1) | exact HB.out)⟩⟩
                · rw [if_neg c12] at H
                  exact absurd H (by simp)
              · rw [if_neg c11] at H
                have c11b0 : decide (x7_1 < (t164.length : Int)) = false := decide_eq_false c11
                clear c11
                (first | rw [c11b0] | (simp only [i64_w, i32_w]; rw [c11b0]) | skip)
                have H' := Aside0.mk H
                clear H
                go_wp2
                repeat (go_quiet (fail); try go_wp2)
                go_meet
                case rel => exact ⟨_, ((a0.size : Int)), (by first | rfl | (simp; done) | (simp [*]; done)), H', ⟨by have := HK1.out; first | omega | exact Nat.le_refl _⟩, ⟨by (with_reducible repeat (first | apply Kd.R_alloc | apply Kd.R_drewN | apply Kd.R_drew)); exact HO_3.out⟩, ⟨by repeat (first | (with_reducible first | exact HB.out | apply below_alloc | apply pw_below_drewN | apply below_drew1) | exact HB.out)⟩⟩
            case rest =>
              clear HC9
              try clear c1
              try clear p1
              try clear q1
              try clear hx1
              try clear p2
              try clear c3
              try clear c4
              try clear c5
              try clear c5b0
              try clear c5b1
              try clear c8
              try clear c8b0
              try clear c11
              try clear c11b0
              try clear c12
              try clear c12b0
              try clear hx169_0
              try clear hx169_1
              try clear hx169_2
              try clear hx169_3
              try clear p169
              try clear p2
              try clear q169
              obtain ⟨kq, x8_8, rfl, HA, HJ8, HO_3, HB⟩ := hcut
              cases kq with
              | zero => exact absurd HA.out (by simp [selvagelaw04_LexPlaces.j1])
              | succ kj8 =>
                have H := HA.out
                clear HA
                simp only [selvagelaw04_LexPlaces.j1] at H
                have HC13 := Aside0.mk H
                clear H
                go_upto_region 13 with (fail)
                repeat (go_quiet (fail); go_upto_region 13 with (fail))
                go_cut [60] (fun v60 wc => ∃ (kq : Nat) (x60_12 : Bool), v60 = .bool x60_12 ∧ Aside0 (selvagelaw04_LexPlaces.j2 kq a0 t164 x6_1 x7_1 x8_8 x60_12 = some r) ∧ Aside0 (kq ≤ kj8) ∧ Aside0 (Kd.R k32 32 wc w.heap.size (fun _ => True) (.slice Ao10 t164.length co10) t164) ∧ Aside0 (Below w.heap.size w wc))
                case first =>
                  have H := HC13.out
                  clear HC13
                  by_cases c14 : x8_8 < x6_1
                  · rw [if_pos c14] at H
                    have c14b0 : decide (x8_8 < x6_1) = true := decide_eq_true c14
                    clear c14
                    (first | rw [c14b0] | (simp only [i64_w, i32_w]; rw [c14b0]) | skip)
                    have H' := Aside0.mk H
                    clear H
                    go_wp2
                    repeat (go_quiet (fail); try go_wp2)
                    go_meet
                    case rel => exact ⟨_, (true), (by first | rfl | (simp; done) | (simp [*]; done)), H', ⟨by have := HK1.out; have := HJ8.out; first | omega | exact Nat.le_refl _⟩, ⟨by (with_reducible repeat (first | apply Kd.R_alloc | apply Kd.R_drewN | apply Kd.R_drew)); exact HO_3.out⟩, ⟨by repeat (first | (with_reducible first | exact HB.out | apply below_alloc | apply pw_below_drewN | apply below_drew1) | exact HB.out)⟩⟩
                  · rw [if_neg c14] at H
                    have c14b0 : decide (x8_8 < x6_1) = false := decide_eq_false c14
                    clear c14
                    (first | rw [c14b0] | (simp only [i64_w, i32_w]; rw [c14b0]) | skip)
                    have H' := Aside0.mk H
                    clear H
                    go_wp2
                    repeat (go_quiet (fail); try go_wp2)
                    go_meet
                    case rel => exact ⟨_, (decide (x8_8 > (a0.size : Int))), (by first | rfl | (simp; done) | (simp [*]; done)), H', ⟨by have := HK1.out; have := HJ8.out; first | omega | exact Nat.le_refl _⟩, ⟨by (with_reducible repeat (first | apply Kd.R_alloc | apply Kd.R_drewN | apply Kd.R_drew)); exact HO_3.out⟩, ⟨by repeat (first | (with_reducible first | exact HB.out | apply below_alloc | apply pw_below_drewN | apply below_drew1) | exact HB.out)⟩⟩
                case rest =>
                  clear HC13
                  try clear c1
                  try clear p1
                  try clear q1
                  try clear hx1
                  try clear p2
                  try clear c3
                  try clear c4
                  try clear c5
                  try clear c5b0
                  try clear c5b1
                  try clear c8
                  try clear c8b0
                  try clear c11
                  try clear c11b0
                  try clear c12
                  try clear c12b0
                  try clear c14
                  try clear c14b0
                  try clear hx169_0
                  try clear hx169_1
                  try clear hx169_2
                  try clear hx169_3
                  try clear p1
                  try clear p169
                  try clear p2
                  try clear q1
                  try clear q169
                  obtain ⟨kq, x60_12, rfl, HA, HJ12, HO_3, HB⟩ := hcut
                  cases kq with
                  | zero => exact absurd HA.out (by simp [selvagelaw04_LexPlaces.j2])
                  | succ kj12 =>
                    have H := HA.out
                    clear HA
                    simp only [selvagelaw04_LexPlaces.j2] at H
                    by_cases c15 : x60_12 = true
                    · subst c15
                      have H1 : (some false) = some r := by rw [if_pos rfl] at H; exact H
                      clear H
                      have H := H1
                      clear H1
                      obtain rfl := Option.some.inj H
                      go_wp2
                      repeat (go_quiet (fail); try go_wp2)
                      go_ret
                      exact ⟨by first | rfl | (simp [errW_none, errW_some] <;> rfl) | (simp [*, errW_none, errW_some] <;> rfl), by repeat (first | (with_reducible first | exact HB.out | apply below_alloc | apply pw_below_drewN | apply below_drew1) | exact HB.out)⟩
                    · replace c15 := Bool.eq_false_iff.mpr c15
                      subst c15
                      have H1 : (selvagelaw04_LexPlaces.l1 kj12 a0 t164 x6_1 x7_1 x8_8 false x6_1) = some r := by rw [if_neg (show ¬ (false = true) by decide)] at H; exact H
                      clear H
                      have H := H1
                      clear H1
                      have H' := Aside0.mk H
                      clear H
                      go_wp2
                      repeat (go_quiet (fail); try go_wp2)
                      go_loopg [9, 10] kj12 (fun kq v9 v10 w' => ∃ (x9_4 : Bool) (x10_4 : Int), v9 = .bool x9_4 ∧ v10 = .int .i64 x10_4 ∧ Aside0 (selvagelaw04_LexPlaces.l1 kq a0 t164 x6_1 x7_1 x8_8 x9_4 x10_4 = some r) ∧ Aside0 (kq ≤ kj12) ∧ Aside0 (Kd.R k32 32 w' w.heap.size (fun _ => True) (.slice Ao10 t164.length co10) t164) ∧ Aside0 (Below w.heap.size w w'))
                      case atStart => exact ⟨(false), (x6_1), (by first | rfl | (simp; done) | (simp [*]; done)), (by first | rfl | (simp; done) | (simp [*]; done)), H', ⟨Nat.le_refl _⟩, ⟨by (with_reducible repeat (first | apply Kd.R_alloc | apply Kd.R_drewN | apply Kd.R_drew)); exact HO_3.out⟩, ⟨by repeat (first | (with_reducible first | exact HB.out | apply below_alloc | apply pw_below_drewN | apply below_drew1) | exact HB.out)⟩⟩
                      case round =>
                        clear H'
                        try clear c1
                        try clear p1
                        try clear q1
                        try clear hx1
                        try clear p2
                        try clear c3
                        try clear c4
                        try clear c5
                        try clear c5b0
                        try clear c5b1
                        try clear c8
                        try clear c8b0
                        try clear c11
                        try clear c11b0
                        try clear c12
                        try clear c12b0
                        try clear c14
                        try clear c14b0
                        try clear c15
                        try clear hx169_0
                        try clear hx169_1
                        try clear hx169_2
                        try clear hx169_3
                        try clear p1
                        try clear p169
                        try clear p2
                        try clear q1
                        try clear q169
                        obtain ⟨x9_4, x10_4, rfl, rfl, HA, HK4, HO_3, HB⟩ := hrel
                        cases gk with
                        | zero => exact absurd HA.out (by simp [selvagelaw04_LexPlaces.l1])
                        | succ k4 =>
                          have H := HA.out
                          clear HA
                          simp only [selvagelaw04_LexPlaces.l1] at H
                          by_cases c16 : x10_4 < x8_8
                          · rw [if_pos c16] at H
                            have c16b0 : decide (x10_4 < x8_8) = true := decide_eq_true c16
                            clear c16
                            by_cases c17 : 0 ≤ x10_4
                            · rw [if_pos c17] at H
                              have c17b0 : decide (0 ≤ x10_4) = true := decide_eq_true c17
                              clear c17
                              by_cases c18 : x10_4 < (a0.size : Int)
                              · rw [if_pos c18] at H
                                have c18b0 : decide (x10_4 < (a0.size : Int)) = true := decide_eq_true c18
                                clear c18
                                have HC20 := Aside0.mk H
                                clear H
                                have p19 : 0 ≤ (x10_4 : Int) := of_decide_eq_true (by first | (with_reducible assumption) | assumption)
                                have q19 : x10_4 < (a0.size : Int) := of_decide_eq_true (by first | (with_reducible assumption) | assumption)
                                have hx19 := bt_at a0 x10_4
                                replace p19 := eq_true p19
                                replace q19 := eq_true q19
                                go_upto_if 71 with (fail)
                                repeat (go_quiet (fail); go_upto_if 71 with (fail))
                                go_cut [9] (fun v9 wc => ∃ (kq : Nat) (x9_19 : Bool), v9 = .bool x9_19 ∧ Aside0 (selvagelaw04_LexPlaces.j4 kq a0 t164 x6_1 x7_1 x8_8 x9_19 x10_4 (bt a0 x10_4) = some r) ∧ Aside0 (kq ≤ k4) ∧ Aside0 (Kd.R k32 32 wc w.heap.size (fun _ => True) (.slice Ao10 t164.length co10) t164) ∧ Aside0 (Below w.heap.size w wc))
                                case first =>
                                  have H := HC20.out
                                  clear HC20
                                  by_cases c21 : (bt a0 x10_4) = 35
                                  · rw [if_pos c21] at H
                                    have c21b0 : ((bt a0 x10_4) == 35) = true := beq_iff_eq.mpr c21
                                    have c21b1 : ((bt a0 x10_4) != 35) = false := bne_eq_false_iff_eq.mpr c21
                                    clear c21
                                    (first | rw [c21b0] | (simp only [i64_w, i32_w]; rw [c21b0]) | skip)
                                    have H' := Aside0.mk H
                                    clear H
                                    go_wp2
                                    repeat (go_quiet (fail); try go_wp2)
                                    go_meet
                                    case rel => exact ⟨_, (true), (by first | rfl | (simp; done) | (simp [*]; done)), H', ⟨by have := HK1.out; have := HJ8.out; have := HJ12.out; have := HK4.out; first | omega | exact Nat.le_refl _⟩, ⟨by (with_reducible repeat (first | apply Kd.R_alloc | apply Kd.R_drewN | apply Kd.R_drew)); exact HO_3.out⟩, ⟨by repeat (first | (with_reducible first | exact HB.out | apply below_alloc | apply pw_below_drewN | apply below_drew1) | exact HB.out)⟩⟩
                                  · rw [if_neg c21] at H
                                    have c21b0 : ((bt a0 x10_4) == 35) = false := beq_eq_false_iff_ne.mpr c21
                                    have c21b1 : ((bt a0 x10_4) != 35) = true := bne_iff_ne.mpr c21
                                    (first | rw [c21b0] | (simp only [i64_w, i32_w]; rw [c21b0]) | skip)
                                    have H' := Aside0.mk H
                                    clear H
                                    go_wp2
                                    repeat (go_quiet (fail); try go_wp2)
                                    go_meet
                                    case rel => exact ⟨_, (x9_4), (by first | rfl | (simp; done) | (simp [*]; done)), H', ⟨by have := HK1.out; have := HJ8.out; have := HJ12.out; have := HK4.out; first | omega | exact Nat.le_refl _⟩, ⟨by (with_reducible repeat (first | apply Kd.R_alloc | apply Kd.R_drewN | apply Kd.R_drew)); exact HO_3.out⟩, ⟨by repeat (first | (with_reducible first | exact HB.out | apply below_alloc | apply pw_below_drewN | apply below_drew1) | exact HB.out)⟩⟩
                                case rest =>
                                  clear HC20
                                  try clear c1
                                  try clear p1
                                  try clear q1
                                  try clear hx1
                                  try clear c2
                                  try clear p2
                                  try clear c3
                                  try clear c4
                                  try clear c5
                                  try clear c5b0
                                  try clear c5b1
                                  try clear c8
                                  try clear c8b0
                                  try clear c11
                                  try clear c11b0
                                  try clear c12
                                  try clear c12b0
                                  try clear c14
                                  try clear c14b0
                                  try clear c15
                                  try clear c16
                                  try clear c16b0
                                  try clear p16
                                  try clear q16
                                  try clear hx16
                                  try clear c17
                                  try clear c17b0
                                  try clear c18
                                  try clear c18b0
                                  try clear p19
                                  try clear q19
                                  try clear hx19
                                  try clear c21
                                  try clear c21b0
                                  try clear c21b1
                                  try clear hx169_0
                                  try clear hx169_1
                                  try clear hx169_2
                                  try clear hx169_3
                                  try clear p1
                                  try clear p169
                                  try clear p19
                                  try clear p2
                                  try clear q1
                                  try clear q169
                                  try clear q19
                                  obtain ⟨kq, x9_19, rfl, HA, HJ19, HO_3, HB⟩ := hcut
                                  cases kq with
                                  | zero => exact absurd HA.out (by simp [selvagelaw04_LexPlaces.j4])
                                  | succ kj19 =>
                                    have H := HA.out
                                    clear HA
                                    simp only [selvagelaw04_LexPlaces.j4] at H
                                    have HC22 := Aside0.mk H
                                    clear H
                                    go_upto_region 22 with (fail)
                                    repeat (go_quiet (fail); go_upto_region 22 with (fail))
                                    go_cut [89] (fun v89 wc => ∃ (kq : Nat) (x89_21 : Bool), v89 = .bool x89_21 ∧ Aside0 (selvagelaw04_LexPlaces.j5 kq a0 t164 x6_1 x7_1 x8_8 x9_19 x10_4 (bt a0 x10_4) x89_21 = some r) ∧ Aside0 (kq ≤ kj19) ∧ Aside0 (Kd.R k32 32 wc w.heap.size (fun _ => True) (.slice Ao10 t164.length co10) t164) ∧ Aside0 (Below w.heap.size w wc))
                                    case first =>
                                      have H := HC22.out
                                      clear HC22
                                      by_cases c23 : x9_19 = true
                                      · subst c23
                                        have H1 : (selvagelaw04_LexPlaces.j5 kj19 a0 t164 x6_1 x7_1 x8_8 true x10_4 (bt a0 x10_4) false) = some r := by rw [if_pos rfl] at H; exact H
                                        clear H
                                        have H := H1
                                        clear H1
                                        have H' := Aside0.mk H
                                        clear H
                                        go_wp2
                                        repeat (go_quiet (fail); try go_wp2)
                                        go_meet
                                        case rel => exact ⟨_, (false), (by first | rfl | (simp; done) | (simp [*]; done)), H', ⟨by have := HK1.out; have := HJ8.out; have := HJ12.out; have := HK4.out; have := HJ19.out; first | omega | exact Nat.le_refl _⟩, ⟨by (with_reducible repeat (first | apply Kd.R_alloc | apply Kd.R_drewN | apply Kd.R_drew)); exact HO_3.out⟩, ⟨by repeat (first | (with_reducible first | exact HB.out | apply below_alloc | apply pw_below_drewN | apply below_drew1) | exact HB.out)⟩⟩
                                      · replace c23 := Bool.eq_false_iff.mpr c23
                                        subst c23
                                        have H1 : (if (bt a0 x10_4) = 32 then (selvagelaw04_LexPlaces.j5 kj19 a0 t164 x6_1 x7_1 x8_8 false x10_4 (bt a0 x10_4) false) else (if (bt a0 x10_4) = 9 then (selvagelaw04_LexPlaces.j5 kj19 a0 t164 x6_1 x7_1 x8_8 false x10_4 (bt a0 x10_4) false) else (if (bt a0 x10_4) = 10 then (selvagelaw04_LexPlaces.j5 kj19 a0 t164 x6_1 x7_1 x8_8 false x10_4 (bt a0 x10_4) false) else (selvagelaw04_LexPlaces.j5 kj19 a0 t164 x6_1 x7_1 x8_8 false x10_4 (bt a0 x10_4) ((bt a0 x10_4) != 13))))) = some r := by rw [if_neg (show ¬ (false = true) by decide)] at H; exact H
                                        clear H
                                        have H := H1
                                        clear H1
                                        by_cases c24 : (bt a0 x10_4) = 32
                                        · rw [if_pos c24] at H
                                          have c24b0 : ((bt a0 x10_4) == 32) = true := beq_iff_eq.mpr c24
                                          have c24b1 : ((bt a0 x10_4) != 32) = false := bne_eq_false_iff_eq.mpr c24
                                          clear c24
                                          (first | rw [c24b0] | (simp only [i64_w, i32_w]; rw [c24b0]) | skip)
                                          have H' := Aside0.mk H
                                          clear H
                                          go_wp2
                                          repeat (go_quiet (fail); try go_wp2)
                                          go_meet
                                          case rel => exact ⟨_, (false), (by first | rfl | (simp; done) | (simp [*]; done)), H', ⟨by have := HK1.out; have := HJ8.out; have := HJ12.out; have := HK4.out; have := HJ19.out; first | omega | exact Nat.le_refl _⟩, ⟨by (with_reducible repeat (first | apply Kd.R_alloc | apply Kd.R_drewN | apply Kd.R_drew)); exact HO_3.out⟩, ⟨by repeat (first | (with_reducible first | exact HB.out | apply below_alloc | apply pw_below_drewN | apply below_drew1) | exact HB.out)⟩⟩
                                        · rw [if_neg c24] at H
                                          have c24b0 : ((bt a0 x10_4) == 32) = false := beq_eq_false_iff_ne.mpr c24
                                          have c24b1 : ((bt a0 x10_4) != 32) = true := bne_iff_ne.mpr c24
                                          (first | rw [c24b0] | (simp only [i64_w, i32_w]; rw [c24b0]) | skip)
                                          by_cases c25 : (bt a0 x10_4) = 9
                                          · rw [if_pos c25] at H
                                            have c25b0 : ((bt a0 x10_4) == 9) = true := beq_iff_eq.mpr c25
                                            have c25b1 : ((bt a0 x10_4) != 9) = false := bne_eq_false_iff_eq.mpr c25
                                            clear c25
                                            have H' := Aside0.mk H
                                            clear H
                                            go_wp2
                                            repeat (go_quiet (fail); try go_wp2)
                                            go_meet
                                            case rel => exact ⟨_, (false), (by first | rfl | (simp; done) | (simp [*]; done)), H', ⟨by have := HK1.out; have := HJ8.out; have := HJ12.out; have := HK4.out; have := HJ19.out; first | omega | exact Nat.le_refl _⟩, ⟨by (with_reducible repeat (first | apply Kd.R_alloc | apply Kd.R_drewN | apply Kd.R_drew)); exact HO_3.out⟩, ⟨by repeat (first | (with_reducible first | exact HB.out | apply below_alloc | apply pw_below_drewN | apply below_drew1) | exact HB.out)⟩⟩
                                          · rw [if_neg c25] at H
                                            have c25b0 : ((bt a0 x10_4) == 9) = false := beq_eq_false_iff_ne.mpr c25
                                            have c25b1 : ((bt a0 x10_4) != 9) = true := bne_iff_ne.mpr c25
                                            by_cases c26 : (bt a0 x10_4) = 10
                                            · rw [if_pos c26] at H
                                              have c26b0 : ((bt a0 x10_4) == 10) = true := beq_iff_eq.mpr c26
                                              have c26b1 : ((bt a0 x10_4) != 10) = false := bne_eq_false_iff_eq.mpr c26
                                              clear c26
                                              have H' := Aside0.mk H
                                              clear H
                                              go_wp2
                                              repeat (go_quiet (fail); try go_wp2)
                                              go_meet
                                              case rel => exact ⟨_, (false), (by first | rfl | (simp; done) | (simp [*]; done)), H', ⟨by have := HK1.out; have := HJ8.out; have := HJ12.out; have := HK4.out; have := HJ19.out; first | omega | exact Nat.le_refl _⟩, ⟨by (with_reducible repeat (first | apply Kd.R_alloc | apply Kd.R_drewN | apply Kd.R_drew)); exact HO_3.out⟩, ⟨by repeat (first | (with_reducible first | exact HB.out | apply below_alloc | apply pw_below_drewN | apply below_drew1) | exact HB.out)⟩⟩
                                            · rw [if_neg c26] at H
                                              have c26b0 : ((bt a0 x10_4) == 10) = false := beq_eq_false_iff_ne.mpr c26
                                              have c26b1 : ((bt a0 x10_4) != 10) = true := bne_iff_ne.mpr c26
                                              have H' := Aside0.mk H
                                              clear H
                                              go_wp2
                                              repeat (go_quiet (fail); try go_wp2)
                                              go_meet
                                              case rel => exact ⟨_, (((bt a0 x10_4) != 13)), (by first | rfl | (simp; done) | (simp [*]; done)), H', ⟨by have := HK1.out; have := HJ8.out; have := HJ12.out; have := HK4.out; have := HJ19.out; first | omega | exact Nat.le_refl _⟩, ⟨by (with_reducible repeat (first | apply Kd.R_alloc | apply Kd.R_drewN | apply Kd.R_drew)); exact HO_3.out⟩, ⟨by repeat (first | (with_reducible first | exact HB.out | apply below_alloc | apply pw_below_drewN | apply below_drew1) | exact HB.out)⟩⟩
                                    case rest =>
                                      clear HC22
                                      try clear c1
                                      try clear p1
                                      try clear q1
                                      try clear hx1
                                      try clear c2
                                      try clear p2
                                      try clear c3
                                      try clear c4
                                      try clear c5
                                      try clear c5b0
                                      try clear c5b1
                                      try clear c8
                                      try clear c8b0
                                      try clear c11
                                      try clear c11b0
                                      try clear c12
                                      try clear c12b0
                                      try clear c14
                                      try clear c14b0
                                      try clear c15
                                      try clear c16
                                      try clear c16b0
                                      try clear p16
                                      try clear q16
                                      try clear hx16
                                      try clear c17
                                      try clear c17b0
                                      try clear c18
                                      try clear c18b0
                                      try clear p19
                                      try clear q19
                                      try clear hx19
                                      try clear c21
                                      try clear c21b0
                                      try clear c21b1
                                      try clear c23
                                      try clear c24
                                      try clear c24b0
                                      try clear c24b1
                                      try clear c25
                                      try clear c25b0
                                      try clear c25b1
                                      try clear c26
                                      try clear c26b0
                                      try clear c26b1
                                      try clear hx169_0
                                      try clear hx169_1
                                      try clear hx169_2
                                      try clear hx169_3
                                      try clear p1
                                      try clear p16
                                      try clear p169
                                      try clear p19
                                      try clear p2
                                      try clear q1
                                      try clear q16
                                      try clear q169
                                      try clear q19
                                      obtain ⟨kq, x89_21, rfl, HA, HJ21, HO_3, HB⟩ := hcut
                                      cases kq with
                                      | zero => exact absurd HA.out (by simp [selvagelaw04_LexPlaces.j5])
                                      | succ kj21 =>
                                        have H := HA.out
                                        clear HA
                                        simp only [selvagelaw04_LexPlaces.j5] at H
                                        by_cases c27 : x89_21 = true
                                        · subst c27
                                          have H1 : (some false) = some r := by rw [if_pos rfl] at H; exact H
                                          clear H
                                          have H := H1
                                          clear H1
                                          obtain rfl := Option.some.inj H
                                          go_wp2
                                          repeat (go_quiet (fail); try go_wp2)
                                          go_ret
                                          exact ⟨by first | rfl | (simp [errW_none, errW_some] <;> rfl) | (simp [*, errW_none, errW_some] <;> rfl), by repeat (first | (with_reducible first | exact HB.out | apply below_alloc | apply pw_below_drewN | apply below_drew1) | exact HB.out)⟩
                                        · replace c27 := Bool.eq_false_iff.mpr c27
                                          subst c27
                                          have H1 : (if (bt a0 x10_4) = 10 then (selvagelaw04_LexPlaces.l1 kj21 a0 t164 x6_1 x7_1 x8_8 false (wrap64 (x10_4 + 1))) else (selvagelaw04_LexPlaces.l1 kj21 a0 t164 x6_1 x7_1 x8_8 x9_19 (wrap64 (x10_4 + 1)))) = some r := by rw [if_neg (show ¬ (false = true) by decide)] at H; exact H
                                          clear H
                                          have H := H1
                                          clear H1
                                          by_cases c28 : (bt a0 x10_4) = 10
                                          · rw [if_pos c28] at H
                                            have c28b0 : ((bt a0 x10_4) == 10) = true := beq_iff_eq.mpr c28
                                            have c28b1 : ((bt a0 x10_4) != 10) = false := bne_eq_false_iff_eq.mpr c28
                                            clear c28
                                            have H' := Aside0.mk H
                                            clear H
                                            go_wp2
                                            repeat (go_quiet (fail); try go_wp2)
                                            go_roundg kj21
                                            case measure => have := HK1.out; have := HJ8.out; have := HJ12.out; have := HK4.out; have := HJ19.out; have := HJ21.out; omega
                                            case rel => exact ⟨(false), (wrap64 (x10_4 + 1)), (by first | rfl | (simp; done) | (simp [*]; done)), (by first | rfl | (simp; done) | (simp [*]; done)), H', ⟨by have := HK1.out; have := HJ8.out; have := HJ12.out; have := HK4.out; have := HJ19.out; have := HJ21.out; omega⟩, ⟨by (with_reducible repeat (first | apply Kd.R_alloc | apply Kd.R_drewN | apply Kd.R_drew)); exact HO_3.out⟩, ⟨by repeat (first | (with_reducible first | exact HB.out | apply below_alloc | apply pw_below_drewN | apply below_drew1) | exact HB.out)⟩⟩
                                          · rw [if_neg c28] at H
                                            have c28b0 : ((bt a0 x10_4) == 10) = false := beq_eq_false_iff_ne.mpr c28
                                            have c28b1 : ((bt a0 x10_4) != 10) = true := bne_iff_ne.mpr c28
                                            have H' := Aside0.mk H
                                            clear H
                                            go_wp2
                                            repeat (go_quiet (fail); try go_wp2)
                                            go_roundg kj21
                                            case measure => have := HK1.out; have := HJ8.out; have := HJ12.out; have := HK4.out; have := HJ19.out; have := HJ21.out; omega
                                            case rel => exact ⟨(x9_19), (wrap64 (x10_4 + 1)), (by first | rfl | (simp; done) | (simp [*]; done)), (by first | rfl | (simp; done) | (simp [*]; done)), H', ⟨by have := HK1.out; have := HJ8.out; have := HJ12.out; have := HK4.out; have := HJ19.out; have := HJ21.out; omega⟩, ⟨by (with_reducible repeat (first | apply Kd.R_alloc | apply Kd.R_drewN | apply Kd.R_drew)); exact HO_3.out⟩, ⟨by repeat (first | (with_reducible first | exact HB.out | apply below_alloc | apply pw_below_drewN | apply below_drew1) | exact HB.out)⟩⟩
                              · rw [if_neg c18] at H
                                exact absurd H (by simp)
                            · rw [if_neg c17] at H
                              exact absurd H (by simp)
                          · rw [if_neg c16] at H
                            have c16b0 : decide (x10_4 < x8_8) = false := decide_eq_false c16
                            clear c16
                            have HC29 := Aside0.mk H
                            clear H
                            go_upto_region 26 with (fail)
                            repeat (go_quiet (fail); go_upto_region 26 with (fail))
                            go_cut [98] (fun v98 wc => ∃ (kq : Nat) (x98_28 : Bool), v98 = .bool x98_28 ∧ Aside0 (selvagelaw04_LexPlaces.j6 kq a0 t164 x6_1 x7_1 x8_8 x98_28 = some r) ∧ Aside0 (kq ≤ k4) ∧ Aside0 (Kd.R k32 32 wc w.heap.size (fun _ => True) (.slice Ao10 t164.length co10) t164) ∧ Aside0 (Below w.heap.size w wc))
                            case first =>
                              have H := HC29.out
                              clear HC29
                              by_cases c30 : x9_4 = true
                              · subst c30
                                have H1 : (selvagelaw04_LexPlaces.j6 k4 a0 t164 x6_1 x7_1 x8_8 (decide (x7_1 < (t164.length : Int)))) = some r := by rw [if_pos rfl] at H; exact H
                                clear H
                                have H := H1
                                clear H1
                                have H' := Aside0.mk H
                                clear H
                                go_wp2
                                repeat (go_quiet (fail); try go_wp2)
                                go_meet
                                case rel => exact ⟨_, (decide (x7_1 < (t164.length : Int))), (by first | rfl | (simp; done) | (simp [*]; done)), H', ⟨by have := HK1.out; have := HJ8.out; have := HJ12.out; have := HK4.out; first | omega | exact Nat.le_refl _⟩, ⟨by (with_reducible repeat (first | apply Kd.R_alloc | apply Kd.R_drewN | apply Kd.R_drew)); exact HO_3.out⟩, ⟨by repeat (first | (with_reducible first | exact HB.out | apply below_alloc | apply pw_below_drewN | apply below_drew1) | exact HB.out)⟩⟩
                              · replace c30 := Bool.eq_false_iff.mpr c30
                                subst c30
                                have H1 : (selvagelaw04_LexPlaces.j6 k4 a0 t164 x6_1 x7_1 x8_8 false) = some r := by rw [if_neg (show ¬ (false = true) by decide)] at H; exact H
                                clear H
                                have H := H1
                                clear H1
                                have H' := Aside0.mk H
                                clear H
                                go_wp2
                                repeat (go_quiet (fail); try go_wp2)
                                go_meet
                                case rel => exact ⟨_, (false), (by first | rfl | (simp; done) | (simp [*]; done)), H', ⟨by have := HK1.out; have := HJ8.out; have := HJ12.out; have := HK4.out; first | omega | exact Nat.le_refl _⟩, ⟨by (with_reducible repeat (first | apply Kd.R_alloc | apply Kd.R_drewN | apply Kd.R_drew)); exact HO_3.out⟩, ⟨by repeat (first | (with_reducible first | exact HB.out | apply below_alloc | apply pw_below_drewN | apply below_drew1) | exact HB.out)⟩⟩
                            case rest =>
                              clear HC29
                              try clear c1
                              try clear p1
                              try clear q1
                              try clear hx1
                              try clear c2
                              try clear p2
                              try clear c3
                              try clear c4
                              try clear c5
                              try clear c5b0
                              try clear c5b1
                              try clear p6
                              try clear c8
                              try clear c8b0
                              try clear c11
                              try clear c11b0
                              try clear c12
                              try clear c12b0
                              try clear c14
                              try clear c14b0
                              try clear c15
                              try clear c16
                              try clear c16b0
                              try clear p16
                              try clear q16
                              try clear hx16
                              try clear c17
                              try clear c17b0
                              try clear c18
                              try clear c18b0
                              try clear p19
                              try clear q19
                              try clear hx19
                              try clear c21
                              try clear c21b0
                              try clear c21b1
                              try clear c23
                              try clear c24
                              try clear c24b0
                              try clear c24b1
                              try clear c25
                              try clear c25b0
                              try clear c25b1
                              try clear c26
                              try clear c26b0
                              try clear c26b1
                              try clear c27
                              try clear c28
                              try clear c28b0
                              try clear c28b1
                              try clear c30
                              try clear hx169_0
                              try clear hx169_1
                              try clear hx169_2
                              try clear hx169_3
                              try clear p1
                              try clear p16
                              try clear p169
                              try clear p19
                              try clear p2
                              try clear q1
                              try clear q16
                              try clear q169
                              try clear q19
                              obtain ⟨kq, x98_28, rfl, HA, HJ28, HO_3, HB⟩ := hcut
                              cases kq with
                              | zero => exact absurd HA.out (by simp [selvagelaw04_LexPlaces.j6])
                              | succ kj28 =>
                                have H := HA.out
                                clear HA
                                simp only [selvagelaw04_LexPlaces.j6] at H
                                by_cases c31 : x98_28 = true
                                · subst c31
                                  have H1 : (some false) = some r := by rw [if_pos rfl] at H; exact H
                                  clear H
                                  have H := H1
                                  clear H1
                                  obtain rfl := Option.some.inj H
                                  go_wp2
                                  repeat (go_quiet (fail); try go_wp2)
                                  go_ret
                                  exact ⟨by first | rfl | (simp [errW_none, errW_some] <;> rfl) | (simp [*, errW_none, errW_some] <;> rfl), by repeat (first | (with_reducible first | exact HB.out | apply below_alloc | apply pw_below_drewN | apply below_drew1) | exact HB.out)⟩
                                · replace c31 := Bool.eq_false_iff.mpr c31
                                  subst c31
                                  have H1 : (if x7_1 < (t164.length : Int) then (if 0 ≤ x7_1 then (if (((rd_T32 t164 x7_1).f1).size : Int) = 0 then (some false) else (if (((rd_T32 t164 x7_1).f1).size : Int) > (wrap64 ((a0.size : Int) - x8_8)) then (some false) else (if 0 ≤ x8_8 then (if x8_8 ≤ (wrap64 (x8_8 + (((rd_T32 t164 x7_1).f1).size : Int))) then (if (wrap64 (x8_8 + (((rd_T32 t164 x7_1).f1).size : Int))) ≤ (a0.size : Int) then (if (a0.extract (x8_8 : Int).toNat ((wrap64 (x8_8 + (((rd_T32 t164 x7_1).f1).size : Int))) : Int).toNat).toList = ((rd_T32 t164 x7_1).f1).toList then (selvagelaw04_LexPlaces.l0 kj28 a0 t164 (wrap64 (x8_8 + (((rd_T32 t164 x7_1).f1).size : Int))) (wrap64 (x7_1 + 1))) else (some false)) else (none)) else (none)) else (none)))) else (none)) else (selvagelaw04_LexPlaces.l0 kj28 a0 t164 x6_1 (wrap64 (x7_1 + 1)))) = some r := by rw [if_neg (show ¬ (false = true) by decide)] at H; exact H
                                  clear H
                                  have H := H1
                                  clear H1
                                  by_cases c32 : x7_1 < (t164.length : Int)
                                  · rw [if_pos c32] at H
                                    have c32b0 : decide (x7_1 < (t164.length : Int)) = true := decide_eq_true c32
                                    clear c32
                                    by_cases c33 : 0 ≤ x7_1
                                    · rw [if_pos c33] at H
                                      have c33b0 : decide (0 ≤ x7_1) = true := decide_eq_true c33
                                      clear c33
                                      by_cases c34 : (((rd_T32 t164 x7_1).f1).size : Int) = 0
                                      · rw [if_pos c34] at H
                                        have c34b0 : ((((rd_T32 t164 x7_1).f1).size : Int) == 0) = true := beq_iff_eq.mpr c34
                                        have c34b1 : ((((rd_T32 t164 x7_1).f1).size : Int) != 0) = false := bne_eq_false_iff_eq.mpr c34
                                        clear c34
                                        obtain rfl := Option.some.inj H
                                        have p170 : 0 ≤ (x7_1 : Int) := of_decide_eq_true (by first | (with_reducible assumption) | assumption)
                                        have q170 : x7_1 < (t164.length : Int) := of_decide_eq_true (by first | (with_reducible assumption) | assumption)
                                        obtain ⟨ad170, e170, hx170_0, hx170_1, hx170_2, hx170_3⟩ := at_T32 (Kd.R_reads' HO_3.out).2.2 x7_1 p170 q170
                                        cases e170
                                        replace p170 := eq_true p170
                                        replace q170 := eq_true q170
                                        go_wp2
                                        repeat (go_quiet (fail); try go_wp2)
                                        go_ret
                                        exact ⟨by first | rfl | (simp [errW_none, errW_some] <;> rfl) | (simp [*, errW_none, errW_some] <;> rfl), by repeat (first | (with_reducible first | exact HB.out | apply below_alloc | apply pw_below_drewN | apply below_drew1) | exact HB.out)⟩
                                      · rw [if_neg c34] at H
                                        have c34b0 : ((((rd_T32 t164 x7_1).f1).size : Int) == 0) = false := beq_eq_false_iff_ne.mpr c34
                                        have c34b1 : ((((rd_T32 t164 x7_1).f1).size : Int) != 0) = true := bne_iff_ne.mpr c34
                                        by_cases c35 : (((rd_T32 t164 x7_1).f1).size : Int) > (wrap64 ((a0.size : Int) - x8_8))
                                        · rw [if_pos c35] at H
                                          have c35b0 : decide ((wrap64 ((a0.size : Int) - x8_8)) < (((rd_T32 t164 x7_1).f1).size : Int)) = true := decide_eq_true c35
                                          clear c35
                                          obtain rfl := Option.some.inj H
                                          have p170 : 0 ≤ (x7_1 : Int) := of_decide_eq_true (by first | (with_reducible assumption) | assumption)
                                          have q170 : x7_1 < (t164.length : Int) := of_decide_eq_true (by first | (with_reducible assumption) | assumption)
                                          obtain ⟨ad170, e170, hx170_0, hx170_1, hx170_2, hx170_3⟩ := at_T32 (Kd.R_reads' HO_3.out).2.2 x7_1 p170 q170
                                          cases e170
                                          replace p170 := eq_true p170
                                          replace q170 := eq_true q170
                                          have p171 : 0 ≤ (x7_1 : Int) := of_decide_eq_true (by first | (with_reducible assumption) | assumption)
                                          have q171 : x7_1 < (t164.length : Int) := of_decide_eq_true (by first | (with_reducible assumption) | assumption)
                                          obtain ⟨ad171, e171, hx171_0, hx171_1, hx171_2, hx171_3⟩ := at_T32 (Kd.R_reads' HO_3.out).2.2 x7_1 p171 q171
                                          obtain rfl : ad170 = ad171 := (by injection e171)
                                          replace p171 := eq_true p171
                                          replace q171 := eq_true q171
                                          go_wp2
                                          repeat (go_quiet (fail); try go_wp2)
                                          go_ret
                                          exact ⟨by first | rfl | (simp [errW_none, errW_some] <;> rfl) | (simp [*, errW_none, errW_some] <;> rfl), by repeat (first | (with_reducible first | exact HB.out | apply below_alloc | apply pw_below_drewN | apply below_drew1) | exact HB.out)⟩
                                        · rw [if_neg c35] at H
                                          have c35b0 : decide ((wrap64 ((a0.size : Int) - x8_8)) < (((rd_T32 t164 x7_1).f1).size : Int)) = false := decide_eq_false c35
                                          clear c35
                                          by_cases c36 : 0 ≤ x8_8
                                          · rw [if_pos c36] at H
                                            have c36b0 := eq_true c36
                                            have c36b1 : decide (0 ≤ x8_8) = true := decide_eq_true c36
                                            clear c36
                                            by_cases c37 : x8_8 ≤ (wrap64 (x8_8 + (((rd_T32 t164 x7_1).f1).size : Int)))
                                            · rw [if_pos c37] at H
                                              have c37b0 := eq_true c37
                                              have c37b1 : decide (x8_8 ≤ (wrap64 (x8_8 + (((rd_T32 t164 x7_1).f1).size : Int)))) = true := decide_eq_true c37
                                              by_cases c38 : (wrap64 (x8_8 + (((rd_T32 t164 x7_1).f1).size : Int))) ≤ (a0.size : Int)
                                              · rw [if_pos c38] at H
                                                have c38b0 := eq_true c38
                                                have c38b1 : decide ((wrap64 (x8_8 + (((rd_T32 t164 x7_1).f1).size : Int))) ≤ (a0.size : Int)) = true := decide_eq_true c38
                                                by_cases c39 : (a0.extract (x8_8 : Int).toNat ((wrap64 (x8_8 + (((rd_T32 t164 x7_1).f1).size : Int))) : Int).toNat).toList = ((rd_T32 t164 x7_1).f1).toList
                                                · rw [if_pos c39] at H
                                                  have c39b0 : ((a0.extract (x8_8 : Int).toNat ((wrap64 (x8_8 + (((rd_T32 t164 x7_1).f1).size : Int))) : Int).toNat).toList == ((rd_T32 t164 x7_1).f1).toList) = true := beq_iff_eq.mpr c39
                                                  have c39b1 : ((a0.extract (x8_8 : Int).toNat ((wrap64 (x8_8 + (((rd_T32 t164 x7_1).f1).size : Int))) : Int).toNat).toList != ((rd_T32 t164 x7_1).f1).toList) = false := bne_eq_false_iff_eq.mpr c39
                                                  clear c39
                                                  have H' := Aside0.mk H
                                                  clear H
                                                  have p170 : 0 ≤ (x7_1 : Int) := of_decide_eq_true (by first | (with_reducible assumption) | assumption)
                                                  have q170 : x7_1 < (t164.length : Int) := of_decide_eq_true (by first | (with_reducible assumption) | assumption)
                                                  obtain ⟨ad170, e170, hx170_0, hx170_1, hx170_2, hx170_3⟩ := at_T32 (Kd.R_reads' HO_3.out).2.2 x7_1 p170 q170
                                                  cases e170
                                                  replace p170 := eq_true p170
                                                  replace q170 := eq_true q170
                                                  have p171 : 0 ≤ (x7_1 : Int) := of_decide_eq_true (by first | (with_reducible assumption) | assumption)
                                                  have q171 : x7_1 < (t164.length : Int) := of_decide_eq_true (by first | (with_reducible assumption) | assumption)
                                                  obtain ⟨ad171, e171, hx171_0, hx171_1, hx171_2, hx171_3⟩ := at_T32 (Kd.R_reads' HO_3.out).2.2 x7_1 p171 q171
                                                  obtain rfl : ad170 = ad171 := (by injection e171)
                                                  replace p171 := eq_true p171
                                                  replace q171 := eq_true q171
                                                  have p172 : 0 ≤ (x7_1 : Int) := of_decide_eq_true (by first | (with_reducible assumption) | assumption)
                                                  have q172 : x7_1 < (t164.length : Int) := of_decide_eq_true (by first | (with_reducible assumption) | assumption)
                                                  obtain ⟨ad172, e172, hx172_0, hx172_1, hx172_2, hx172_3⟩ := at_T32 (Kd.R_reads' HO_3.out).2.2 x7_1 p172 q172
                                                  obtain rfl : ad170 = ad172 := (by injection e172)
                                                  replace p172 := eq_true p172
                                                  replace q172 := eq_true q172
                                                  have p173 : 0 ≤ (x7_1 : Int) := of_decide_eq_true (by first | (with_reducible assumption) | assumption)
                                                  have q173 : x7_1 < (t164.length : Int) := of_decide_eq_true (by first | (with_reducible assumption) | assumption)
                                                  obtain ⟨ad173, e173, hx173_0, hx173_1, hx173_2, hx173_3⟩ := at_T32 (Kd.R_reads' HO_3.out).2.2 x7_1 p173 q173
                                                  obtain rfl : ad170 = ad173 := (by injection e173)
                                                  replace p173 := eq_true p173
                                                  replace q173 := eq_true q173
                                                  have p174 : 0 ≤ (x7_1 : Int) := of_decide_eq_true (by first | (with_reducible assumption) | assumption)
                                                  have q174 : x7_1 < (t164.length : Int) := of_decide_eq_true (by first | (with_reducible assumption) | assumption)
                                                  obtain ⟨ad174, e174, hx174_0, hx174_1, hx174_2, hx174_3⟩ := at_T32 (Kd.R_reads' HO_3.out).2.2 x7_1 p174 q174
                                                  obtain rfl : ad170 = ad174 := (by injection e174)
                                                  replace p174 := eq_true p174
                                                  replace q174 := eq_true q174
                                                  go_wp2
                                                  repeat (go_quiet (fail); try go_wp2)
                                                  go_roundg kj28
                                                  case measure => have := HK1.out; have := HJ8.out; have := HJ12.out; have := HK4.out; have := HJ28.out; omega
                                                  case rel => exact ⟨(wrap64 (x8_8 + (((rd_T32 t164 x7_1).f1).size : Int))), (wrap64 (x7_1 + 1)), (by first | rfl | (simp; done) | (simp [*]; done)), (by first | rfl | (simp; done) | (simp [*]; done)), H', ⟨by have := HK1.out; have := HJ8.out; have := HJ12.out; have := HK4.out; have := HJ28.out; omega⟩, ⟨by (with_reducible repeat (first | apply Kd.R_alloc | apply Kd.R_drewN | apply Kd.R_drew)); exact HO_3.out⟩, ⟨by repeat (first | (with_reducible first | exact HB.out | apply below_alloc | apply pw_below_drewN | apply below_drew1) | exact HB.out)⟩⟩
                                                · rw [if_neg c39] at H
                                                  have c39b0 : ((a0.extract (x8_8 : Int).toNat ((wrap64 (x8_8 + (((rd_T32 t164 x7_1).f1).size : Int))) : Int).toNat).toList == ((rd_T32 t164 x7_1).f1).toList) = false := beq_eq_false_iff_ne.mpr c39
                                                  have c39b1 : ((a0.extract (x8_8 : Int).toNat ((wrap64 (x8_8 + (((rd_T32 t164 x7_1).f1).size : Int))) : Int).toNat).toList != ((rd_T32 t164 x7_1).f1).toList) = true := bne_iff_ne.mpr c39
                                                  obtain rfl := Option.some.inj H
                                                  have p170 : 0 ≤ (x7_1 : Int) := of_decide_eq_true (by first | (with_reducible assumption) | assumption)
                                                  have q170 : x7_1 < (t164.length : Int) := of_decide_eq_true (by first | (with_reducible assumption) | assumption)
                                                  obtain ⟨ad170, e170, hx170_0, hx170_1, hx170_2, hx170_3⟩ := at_T32 (Kd.R_reads' HO_3.out).2.2 x7_1 p170 q170
                                                  cases e170
                                                  replace p170 := eq_true p170
                                                  replace q170 := eq_true q170
                                                  have p171 : 0 ≤ (x7_1 : Int) := of_decide_eq_true (by first | (with_reducible assumption) | assumption)
                                                  have q171 : x7_1 < (t164.length : Int) := of_decide_eq_true (by first | (with_reducible assumption) | assumption)
                                                  obtain ⟨ad171, e171, hx171_0, hx171_1, hx171_2, hx171_3⟩ := at_T32 (Kd.R_reads' HO_3.out).2.2 x7_1 p171 q171
                                                  obtain rfl : ad170 = ad171 := (by injection e171)
                                                  replace p171 := eq_true p171
                                                  replace q171 := eq_true q171
                                                  have p172 : 0 ≤ (x7_1 : Int) := of_decide_eq_true (by first | (with_reducible assumption) | assumption)
                                                  have q172 : x7_1 < (t164.length : Int) := of_decide_eq_true (by first | (with_reducible assumption) | assumption)
                                                  obtain ⟨ad172, e172, hx172_0, hx172_1, hx172_2, hx172_3⟩ := at_T32 (Kd.R_reads' HO_3.out).2.2 x7_1 p172 q172
                                                  obtain rfl : ad170 = ad172 := (by injection e172)
                                                  replace p172 := eq_true p172
                                                  replace q172 := eq_true q172
                                                  have p173 : 0 ≤ (x7_1 : Int) := of_decide_eq_true (by first | (with_reducible assumption) | assumption)
                                                  have q173 : x7_1 < (t164.length : Int) := of_decide_eq_true (by first | (with_reducible assumption) | assumption)
                                                  obtain ⟨ad173, e173, hx173_0, hx173_1, hx173_2, hx173_3⟩ := at_T32 (Kd.R_reads' HO_3.out).2.2 x7_1 p173 q173
                                                  obtain rfl : ad170 = ad173 := (by injection e173)
                                                  replace p173 := eq_true p173
                                                  replace q173 := eq_true q173
                                                  go_wp2
                                                  repeat (go_quiet (fail); try go_wp2)
                                                  go_ret
                                                  exact ⟨by first | rfl | (simp [errW_none, errW_some] <;> rfl) | (simp [*, errW_none, errW_some] <;> rfl), by repeat (first | (with_reducible first | exact HB.out | apply below_alloc | apply pw_below_drewN | apply below_drew1) | exact HB.out)⟩
                                              · rw [if_neg c38] at H
                                                exact absurd H (by simp)
                                            · rw [if_neg c37] at H
                                              exact absurd H (by simp)
                                          · rw [if_neg c36] at H
                                            exact absurd H (by simp)
                                    · rw [if_neg c33] at H
                                      exact absurd H (by simp)
                                  · rw [if_neg c32] at H
                                    have c32b0 : decide (x7_1 < (t164.length : Int)) = false := decide_eq_false c32
                                    clear c32
                                    have H' := Aside0.mk H
                                    clear H
                                    go_wp2
                                    repeat (go_quiet (fail); try go_wp2)
                                    go_roundg kj28
                                    case measure => have := HK1.out; have := HJ8.out; have := HJ12.out; have := HK4.out; have := HJ28.out; omega
                                    case rel => exact ⟨(x6_1), (wrap64 (x7_1 + 1)), (by first | rfl | (simp; done) | (simp [*]; done)), (by first | rfl | (simp; done) | (simp [*]; done)), H', ⟨by have := HK1.out; have := HJ8.out; have := HJ12.out; have := HK4.out; have := HJ28.out; omega⟩, ⟨by (with_reducible repeat (first | apply Kd.R_alloc | apply Kd.R_drewN | apply Kd.R_drew)); exact HO_3.out⟩, ⟨by repeat (first | (with_reducible first | exact HB.out | apply below_alloc | apply pw_below_drewN | apply below_drew1) | exact HB.out)⟩⟩
          · rw [if_neg c8] at H
            have c8b0 : decide (x7_1 ≤ (t164.length : Int)) = false := decide_eq_false c8
            clear c8
            obtain rfl := Option.some.inj H
            obtain ⟨Ao40, co40, eo40⟩ := Kd.R_slice HO_3.out
            subst eo40
            go_wp2
            repeat (go_quiet (fail); try go_wp2)
            go_ret
            exact ⟨by first | rfl | (simp [errW_none, errW_some] <;> rfl) | (simp [*, errW_none, errW_some] <;> rfl), by repeat (first | (with_reducible first | exact HB.out | apply below_alloc | apply pw_below_drewN | apply below_drew1) | exact HB.out)⟩
    · rw [if_neg c5] at H
      have c5b0 : (t165 == 0) = false := beq_eq_false_iff_ne.mpr c5
      have c5b1 : (t165 != 0) = true := bne_iff_ne.mpr c5
      by_cases c41 : (t164.length : Int) = 0
      · rw [if_pos c41] at H
        have c41b0 : ((t164.length : Int) == 0) = true := beq_iff_eq.mpr c41
        have c41b1 : ((t164.length : Int) != 0) = false := bne_eq_false_iff_eq.mpr c41
        clear c41
        by_cases c42 : t166 ≥ 0
        · rw [if_pos c42] at H
          have c42b0 : decide (0 ≤ t166) = true := decide_eq_true c42
          clear c42
          obtain rfl := Option.some.inj H
          go_enter Try.func4, Try.ntmps4
          go_wp2_with (first | (go_at_call 8; (with_reducible refine (selvagelaw04_awake.calls k  true _ A2.out).mono ?_); rintro e w43 ⟨rfl, hb⟩; have n0_ := Aside0.mk (below_step (by repeat (first | (with_reducible first | exact HB.out | apply below_alloc | apply pw_below_drewN | apply below_drew1) | exact HB.out)) hb); clear HB; have HB := n0_; clear n0_; (try clear hb); (try clear hb2); (try clear hk); (try clear hi)) | (go_at_call 9; (with_reducible refine (lex_Tokens.calls a0 t164 t165 t166 _ A4.out).mono ?_); rintro e w44 ⟨v167, rfl, ho0, hb⟩; have n0_ := Aside0.mk (Kd.R_lower ho0 (below_size (by repeat (first | (with_reducible first | exact HB.out | apply below_alloc | apply pw_below_drewN | apply below_drew1) | exact HB.out)))); have n1_ := Aside0.mk (below_step (by repeat (first | (with_reducible first | exact HB.out | apply below_alloc | apply pw_below_drewN | apply below_drew1) | exact HB.out)) hb); clear HB; have HO168 := n0_; have HB := n1_; clear n0_ n1_; (try clear hb); (try clear hb2); (try clear hk); (try clear hi); (try clear ho0); obtain ⟨Ao45, co45, eo45⟩ := Kd.R_slice HO168.out; subst eo45))
          repeat (go_quiet (first | (go_at_call 8; (with_reducible refine (selvagelaw04_awake.calls k  true _ A2.out).mono ?_); rintro e w43 ⟨rfl, hb⟩; have n0_ := Aside0.mk (below_step (by repeat (first | (with_reducible first | exact HB.out | apply below_alloc | apply pw_below_drewN | apply below_drew1) | exact HB.out)) hb); clear HB; have HB := n0_; clear n0_; (try clear hb); (try clear hb2); (try clear hk); (try clear hi)) | (go_at_call 9; (with_reducible refine (lex_Tokens.calls a0 t164 t165 t166 _ A4.out).mono ?_); rintro e w44 ⟨v167, rfl, ho0, hb⟩; have n0_ := Aside0.mk (Kd.R_lower ho0 (below_size (by repeat (first | (with_reducible first | exact HB.out | apply below_alloc | apply pw_below_drewN | apply below_drew1) | exact HB.out)))); have n1_ := Aside0.mk (below_step (by repeat (first | (with_reducible first | exact HB.out | apply below_alloc | apply pw_below_drewN | apply below_drew1) | exact HB.out)) hb); clear HB; have HO168 := n0_; have HB := n1_; clear n0_ n1_; (try clear hb); (try clear hb2); (try clear hk); (try clear hi); (try clear ho0); obtain ⟨Ao45, co45, eo45⟩ := Kd.R_slice HO168.out; subst eo45)); try go_wp2_with (first | (go_at_call 8; (with_reducible refine (selvagelaw04_awake.calls k  true _ A2.out).mono ?_); rintro e w43 ⟨rfl, hb⟩; have n0_ := Aside0.mk (below_step (by repeat (first | (with_reducible first | exact HB.out | apply below_alloc | apply pw_below_drewN | apply below_drew1) | exact HB.out)) hb); clear HB; have HB := n0_; clear n0_; (try clear hb); (try clear hb2); (try clear hk); (try clear hi)) | (go_at_call 9; (with_reducible refine (lex_Tokens.calls a0 t164 t165 t166 _ A4.out).mono ?_); rintro e w44 ⟨v167, rfl, ho0, hb⟩; have n0_ := Aside0.mk (Kd.R_lower ho0 (below_size (by repeat (first | (with_reducible first | exact HB.out | apply below_alloc | apply pw_below_drewN | apply below_drew1) | exact HB.out)))); have n1_ := Aside0.mk (below_step (by repeat (first | (with_reducible first | exact HB.out | apply below_alloc | apply pw_below_drewN | apply below_drew1) | exact HB.out)) hb); clear HB; have HO168 := n0_; have HB := n1_; clear n0_ n1_; (try clear hb); (try clear hb2); (try clear hk); (try clear hi); (try clear ho0); obtain ⟨Ao45, co45, eo45⟩ := Kd.R_slice HO168.out; subst eo45)))
          go_ret
          exact ⟨by first | rfl | (simp [errW_none, errW_some] <;> rfl) | (simp [*, errW_none, errW_some] <;> rfl), by repeat (first | (with_reducible first | exact HB.out | apply below_alloc | apply pw_below_drewN | apply below_drew1) | exact HB.out)⟩
        · rw [if_neg c42] at H
          have c42b0 : decide (0 ≤ t166) = false := decide_eq_false c42
          clear c42
          obtain rfl := Option.some.inj H
          go_enter Try.func4, Try.ntmps4
          go_wp2_with (first | (go_at_call 8; (with_reducible refine (selvagelaw04_awake.calls k  true _ A2.out).mono ?_); rintro e w46 ⟨rfl, hb⟩; have n0_ := Aside0.mk (below_step (by repeat (first | (with_reducible first | exact HB.out | apply below_alloc | apply pw_below_drewN | apply below_drew1) | exact HB.out)) hb); clear HB; have HB := n0_; clear n0_; (try clear hb); (try clear hb2); (try clear hk); (try clear hi)) | (go_at_call 9; (with_reducible refine (lex_Tokens.calls a0 t164 t165 t166 _ A4.out).mono ?_); rintro e w47 ⟨v167, rfl, ho0, hb⟩; have n0_ := Aside0.mk (Kd.R_lower ho0 (below_size (by repeat (first | (with_reducible first | exact HB.out | apply below_alloc | apply pw_below_drewN | apply below_drew1) | exact HB.out)))); have n1_ := Aside0.mk (below_step (by repeat (first | (with_reducible first | exact HB.out | apply below_alloc | apply pw_below_drewN | apply below_drew1) | exact HB.out)) hb); clear HB; have HO168 := n0_; have HB := n1_; clear n0_ n1_; (try clear hb); (try clear hb2); (try clear hk); (try clear hi); (try clear ho0); obtain ⟨Ao48, co48, eo48⟩ := Kd.R_slice HO168.out; subst eo48))
          repeat (go_quiet (first | (go_at_call 8; (with_reducible refine (selvagelaw04_awake.calls k  true _ A2.out).mono ?_); rintro e w46 ⟨rfl, hb⟩; have n0_ := Aside0.mk (below_step (by repeat (first | (with_reducible first | exact HB.out | apply below_alloc | apply pw_below_drewN | apply below_drew1) | exact HB.out)) hb); clear HB; have HB := n0_; clear n0_; (try clear hb); (try clear hb2); (try clear hk); (try clear hi)) | (go_at_call 9; (with_reducible refine (lex_Tokens.calls a0 t164 t165 t166 _ A4.out).mono ?_); rintro e w47 ⟨v167, rfl, ho0, hb⟩; have n0_ := Aside0.mk (Kd.R_lower ho0 (below_size (by repeat (first | (with_reducible first | exact HB.out | apply below_alloc | apply pw_below_drewN | apply below_drew1) | exact HB.out)))); have n1_ := Aside0.mk (below_step (by repeat (first | (with_reducible first | exact HB.out | apply below_alloc | apply pw_below_drewN | apply below_drew1) | exact HB.out)) hb); clear HB; have HO168 := n0_; have HB := n1_; clear n0_ n1_; (try clear hb); (try clear hb2); (try clear hk); (try clear hi); (try clear ho0); obtain ⟨Ao48, co48, eo48⟩ := Kd.R_slice HO168.out; subst eo48)); try go_wp2_with (first | (go_at_call 8; (with_reducible refine (selvagelaw04_awake.calls k  true _ A2.out).mono ?_); rintro e w46 ⟨rfl, hb⟩; have n0_ := Aside0.mk (below_step (by repeat (first | (with_reducible first | exact HB.out | apply below_alloc | apply pw_below_drewN | apply below_drew1) | exact HB.out)) hb); clear HB; have HB := n0_; clear n0_; (try clear hb); (try clear hb2); (try clear hk); (try clear hi)) | (go_at_call 9; (with_reducible refine (lex_Tokens.calls a0 t164 t165 t166 _ A4.out).mono ?_); rintro e w47 ⟨v167, rfl, ho0, hb⟩; have n0_ := Aside0.mk (Kd.R_lower ho0 (below_size (by repeat (first | (with_reducible first | exact HB.out | apply below_alloc | apply pw_below_drewN | apply below_drew1) | exact HB.out)))); have n1_ := Aside0.mk (below_step (by repeat (first | (with_reducible first | exact HB.out | apply below_alloc | apply pw_below_drewN | apply below_drew1) | exact HB.out)) hb); clear HB; have HO168 := n0_; have HB := n1_; clear n0_ n1_; (try clear hb); (try clear hb2); (try clear hk); (try clear hi); (try clear ho0); obtain ⟨Ao48, co48, eo48⟩ := Kd.R_slice HO168.out; subst eo48)))
          go_ret
          exact ⟨by first | rfl | (simp [errW_none, errW_some] <;> rfl) | (simp [*, errW_none, errW_some] <;> rfl), by repeat (first | (with_reducible first | exact HB.out | apply below_alloc | apply pw_below_drewN | apply below_drew1) | exact HB.out)⟩
      · rw [if_neg c41] at H
        have c41b0 : ((t164.length : Int) == 0) = false := beq_eq_false_iff_ne.mpr c41
        have c41b1 : ((t164.length : Int) != 0) = true := bne_iff_ne.mpr c41
        have c41b2 : ¬ (t164 = []) := fun h_ => c41 (by rw [h_]; rfl)
        obtain rfl := Option.some.inj H
        go_enter Try.func4, Try.ntmps4
        go_wp2_with (first | (go_at_call 8; (with_reducible refine (selvagelaw04_awake.calls k  true _ A2.out).mono ?_); rintro e w49 ⟨rfl, hb⟩; have n0_ := Aside0.mk (below_step (by repeat (first | (with_reducible first | exact HB.out | apply below_alloc | apply pw_below_drewN | apply below_drew1) | exact HB.out)) hb); clear HB; have HB := n0_; clear n0_; (try clear hb); (try clear hb2); (try clear hk); (try clear hi)) | (go_at_call 9; (with_reducible refine (lex_Tokens.calls a0 t164 t165 t166 _ A4.out).mono ?_); rintro e w50 ⟨v167, rfl, ho0, hb⟩; have n0_ := Aside0.mk (Kd.R_lower ho0 (below_size (by repeat (first | (with_reducible first | exact HB.out | apply below_alloc | apply pw_below_drewN | apply below_drew1) | exact HB.out)))); have n1_ := Aside0.mk (below_step (by repeat (first | (with_reducible first | exact HB.out | apply below_alloc | apply pw_below_drewN | apply below_drew1) | exact HB.out)) hb); clear HB; have HO168 := n0_; have HB := n1_; clear n0_ n1_; (try clear hb); (try clear hb2); (try clear hk); (try clear hi); (try clear ho0); obtain ⟨Ao51, co51, eo51⟩ := Kd.R_slice HO168.out; subst eo51))
        repeat (go_quiet (first | (go_at_call 8; (with_reducible refine (selvagelaw04_awake.calls k  true _ A2.out).mono ?_); rintro e w49 ⟨rfl, hb⟩; have n0_ := Aside0.mk (below_step (by repeat (first | (with_reducible first | exact HB.out | apply below_alloc | apply pw_below_drewN | apply below_drew1) | exact HB.out)) hb); clear HB; have HB := n0_; clear n0_; (try clear hb); (try clear hb2); (try clear hk); (try clear hi)) | (go_at_call 9; (with_reducible refine (lex_Tokens.calls a0 t164 t165 t166 _ A4.out).mono ?_); rintro e w50 ⟨v167, rfl, ho0, hb⟩; have n0_ := Aside0.mk (Kd.R_lower ho0 (below_size (by repeat (first | (with_reducible first | exact HB.out | apply below_alloc | apply pw_below_drewN | apply below_drew1) | exact HB.out)))); have n1_ := Aside0.mk (below_step (by repeat (first | (with_reducible first | exact HB.out | apply below_alloc | apply pw_below_drewN | apply below_drew1) | exact HB.out)) hb); clear HB; have HO168 := n0_; have HB := n1_; clear n0_ n1_; (try clear hb); (try clear hb2); (try clear hk); (try clear hi); (try clear ho0); obtain ⟨Ao51, co51, eo51⟩ := Kd.R_slice HO168.out; subst eo51)); try go_wp2_with (first | (go_at_call 8; (with_reducible refine (selvagelaw04_awake.calls k  true _ A2.out).mono ?_); rintro e w49 ⟨rfl, hb⟩; have n0_ := Aside0.mk (below_step (by repeat (first | (with_reducible first | exact HB.out | apply below_alloc | apply pw_below_drewN | apply below_drew1) | exact HB.out)) hb); clear HB; have HB := n0_; clear n0_; (try clear hb); (try clear hb2); (try clear hk); (try clear hi)) | (go_at_call 9; (with_reducible refine (lex_Tokens.calls a0 t164 t165 t166 _ A4.out).mono ?_); rintro e w50 ⟨v167, rfl, ho0, hb⟩; have n0_ := Aside0.mk (Kd.R_lower ho0 (below_size (by repeat (first | (with_reducible first | exact HB.out | apply below_alloc | apply pw_below_drewN | apply below_drew1) | exact HB.out)))); have n1_ := Aside0.mk (below_step (by repeat (first | (with_reducible first | exact HB.out | apply below_alloc | apply pw_below_drewN | apply below_drew1) | exact HB.out)) hb); clear HB; have HO168 := n0_; have HB := n1_; clear n0_ n1_; (try clear hb); (try clear hb2); (try clear hk); (try clear hi); (try clear ho0); obtain ⟨Ao51, co51, eo51⟩ := Kd.R_slice HO168.out; subst eo51)))
        go_ret
        exact ⟨by first | rfl | (simp [errW_none, errW_some] <;> rfl) | (simp [*, errW_none, errW_some] <;> rfl), by repeat (first | (with_reducible first | exact HB.out | apply below_alloc | apply pw_below_drewN | apply below_drew1) | exact HB.out)⟩
  · replace c3 := Bool.eq_false_iff.mpr c3
    subst c3
    have H1 : (some false) = some r := by rw [if_neg (show ¬ (false = true) by decide)] at H; exact H
    clear H
    have H := H1
    clear H1
    obtain rfl := Option.some.inj H
    go_enter Try.func4, Try.ntmps4
    go_wp2_with (first | (go_at_call 8; (with_reducible refine (selvagelaw04_awake.calls k  false _ A2.out).mono ?_); rintro e w52 ⟨rfl, hb⟩; have n0_ := Aside0.mk (below_step (by repeat (first | (with_reducible first | exact HB.out | apply below_alloc | apply pw_below_drewN | apply below_drew1) | exact HB.out)) hb); clear HB; have HB := n0_; clear n0_; (try clear hb); (try clear hb2); (try clear hk); (try clear hi)))
    repeat (go_quiet (first | (go_at_call 8; (with_reducible refine (selvagelaw04_awake.calls k  false _ A2.out).mono ?_); rintro e w52 ⟨rfl, hb⟩; have n0_ := Aside0.mk (below_step (by repeat (first | (with_reducible first | exact HB.out | apply below_alloc | apply pw_below_drewN | apply below_drew1) | exact HB.out)) hb); clear HB; have HB := n0_; clear n0_; (try clear hb); (try clear hb2); (try clear hk); (try clear hi))); try go_wp2_with (first | (go_at_call 8; (with_reducible refine (selvagelaw04_awake.calls k  false _ A2.out).mono ?_); rintro e w52 ⟨rfl, hb⟩; have n0_ := Aside0.mk (below_step (by repeat (first | (with_reducible first | exact HB.out | apply below_alloc | apply pw_below_drewN | apply below_drew1) | exact HB.out)) hb); clear HB; have HB := n0_; clear n0_; (try clear hb); (try clear hb2); (try clear hk); (try clear hi))))
    go_ret
    exact ⟨by first | rfl | (simp [errW_none, errW_some] <;> rfl) | (simp [*, errW_none, errW_some] <;> rfl), by repeat (first | (with_reducible first | exact HB.out | apply below_alloc | apply pw_below_drewN | apply below_drew1) | exact HB.out)⟩

/-- THE ONE PURE STATEMENT of selvagelaw04_LexPlaces: yours. -/
def selvagelaw04_LexPlaces.Pure : Prop := ∀ (a0 : ByteArray), a0.size ≤ 140737488351232 → ∃ k, selvagelaw04_LexPlaces.f k a0 = some true
theorem selvagelaw04_LexPlaces.walk (P : selvagelaw04_LexPlaces.Pure) (a0 : ByteArray) (w : World) (w0 : a0.size ≤ 140737488351232) :
    Calls Try.prog 4 #[.string a0] w fun e w' => e = .returned (.bool true) ∧ Below w.heap.size w w' := by
  obtain ⟨k, h⟩ := P a0 w0
  refine (selvagelaw04_LexPlaces.calls k a0 true w h).mono ?_
  rintro e w' ⟨rfl, hd⟩
  exact ⟨rfl, hd⟩

end Go.Proofs.Ytepofemoodaknaa.Q
