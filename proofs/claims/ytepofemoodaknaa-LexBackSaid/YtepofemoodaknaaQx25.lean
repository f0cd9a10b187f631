-- Printed by qprint.py (a program of this session, round the print): not a text of print.sh. Lean checks it.
import Derived.Test.YtepofemoodaknaaQx0
import Derived.Test.YtepofemoodaknaaQx12
import Derived.Test.YtepofemoodaknaaQx14
namespace Go.Proofs.Ytepofemoodaknaa.Q
open Go.RowKit Go.Proofs.YtepofemoodaknaaW.PrintWords Go.Proofs.YtepofemoodaknaaW.PrintLast Go.Proofs.YtepofemoodaknaaW.PrintMore
attribute [local go_sem] max2_int min2_int max_two min_two max_three min_three max_four min_four   -- for this text's walks alone
set_option linter.unusedVariables false
set_option linter.unusedSimpArgs false

/-! ### selvagelaw04_LexBack: function 5 -/
mutual
def selvagelaw04_LexBack.j0 : Nat → List Int → List (S32) → Bool → Option (Bool)
  | 0, _, _, _ => none
  | k + 1, x1, x5, x29 => if x29 = true then (some true) else (selvagelaw04_LexBack.l0 k x1 x5 (⟨#[]⟩ : ByteArray) 0)
def selvagelaw04_LexBack.l0 : Nat → List Int → List (S32) → ByteArray → Int → Option (Bool)
  | 0, _, _, _, _ => none
  | k + 1, x1, x5, x8, x9 => if x9 < (x5.length : Int) then (if x9 < (x1.length : Int) then (if 0 ≤ x9 then (selvagelaw04_LexBack.j2 k x1 x5 x8 x9 (rd x1 x9)) else (none)) else (selvagelaw04_LexBack.j2 k x1 x5 x8 x9 0)) else ((lex_Tokens.f x8).bind fun bt186 => (if (x8.size : Int) > 8192 then (some (bt186.2.1 == 15)) else (if bt186.2.1 = 0 then (selvagelaw04_LexBack.j3 k x5 bt186.1 ((bt186.1.length : Int) != (x5.length : Int))) else (selvagelaw04_LexBack.j3 k x5 bt186.1 true))))
def selvagelaw04_LexBack.j2 : Nat → List Int → List (S32) → ByteArray → Int → Int → Option (Bool)
  | 0, _, _, _, _, _ => none
  | k + 1, x1, x5, x8, x9, x10 => if (Int.tmod x10 4) = 0 then (if x8.size + 1 ≤ 9223372036854775807 then (if 0 ≤ x9 then (if x9 < (x5.length : Int) then (if (x8 ++ (⟨#[32]⟩ : ByteArray)).size + ((rd_T32 x5 x9).f1).size ≤ 9223372036854775807 then (selvagelaw04_LexBack.l0 k x1 x5 ((x8 ++ (⟨#[32]⟩ : ByteArray)) ++ ((rd_T32 x5 x9).f1)) (wrap64 (x9 + 1))) else (none)) else (none)) else (none)) else (none)) else (if (Int.tmod x10 4) = 1 then (if x8.size + 2 ≤ 9223372036854775807 then (if 0 ≤ x9 then (if x9 < (x5.length : Int) then (if (x8 ++ (⟨#[10, 9]⟩ : ByteArray)).size + ((rd_T32 x5 x9).f1).size ≤ 9223372036854775807 then (selvagelaw04_LexBack.l0 k x1 x5 ((x8 ++ (⟨#[10, 9]⟩ : ByteArray)) ++ ((rd_T32 x5 x9).f1)) (wrap64 (x9 + 1))) else (none)) else (none)) else (none)) else (none)) else (if (Int.tmod x10 4) = 2 then (if x8.size + 11 ≤ 9223372036854775807 then (if 0 ≤ x9 then (if x9 < (x5.length : Int) then (if (x8 ++ (⟨#[35, 32, 108, 101, 116, 32, 40, 32, 48, 49, 10]⟩ : ByteArray)).size + ((rd_T32 x5 x9).f1).size ≤ 9223372036854775807 then (selvagelaw04_LexBack.l0 k x1 x5 ((x8 ++ (⟨#[35, 32, 108, 101, 116, 32, 40, 32, 48, 49, 10]⟩ : ByteArray)) ++ ((rd_T32 x5 x9).f1)) (wrap64 (x9 + 1))) else (none)) else (none)) else (none)) else (none)) else (if x8.size + 3 ≤ 9223372036854775807 then (if 0 ≤ x9 then (if x9 < (x5.length : Int) then (if (x8 ++ (⟨#[13, 32, 32]⟩ : ByteArray)).size + ((rd_T32 x5 x9).f1).size ≤ 9223372036854775807 then (selvagelaw04_LexBack.l0 k x1 x5 ((x8 ++ (⟨#[13, 32, 32]⟩ : ByteArray)) ++ ((rd_T32 x5 x9).f1)) (wrap64 (x9 + 1))) else (none)) else (none)) else (none)) else (none))))
def selvagelaw04_LexBack.j3 : Nat → List (S32) → List (S32) → Bool → Option (Bool)
  | 0, _, _, _ => none
  | k + 1, x5, x11, x86 => if x86 = true then (some false) else (selvagelaw04_LexBack.l1 k x5 x11 0)
def selvagelaw04_LexBack.l1 : Nat → List (S32) → List (S32) → Int → Option (Bool)
  | 0, _, _, _ => none
  | k + 1, x5, x11, x14 => if x14 < (x5.length : Int) then (if 0 ≤ x14 then (if x14 < (x11.length : Int) then (if ((rd_T32 x11 x14).f0) = ((rd_T32 x5 x14).f0) then (if ((rd_T32 x11 x14).f1).toList = ((rd_T32 x5 x14).f1).toList then (if ((rd_T32 x11 x14).f2) = ((rd_T32 x5 x14).f2) then (selvagelaw04_LexBack.l1 k x5 x11 (wrap64 (x14 + 1))) else (some false)) else (some false)) else (some false)) else (none)) else (none)) else (some true)
end
def selvagelaw04_LexBack.f (k : Nat) (a0 : ByteArray) (l1 : List Int) : Option (Bool) := (selvagelaw04_awake.f k).bind fun t175 => (if t175 = true then ((lex_Tokens.f a0).bind fun bt176 => (if bt176.2.1 = 0 then (selvagelaw04_LexBack.j0 k l1 bt176.1 (decide ((bt176.1.length : Int) > 200))) else (selvagelaw04_LexBack.j0 k l1 bt176.1 true))) else (some false))
theorem selvagelaw04_LexBack.mono_l : ∀ k, (∀ y0 y1 y2, LeO (selvagelaw04_LexBack.j0 k y0 y1 y2) (selvagelaw04_LexBack.j0 (k + 1) y0 y1 y2)) ∧ (∀ y0 y1 y2 y3, LeO (selvagelaw04_LexBack.l0 k y0 y1 y2 y3) (selvagelaw04_LexBack.l0 (k + 1) y0 y1 y2 y3)) ∧ (∀ y0 y1 y2 y3 y4, LeO (selvagelaw04_LexBack.j2 k y0 y1 y2 y3 y4) (selvagelaw04_LexBack.j2 (k + 1) y0 y1 y2 y3 y4)) ∧ (∀ y0 y1 y2, LeO (selvagelaw04_LexBack.j3 k y0 y1 y2) (selvagelaw04_LexBack.j3 (k + 1) y0 y1 y2)) ∧ (∀ y0 y1 y2, LeO (selvagelaw04_LexBack.l1 k y0 y1 y2) (selvagelaw04_LexBack.l1 (k + 1) y0 y1 y2))
  | 0 => ⟨fun _ _ _ r h => by simp [selvagelaw04_LexBack.j0] at h, fun _ _ _ _ r h => by simp [selvagelaw04_LexBack.l0] at h, fun _ _ _ _ _ r h => by simp [selvagelaw04_LexBack.j2] at h, fun _ _ _ r h => by simp [selvagelaw04_LexBack.j3] at h, fun _ _ _ r h => by simp [selvagelaw04_LexBack.l1] at h⟩
  | k + 1 => by
    obtain ⟨ih0, ih1, ih2, ih3, ih4⟩ := selvagelaw04_LexBack.mono_l k
    refine ⟨?_, ?_, ?_, ?_, ?_⟩
    · intro y0 y1 y2
      unfold selvagelaw04_LexBack.j0
      repeat' first
      | (with_reducible exact ih0 _ _ _)
      | (with_reducible exact ih1 _ _ _ _)
      | (with_reducible exact ih2 _ _ _ _ _)
      | (with_reducible exact ih3 _ _ _)
      | (with_reducible exact ih4 _ _ _)
      | (with_reducible exact selvagelaw04_awake.mono _)
      | (with_reducible exact LeO.refl _)
      | (with_reducible exact LeO.none _)
      | (with_reducible refine LeO.ite ?_ ?_)
      | (with_reducible refine LeO.bind ?_ (fun _ => ?_))
      | exact ih0 _ _ _
      | exact ih1 _ _ _ _
      | exact ih2 _ _ _ _ _
      | exact ih3 _ _ _
      | exact ih4 _ _ _
      | exact selvagelaw04_awake.mono _
      | exact LeO.none _
      | refine LeO.ite ?_ ?_
      | refine LeO.bind ?_ (fun _ => ?_)
    · intro y0 y1 y2 y3
      unfold selvagelaw04_LexBack.l0
      repeat' first
      | (with_reducible exact ih0 _ _ _)
      | (with_reducible exact ih1 _ _ _ _)
      | (with_reducible exact ih2 _ _ _ _ _)
      | (with_reducible exact ih3 _ _ _)
      | (with_reducible exact ih4 _ _ _)
      | (with_reducible exact selvagelaw04_awake.mono _)
      | (with_reducible exact LeO.refl _)
      | (with_reducible exact LeO.none _)
      | (with_reducible refine LeO.ite ?_ ?_)
      | (with_reducible refine LeO.bind ?_ (fun _ => ?_))
      | exact ih0 _ _ _
      | exact ih1 _ _ _ _
      | exact ih2 _ _ _ _ _
      | exact ih3 _ _ _
      | exact ih4 _ _ _
      | exact selvagelaw04_awake.mono _
      | exact LeO.none _
      | refine LeO.ite ?_ ?_
      | refine LeO.bind ?_ (fun _ => ?_)
    · intro y0 y1 y2 y3 y4
      unfold selvagelaw04_LexBack.j2
      repeat' first
      | (with_reducible exact ih0 _ _ _)
      | (with_reducible exact ih1 _ _ _ _)
      | (with_reducible exact ih2 _ _ _ _ _)
      | (with_reducible exact ih3 _ _ _)
      | (with_reducible exact ih4 _ _ _)
      | (with_reducible exact selvagelaw04_awake.mono _)
      | (with_reducible exact LeO.refl _)
      | (with_reducible exact LeO.none _)
      | (with_reducible refine LeO.ite ?_ ?_)
      | (with_reducible refine LeO.bind ?_ (fun _ => ?_))
      | exact ih0 _ _ _
      | exact ih1 _ _ _ _
      | exact ih2 _ _ _ _ _
      | exact ih3 _ _ _
      | exact ih4 _ _ _
      | exact selvagelaw04_awake.mono _
      | exact LeO.none _
      | refine LeO.ite ?_ ?_
      | refine LeO.bind ?_ (fun _ => ?_)
    · intro y0 y1 y2
      unfold selvagelaw04_LexBack.j3
      repeat' first
      | (with_reducible exact ih0 _ _ _)
      | (with_reducible exact ih1 _ _ _ _)
      | (with_reducible exact ih2 _ _ _ _ _)
      | (with_reducible exact ih3 _ _ _)
      | (with_reducible exact ih4 _ _ _)
      | (with_reducible exact selvagelaw04_awake.mono _)
      | (with_reducible exact LeO.refl _)
      | (with_reducible exact LeO.none _)
      | (with_reducible refine LeO.ite ?_ ?_)
      | (with_reducible refine LeO.bind ?_ (fun _ => ?_))
      | exact ih0 _ _ _
      | exact ih1 _ _ _ _
      | exact ih2 _ _ _ _ _
      | exact ih3 _ _ _
      | exact ih4 _ _ _
      | exact selvagelaw04_awake.mono _
      | exact LeO.none _
      | refine LeO.ite ?_ ?_
      | refine LeO.bind ?_ (fun _ => ?_)
    · intro y0 y1 y2
      unfold selvagelaw04_LexBack.l1
      repeat' first
      | (with_reducible exact ih0 _ _ _)
      | (with_reducible exact ih1 _ _ _ _)
      | (with_reducible exact ih2 _ _ _ _ _)
      | (with_reducible exact ih3 _ _ _)
      | (with_reducible exact ih4 _ _ _)
      | (with_reducible exact selvagelaw04_awake.mono _)
      | (with_reducible exact LeO.refl _)
      | (with_reducible exact LeO.none _)
      | (with_reducible refine LeO.ite ?_ ?_)
      | (with_reducible refine LeO.bind ?_ (fun _ => ?_))
      | exact ih0 _ _ _
      | exact ih1 _ _ _ _
      | exact ih2 _ _ _ _ _
      | exact ih3 _ _ _
      | exact ih4 _ _ _
      | exact selvagelaw04_awake.mono _
      | exact LeO.none _
      | refine LeO.ite ?_ ?_
      | refine LeO.bind ?_ (fun _ => ?_)
theorem selvagelaw04_LexBack.mono : ∀ a0 a1 k, LeO (selvagelaw04_LexBack.f k a0 a1) (selvagelaw04_LexBack.f (k + 1) a0 a1) := by
  intro a0 a1 k
  obtain ⟨ih0, ih1, ih2, ih3, ih4⟩ := selvagelaw04_LexBack.mono_l k
  unfold selvagelaw04_LexBack.f
  repeat' first
      | (with_reducible exact ih0 _ _ _)
      | (with_reducible exact ih1 _ _ _ _)
      | (with_reducible exact ih2 _ _ _ _ _)
      | (with_reducible exact ih3 _ _ _)
      | (with_reducible exact ih4 _ _ _)
      | (with_reducible exact selvagelaw04_awake.mono _)
      | (with_reducible exact LeO.refl _)
      | (with_reducible exact LeO.none _)
      | (with_reducible refine LeO.ite ?_ ?_)
      | (with_reducible refine LeO.bind ?_ (fun _ => ?_))
      | exact ih0 _ _ _
      | exact ih1 _ _ _ _
      | exact ih2 _ _ _ _ _
      | exact ih3 _ _ _
      | exact ih4 _ _ _
      | exact selvagelaw04_awake.mono _
      | exact LeO.none _
      | refine LeO.ite ?_ ?_
      | refine LeO.bind ?_ (fun _ => ?_)
set_option maxHeartbeats 8000000 in
set_option maxRecDepth 100000 in
theorem selvagelaw04_LexBack.calls (k : Nat) (a0 : ByteArray) (A1 : Option Addr) (c1 : Nat) (l1 : List Int) (r : Bool) (w : World) (hr1 : Kd.C (Kd.int .u8) w A1 l1.length l1) (hc1 : l1.length ≤ c1) (h : selvagelaw04_LexBack.f k a0 l1 = some r) :
    Calls Try.prog 5 #[.string a0, .slice A1 l1.length c1] w fun e w' => e = .returned (.bool r) ∧ Below w.heap.size w w' := by
  have HR1 := Aside0.mk hr1
  have HC1 := Aside0.mk hc1
  clear hr1 hc1
  have HB := Aside0.mk (Below.refl w.heap.size w)
  have H : ((selvagelaw04_awake.f k).bind fun t175 => (if t175 = true then ((lex_Tokens.f a0).bind fun bt176 => (if bt176.2.1 = 0 then (selvagelaw04_LexBack.j0 k l1 bt176.1 (decide ((bt176.1.length : Int) > 200))) else (selvagelaw04_LexBack.j0 k l1 bt176.1 true))) else (some false))) = some r := h
  clear h
  replace H := Option.bind_eq_some_iff.mp H
  obtain ⟨t175, A30, H⟩ := H
  replace H : (if t175 = true then ((lex_Tokens.f a0).bind fun bt176 => (if bt176.2.1 = 0 then (selvagelaw04_LexBack.j0 k l1 bt176.1 (decide ((bt176.1.length : Int) > 200))) else (selvagelaw04_LexBack.j0 k l1 bt176.1 true))) else (some false)) = some r := H
  have A3 := Aside0.mk A30
  clear A30
  by_cases c4 : t175 = true
  · subst c4
    have H1 : ((lex_Tokens.f a0).bind fun bt176 => (if bt176.2.1 = 0 then (selvagelaw04_LexBack.j0 k l1 bt176.1 (decide ((bt176.1.length : Int) > 200))) else (selvagelaw04_LexBack.j0 k l1 bt176.1 true))) = some r := by rw [if_pos rfl] at H; exact H
    clear H
    have H := H1
    clear H1
    replace H := Option.bind_eq_some_iff.mp H
    obtain ⟨⟨t176, t177, t178⟩, A50, H⟩ := H
    replace H : (if t177 = 0 then (selvagelaw04_LexBack.j0 k l1 t176 (decide ((t176.length : Int) > 200))) else (selvagelaw04_LexBack.j0 k l1 t176 true)) = some r := H
    have A5 := Aside0.mk A50
    clear A50
    have HC6 := Aside0.mk H
    clear H
    go_enter Try.func5, Try.ntmps5
    go_upto_region 4 with (first | (go_at_call 8; (with_reducible refine (selvagelaw04_awake.calls k  true _ A3.out).mono ?_); rintro e w7 ⟨rfl, hb⟩; have n0_ := Aside0.mk (below_step (by repeat (first | (with_reducible first | exact HB.out | apply below_alloc | apply pw_below_drewN | apply below_drew1) | exact HB.out)) hb); clear HB; have HB := n0_; clear n0_; (try clear hb); (try clear hb2); (try clear hk); (try clear hi)) | (go_at_call 9; (with_reducible refine (lex_Tokens.calls a0 t176 t177 t178 _ A5.out).mono ?_); rintro e w8 ⟨v179, rfl, ho0, hb⟩; have n0_ := Aside0.mk (Kd.R_lower ho0 (below_size (by repeat (first | (with_reducible first | exact HB.out | apply below_alloc | apply pw_below_drewN | apply below_drew1) | exact HB.out)))); have n1_ := Aside0.mk (below_step (by repeat (first | (with_reducible first | exact HB.out | apply below_alloc | apply pw_below_drewN | apply below_drew1) | exact HB.out)) hb); clear HB; have HO180 := n0_; have HB := n1_; clear n0_ n1_; (try clear hb); (try clear hb2); (try clear hk); (try clear hi); (try clear ho0)))
    repeat (go_quiet (first | (go_at_call 8; (with_reducible refine (selvagelaw04_awake.calls k  true _ A3.out).mono ?_); rintro e w7 ⟨rfl, hb⟩; have n0_ := Aside0.mk (below_step (by repeat (first | (with_reducible first | exact HB.out | apply below_alloc | apply pw_below_drewN | apply below_drew1) | exact HB.out)) hb); clear HB; have HB := n0_; clear n0_; (try clear hb); (try clear hb2); (try clear hk); (try clear hi)) | (go_at_call 9; (with_reducible refine (lex_Tokens.calls a0 t176 t177 t178 _ A5.out).mono ?_); rintro e w8 ⟨v179, rfl, ho0, hb⟩; have n0_ := Aside0.mk (Kd.R_lower ho0 (below_size (by repeat (first | (with_reducible first | exact HB.out | apply below_alloc | apply pw_below_drewN | apply below_drew1) | exact HB.out)))); have n1_ := Aside0.mk (below_step (by repeat (first | (with_reducible first | exact HB.out | apply below_alloc | apply pw_below_drewN | apply below_drew1) | exact HB.out)) hb); clear HB; have HO180 := n0_; have HB := n1_; clear n0_ n1_; (try clear hb); (try clear hb2); (try clear hk); (try clear hi); (try clear ho0))); go_upto_region 4 with (first | (go_at_call 8; (with_reducible refine (selvagelaw04_awake.calls k  true _ A3.out).mono ?_); rintro e w7 ⟨rfl, hb⟩; have n0_ := Aside0.mk (below_step (by repeat (first | (with_reducible first | exact HB.out | apply below_alloc | apply pw_below_drewN | apply below_drew1) | exact HB.out)) hb); clear HB; have HB := n0_; clear n0_; (try clear hb); (try clear hb2); (try clear hk); (try clear hi)) | (go_at_call 9; (with_reducible refine (lex_Tokens.calls a0 t176 t177 t178 _ A5.out).mono ?_); rintro e w8 ⟨v179, rfl, ho0, hb⟩; have n0_ := Aside0.mk (Kd.R_lower ho0 (below_size (by repeat (first | (with_reducible first | exact HB.out | apply below_alloc | apply pw_below_drewN | apply below_drew1) | exact HB.out)))); have n1_ := Aside0.mk (below_step (by repeat (first | (with_reducible first | exact HB.out | apply below_alloc | apply pw_below_drewN | apply below_drew1) | exact HB.out)) hb); clear HB; have HO180 := n0_; have HB := n1_; clear n0_ n1_; (try clear hb); (try clear hb2); (try clear hk); (try clear hi); (try clear ho0))))
    (try simp only [Act.put, List.setIfInBounds_toArray, List.set_cons_zero, List.set_cons_succ])
    go_cut [29] (fun v29 wc => ∃ (kq : Nat) (x29_5 : Bool), v29 = .bool x29_5 ∧ Aside0 (selvagelaw04_LexBack.j0 kq l1 t176 x29_5 = some r) ∧ Aside0 (kq ≤ k) ∧ Aside0 (Kd.R k32 32 wc w.heap.size (fun _ => True) v179 t176) ∧ Aside0 (Below w.heap.size w wc))
    case first =>
      have H := HC6.out
      clear HC6
      by_cases c9 : t177 = 0
      · rw [if_pos c9] at H
        have c9b0 : (t177 == 0) = true := beq_iff_eq.mpr c9
        have c9b1 : (t177 != 0) = false := bne_eq_false_iff_eq.mpr c9
        clear c9
        (first | rw [c9b0] | (simp only [i64_w, i32_w]; rw [c9b0]) | skip)
        have H' := Aside0.mk H
        clear H
        obtain ⟨Ao10, co10, eo10⟩ := Kd.R_slice HO180.out
        subst eo10
        go_wp2
        repeat (go_quiet (fail); try go_wp2)
        go_meet
        case rel => exact ⟨_, (decide ((t176.length : Int) > 200)), (by first | rfl | (simp; done) | (simp [*]; done)), H', ⟨by first | omega | exact Nat.le_refl _⟩, ⟨by (with_reducible repeat (first | apply Kd.R_alloc | apply Kd.R_drewN | apply Kd.R_drew)); exact HO180.out⟩, ⟨by repeat (first | (with_reducible first | exact HB.out | apply below_alloc | apply pw_below_drewN | apply below_drew1) | exact HB.out)⟩⟩
      · rw [if_neg c9] at H
        have c9b0 : (t177 == 0) = false := beq_eq_false_iff_ne.mpr c9
        have c9b1 : (t177 != 0) = true := bne_iff_ne.mpr c9
        (first | rw [c9b0] | (simp only [i64_w, i32_w]; rw [c9b0]) | skip)
        have H' := Aside0.mk H
        clear H
        go_wp2
        repeat (go_quiet (fail); try go_wp2)
        go_meet
        case rel => exact ⟨_, (true), (by first | rfl | (simp; done) | (simp [*]; done)), H', ⟨by first | omega | exact Nat.le_refl _⟩, ⟨by (with_reducible repeat (first | apply Kd.R_alloc | apply Kd.R_drewN | apply Kd.R_drew)); exact HO180.out⟩, ⟨by repeat (first | (with_reducible first | exact HB.out | apply below_alloc | apply pw_below_drewN | apply below_drew1) | exact HB.out)⟩⟩
    case rest =>
      clear HC6
      try clear c1
      try clear p2
      try clear c4
      try clear c5
      try clear c9
      try clear c9b0
      try clear c9b1
      obtain ⟨kq, x29_5, rfl, HA, HJ5, HO_5, HB⟩ := hcut
      cases kq with
      | zero => exact absurd HA.out (by simp [selvagelaw04_LexBack.j0])
      | succ kj5 =>
        have H := HA.out
        clear HA
        simp only [selvagelaw04_LexBack.j0] at H
        by_cases c11 : x29_5 = true
        · subst c11
          have H1 : (some true) = some r := by rw [if_pos rfl] at H; exact H
          clear H
          have H := H1
          clear H1
          obtain rfl := Option.some.inj H
          go_wp2
          repeat (go_quiet (fail); try go_wp2)
          go_ret
          exact ⟨by first | rfl | (simp [errW_none, errW_some] <;> rfl) | (simp [*, errW_none, errW_some] <;> rfl), by repeat (first | (with_reducible first | exact HB.out | apply below_alloc | apply pw_below_drewN | apply below_drew1) | exact HB.out)⟩
        · replace c11 := Bool.eq_false_iff.mpr c11
          subst c11
          have H1 : (selvagelaw04_LexBack.l0 kj5 l1 t176 (⟨#[]⟩ : ByteArray) 0) = some r := by rw [if_neg (show ¬ (false = true) by decide)] at H; exact H
          clear H
          have H := H1
          clear H1
          have H' := Aside0.mk H
          clear H
          go_wp2
          repeat (go_quiet (fail); try go_wp2)
          go_loopg [8, 9] kj5 (fun kq v8 v9 w' => ∃ (x8_2 : ByteArray) (x9_2 : Int), v8 = .string x8_2 ∧ v9 = .int .i64 x9_2 ∧ Aside0 (selvagelaw04_LexBack.l0 kq l1 t176 x8_2 x9_2 = some r) ∧ Aside0 (kq ≤ kj5) ∧ Aside0 (Kd.R k32 32 w' w.heap.size (fun _ => True) v179 t176) ∧ Aside0 (Below w.heap.size w w'))
          case atStart => exact ⟨((⟨#[]⟩ : ByteArray)), (0), (by first | rfl | (simp; done) | (simp [*]; done)), (by first | rfl | (simp; done) | (simp [*]; done)), H', ⟨Nat.le_refl _⟩, ⟨by (with_reducible repeat (first | apply Kd.R_alloc | apply Kd.R_drewN | apply Kd.R_drew)); exact HO_5.out⟩, ⟨by repeat (first | (with_reducible first | exact HB.out | apply below_alloc | apply pw_below_drewN | apply below_drew1) | exact HB.out)⟩⟩
          case round =>
            clear H'
            try clear c1
            try clear p2
            try clear c4
            try clear c5
            try clear c9
            try clear c9b0
            try clear c9b1
            try clear c11
            try clear p2
            obtain ⟨x8_2, x9_2, rfl, rfl, HA, HK2, HO_5, HB⟩ := hrel
            cases gk with
            | zero => exact absurd HA.out (by simp [selvagelaw04_LexBack.l0])
            | succ k2 =>
              have H := HA.out
              clear HA
              simp only [selvagelaw04_LexBack.l0] at H
              by_cases c12 : x9_2 < (t176.length : Int)
              · rw [if_pos c12] at H
                have c12b0 : decide (x9_2 < (t176.length : Int)) = true := decide_eq_true c12
                clear c12
                have HC13 := Aside0.mk H
                clear H
                obtain ⟨Ao14, co14, eo14⟩ := Kd.R_slice HO_5.out
                subst eo14
                go_upto_if 39 with (fail)
                repeat (go_quiet (fail); go_upto_if 39 with (fail))
                go_cut [10] (fun v10 wc => ∃ (kq : Nat) (x10_12 : Int), v10 = .int .u8 x10_12 ∧ Aside0 (selvagelaw04_LexBack.j2 kq l1 t176 x8_2 x9_2 x10_12 = some r) ∧ Aside0 (kq ≤ k2) ∧ Aside0 (Kd.R k32 32 wc w.heap.size (fun _ => True) (.slice Ao14 t176.length co14) t176) ∧ Aside0 (Below w.heap.size w wc))
                case first =>
                  have H := HC13.out
                  clear HC13
                  by_cases c15 : x9_2 < (l1.length : Int)
                  · rw [if_pos c15] at H
                    have c15b0 : decide (x9_2 < (l1.length : Int)) = true := decide_eq_true c15
                    clear c15
                    (first | rw [c15b0] | (simp only [i64_w, i32_w]; rw [c15b0]) | skip)
                    by_cases c16 : 0 ≤ x9_2
                    · rw [if_pos c16] at H
                      have c16b0 : decide (0 ≤ x9_2) = true := decide_eq_true c16
                      clear c16
                      have H' := Aside0.mk H
                      clear H
                      have p181 : 0 ≤ (x9_2 : Int) := of_decide_eq_true (by first | (with_reducible assumption) | assumption)
                      have q181 : x9_2 < (l1.length : Int) := of_decide_eq_true (by first | (with_reducible assumption) | assumption)
                      obtain ⟨ad181, e181, hx181_0⟩ := Kd.at_int HR1.out x9_2 p181 q181
                      cases e181
                      replace hx181_0 := (HB.out.cell (World.block_lt_of_cell? w _ hx181_0)).trans hx181_0
                      replace p181 := eq_true p181
                      replace q181 := eq_true q181
                      go_wp2
                      repeat (go_quiet (fail); try go_wp2)
                      go_meet
                      case rel => exact ⟨_, (rd l1 x9_2), (by first | rfl | (simp; done) | (simp [*]; done)), H', ⟨by have := HJ5.out; have := HK2.out; first | omega | exact Nat.le_refl _⟩, ⟨by (with_reducible repeat (first | apply Kd.R_alloc | apply Kd.R_drewN | apply Kd.R_drew)); exact HO_5.out⟩, ⟨by repeat (first | (with_reducible first | exact HB.out | apply below_alloc | apply pw_below_drewN | apply below_drew1) | exact HB.out)⟩⟩
                    · rw [if_neg c16] at H
                      exact absurd H (by simp)
                  · rw [if_neg c15] at H
                    have c15b0 : decide (x9_2 < (l1.length : Int)) = false := decide_eq_false c15
                    clear c15
                    (first | rw [c15b0] | (simp only [i64_w, i32_w]; rw [c15b0]) | skip)
                    have H' := Aside0.mk H
                    clear H
                    go_wp2
                    repeat (go_quiet (fail); try go_wp2)
                    go_meet
                    case rel => exact ⟨_, (0), (by first | rfl | (simp; done) | (simp [*]; done)), H', ⟨by have := HJ5.out; have := HK2.out; first | omega | exact Nat.le_refl _⟩, ⟨by (with_reducible repeat (first | apply Kd.R_alloc | apply Kd.R_drewN | apply Kd.R_drew)); exact HO_5.out⟩, ⟨by repeat (first | (with_reducible first | exact HB.out | apply below_alloc | apply pw_below_drewN | apply below_drew1) | exact HB.out)⟩⟩
                case rest =>
                  clear HC13
                  try clear c1
                  try clear p1
                  try clear q1
                  try clear hx1
                  try clear p2
                  try clear c4
                  try clear c5
                  try clear c9
                  try clear c9b0
                  try clear c9b1
                  try clear c11
                  try clear c12
                  try clear c12b0
                  try clear c15
                  try clear c15b0
                  try clear c16
                  try clear c16b0
                  try clear hx181_0
                  try clear p181
                  try clear p2
                  try clear q181
                  obtain ⟨kq, x10_12, rfl, HA, HJ12, HO_5, HB⟩ := hcut
                  cases kq with
                  | zero => exact absurd HA.out (by simp [selvagelaw04_LexBack.j2])
                  | succ kj12 =>
                    have H := HA.out
                    clear HA
                    simp only [selvagelaw04_LexBack.j2] at H
                    by_cases c17 : (Int.tmod x10_12 4) = 0
                    · rw [if_pos c17] at H
                      have c17b0 : ((Int.tmod x10_12 4) == 0) = true := beq_iff_eq.mpr c17
                      have c17b1 : ((Int.tmod x10_12 4) != 0) = false := bne_eq_false_iff_eq.mpr c17
                      clear c17
                      by_cases c18 : x8_2.size + 1 ≤ 9223372036854775807
                      · rw [if_pos c18] at H
                        have c18b0 := eq_true c18
                        have c18b1 : decide (x8_2.size + 1 ≤ 9223372036854775807) = true := decide_eq_true c18
                        try have c18b2 : (9223372036854775807 < x8_2.size + 1) = False := eq_false (Nat.not_lt.2 c18)
                        by_cases c19 : 0 ≤ x9_2
                        · rw [if_pos c19] at H
                          have c19b0 : decide (0 ≤ x9_2) = true := decide_eq_true c19
                          clear c19
                          by_cases c20 : x9_2 < (t176.length : Int)
                          · rw [if_pos c20] at H
                            have c20b0 : decide (x9_2 < (t176.length : Int)) = true := decide_eq_true c20
                            clear c20
                            by_cases c21 : (x8_2 ++ (⟨#[32]⟩ : ByteArray)).size + ((rd_T32 t176 x9_2).f1).size ≤ 9223372036854775807
                            · rw [if_pos c21] at H
                              have c21b0 := eq_true c21
                              have c21b1 : decide ((x8_2 ++ (⟨#[32]⟩ : ByteArray)).size + ((rd_T32 t176 x9_2).f1).size ≤ 9223372036854775807) = true := decide_eq_true c21
                              try have c21b2 : (9223372036854775807 < (x8_2 ++ (⟨#[32]⟩ : ByteArray)).size + ((rd_T32 t176 x9_2).f1).size) = False := eq_false (Nat.not_lt.2 c21)
                              have H' := Aside0.mk H
                              clear H
                              have p182 : 0 ≤ (x9_2 : Int) := of_decide_eq_true (by first | (with_reducible assumption) | assumption)
                              have q182 : x9_2 < (t176.length : Int) := of_decide_eq_true (by first | (with_reducible assumption) | assumption)
                              obtain ⟨ad182, e182, hx182_0, hx182_1, hx182_2, hx182_3⟩ := at_T32 (Kd.R_reads' HO_5.out).2.2 x9_2 p182 q182
                              cases e182
                              replace p182 := eq_true p182
                              replace q182 := eq_true q182
                              go_wp2
                              repeat (go_quiet (fail); try go_wp2)
                              go_roundg kj12
                              case measure => have := HJ5.out; have := HK2.out; have := HJ12.out; omega
                              case rel => exact ⟨((x8_2 ++ (⟨#[32]⟩ : ByteArray)) ++ ((rd_T32 t176 x9_2).f1)), (wrap64 (x9_2 + 1)), (by first | rfl | (simp; done) | (simp [*]; done)), (by first | rfl | (simp; done) | (simp [*]; done)), H', ⟨by have := HJ5.out; have := HK2.out; have := HJ12.out; omega⟩, ⟨by (with_reducible repeat (first | apply Kd.R_alloc | apply Kd.R_drewN | apply Kd.R_drew)); exact HO_5.out⟩, ⟨by repeat (first | (with_reducible first | exact HB.out | apply below_alloc | apply pw_below_drewN | apply below_drew1) | exact HB.out)⟩⟩
                            · rw [if_neg c21] at H
                              exact absurd H (by simp)
                          · rw [if_neg c20] at H
                            exact absurd H (by simp)
                        · rw [if_neg c19] at H
                          exact absurd H (by simp)
                      · rw [if_neg c18] at H
                        exact absurd H (by simp)
                    · rw [if_neg c17] at H
                      have c17b0 : ((Int.tmod x10_12 4) == 0) = false := beq_eq_false_iff_ne.mpr c17
                      have c17b1 : ((Int.tmod x10_12 4) != 0) = true := bne_iff_ne.mpr c17
                      by_cases c22 : (Int.tmod x10_12 4) = 1
                      · rw [if_pos c22] at H
                        have c22b0 : ((Int.tmod x10_12 4) == 1) = true := beq_iff_eq.mpr c22
                        have c22b1 : ((Int.tmod x10_12 4) != 1) = false := bne_eq_false_iff_eq.mpr c22
                        clear c22
                        by_cases c23 : x8_2.size + 2 ≤ 9223372036854775807
                        · rw [if_pos c23] at H
                          have c23b0 := eq_true c23
                          have c23b1 : decide (x8_2.size + 2 ≤ 9223372036854775807) = true := decide_eq_true c23
                          try have c23b2 : (9223372036854775807 < x8_2.size + 2) = False := eq_false (Nat.not_lt.2 c23)
                          by_cases c24 : 0 ≤ x9_2
                          · rw [if_pos c24] at H
                            have c24b0 : decide (0 ≤ x9_2) = true := decide_eq_true c24
                            clear c24
                            by_cases c25 : x9_2 < (t176.length : Int)
                            · rw [if_pos c25] at H
                              have c25b0 : decide (x9_2 < (t176.length : Int)) = true := decide_eq_true c25
                              clear c25
                              by_cases c26 : (x8_2 ++ (⟨#[10, 9]⟩ : ByteArray)).size + ((rd_T32 t176 x9_2).f1).size ≤ 9223372036854775807
                              · rw [if_pos c26] at H
                                have c26b0 := eq_true c26
                                have c26b1 : decide ((x8_2 ++ (⟨#[10, 9]⟩ : ByteArray)).size + ((rd_T32 t176 x9_2).f1).size ≤ 9223372036854775807) = true := decide_eq_true c26
                                try have c26b2 : (9223372036854775807 < (x8_2 ++ (⟨#[10, 9]⟩ : ByteArray)).size + ((rd_T32 t176 x9_2).f1).size) = False := eq_false (Nat.not_lt.2 c26)
                                have H' := Aside0.mk H
                                clear H
                                have p183 : 0 ≤ (x9_2 : Int) := of_decide_eq_true (by first | (with_reducible assumption) | assumption)
                                have q183 : x9_2 < (t176.length : Int) := of_decide_eq_true (by first | (with_reducible assumption) | assumption)
                                obtain ⟨ad183, e183, hx183_0, hx183_1, hx183_2, hx183_3⟩ := at_T32 (Kd.R_reads' HO_5.out).2.2 x9_2 p183 q183
                                cases e183
                                replace p183 := eq_true p183
                                replace q183 := eq_true q183
                                go_wp2
                                repeat (go_quiet (fail); try go_wp2)
                                go_roundg kj12
                                case measure => have := HJ5.out; have := HK2.out; have := HJ12.out; omega
                                case rel => exact ⟨((x8_2 ++ (⟨#[10, 9]⟩ : ByteArray)) ++ ((rd_T32 t176 x9_2).f1)), (wrap64 (x9_2 + 1)), (by first | rfl | (simp; done) | (simp [*]; done)), (by first | rfl | (simp; done) | (simp [*]; done)), H', ⟨by have := HJ5.out; have := HK2.out; have := HJ12.out; omega⟩, ⟨by (with_reducible repeat (first | apply Kd.R_alloc | apply Kd.R_drewN | apply Kd.R_drew)); exact HO_5.out⟩, ⟨by repeat (first | (with_reducible first | exact HB.out | apply below_alloc | apply pw_below_drewN | apply below_drew1) | exact HB.out)⟩⟩
                              · rw [if_neg c26] at H
                                exact absurd H (by simp)
                            · rw [if_neg c25] at H
                              exact absurd H (by simp)
                          · rw [if_neg c24] at H
                            exact absurd H (by simp)
                        · rw [if_neg c23] at H
                          exact absurd H (by simp)
                      · rw [if_neg c22] at H
                        have c22b0 : ((Int.tmod x10_12 4) == 1) = false := beq_eq_false_iff_ne.mpr c22
                        have c22b1 : ((Int.tmod x10_12 4) != 1) = true := bne_iff_ne.mpr c22
                        by_cases c27 : (Int.tmod x10_12 4) = 2
                        · rw [if_pos c27] at H
                          have c27b0 : ((Int.tmod x10_12 4) == 2) = true := beq_iff_eq.mpr c27
                          have c27b1 : ((Int.tmod x10_12 4) != 2) = false := bne_eq_false_iff_eq.mpr c27
                          clear c27
                          by_cases c28 : x8_2.size + 11 ≤ 9223372036854775807
                          · rw [if_pos c28] at H
                            have c28b0 := eq_true c28
                            have c28b1 : decide (x8_2.size + 11 ≤ 9223372036854775807) = true := decide_eq_true c28
                            try have c28b2 : (9223372036854775807 < x8_2.size + 11) = False := eq_false (Nat.not_lt.2 c28)
                            by_cases c29 : 0 ≤ x9_2
                            · rw [if_pos c29] at H
                              have c29b0 : decide (0 ≤ x9_2) = true := decide_eq_true c29
                              clear c29
                              by_cases c30 : x9_2 < (t176.length : Int)
                              · rw [if_pos c30] at H
                                have c30b0 : decide (x9_2 < (t176.length : Int)) = true := decide_eq_true c30
                                clear c30
                                by_cases c31 : (x8_2 ++ (⟨#[35, 32, 108, 101, 116, 32, 40, 32, 48, 49, 10]⟩ : ByteArray)).size + ((rd_T32 t176 x9_2).f1).size ≤ 9223372036854775807
                                · rw [if_pos c31] at H
                                  have c31b0 := eq_true c31
                                  have c31b1 : decide ((x8_2 ++ (⟨#[35, 32, 108, 101, 116, 32, 40, 32, 48, 49, 10]⟩ : ByteArray)).size + ((rd_T32 t176 x9_2).f1).size ≤ 9223372036854775807) = true := decide_eq_true c31
                                  try have c31b2 : (9223372036854775807 < (x8_2 ++ (⟨#[35, 32, 108, 101, 116, 32, 40, 32, 48, 49, 10]⟩ : ByteArray)).size + ((rd_T32 t176 x9_2).f1).size) = False := eq_false (Nat.not_lt.2 c31)
                                  have H' := Aside0.mk H
                                  clear H
                                  have p184 : 0 ≤ (x9_2 : Int) := of_decide_eq_true (by first | (with_reducible assumption) | assumption)
                                  have q184 : x9_2 < (t176.length : Int) := of_decide_eq_true (by first | (with_reducible assumption) | assumption)
                                  obtain ⟨ad184, e184, hx184_0, hx184_1, hx184_2, hx184_3⟩ := at_T32 (Kd.R_reads' HO_5.out).2.2 x9_2 p184 q184
                                  cases e184
                                  replace p184 := eq_true p184
                                  replace q184 := eq_true q184
                                  go_wp2
                                  repeat (go_quiet (fail); try go_wp2)
                                  go_roundg kj12
                                  case measure => have := HJ5.out; have := HK2.out; have := HJ12.out; omega
                                  case rel => exact ⟨((x8_2 ++ (⟨#[35, 32, 108, 101, 116, 32, 40, 32, 48, 49, 10]⟩ : ByteArray)) ++ ((rd_T32 t176 x9_2).f1)), (wrap64 (x9_2 + 1)), (by first | rfl | (simp; done) | (simp [*]; done)), (by first | rfl | (simp; done) | (simp [*]; done)), H', ⟨by have := HJ5.out; have := HK2.out; have := HJ12.out; omega⟩, ⟨by (with_reducible repeat (first | apply Kd.R_alloc | apply Kd.R_drewN | apply Kd.R_drew)); exact HO_5.out⟩, ⟨by repeat (first | (with_reducible first | exact HB.out | apply below_alloc | apply pw_below_drewN | apply below_drew1) | exact HB.out)⟩⟩
                                · rw [if_neg c31] at H
                                  exact absurd H (by simp)
                              · rw [if_neg c30] at H
                                exact absurd H (by simp)
                            · rw [if_neg c29] at H
                              exact absurd H (by simp)
                          · rw [if_neg c28] at H
                            exact absurd H (by simp)
                        · rw [if_neg c27] at H
                          have c27b0 : ((Int.tmod x10_12 4) == 2) = false := beq_eq_false_iff_ne.mpr c27
                          have c27b1 : ((Int.tmod x10_12 4) != 2) = true := bne_iff_ne.mpr c27
                          by_cases c32 : x8_2.size + 3 ≤ 9223372036854775807
                          · rw [if_pos c32] at H
                            have c32b0 := eq_true c32
                            have c32b1 : decide (x8_2.size + 3 ≤ 9223372036854775807) = true := decide_eq_true c32
                            try have c32b2 : (9223372036854775807 < x8_2.size + 3) = False := eq_false (Nat.not_lt.2 c32)
                            by_cases c33 : 0 ≤ x9_2
                            · rw [if_pos c33] at H
                              have c33b0 : decide (0 ≤ x9_2) = true := decide_eq_true c33
                              clear c33
                              by_cases c34 : x9_2 < (t176.length : Int)
                              · rw [if_pos c34] at H
                                have c34b0 : decide (x9_2 < (t176.length : Int)) = true := decide_eq_true c34
                                clear c34
                                by_cases c35 : (x8_2 ++ (⟨#[13, 32, 32]⟩ : ByteArray)).size + ((rd_T32 t176 x9_2).f1).size ≤ 9223372036854775807
                                · rw [if_pos c35] at H
                                  have c35b0 := eq_true c35
                                  have c35b1 : decide ((x8_2 ++ (⟨#[13, 32, 32]⟩ : ByteArray)).size + ((rd_T32 t176 x9_2).f1).size ≤ 9223372036854775807) = true := decide_eq_true c35
                                  try have c35b2 : (9223372036854775807 < (x8_2 ++ (⟨#[13, 32, 32]⟩ : ByteArray)).size + ((rd_T32 t176 x9_2).f1).size) = False := eq_false (Nat.not_lt.2 c35)
                                  have H' := Aside0.mk H
                                  clear H
                                  have p185 : 0 ≤ (x9_2 : Int) := of_decide_eq_true (by first | (with_reducible assumption) | assumption)
                                  have q185 : x9_2 < (t176.length : Int) := of_decide_eq_true (by first | (with_reducible assumption) | assumption)
                                  obtain ⟨ad185, e185, hx185_0, hx185_1, hx185_2, hx185_3⟩ := at_T32 (Kd.R_reads' HO_5.out).2.2 x9_2 p185 q185
                                  cases e185
                                  replace p185 := eq_true p185
                                  replace q185 := eq_true q185
                                  go_wp2
                                  repeat (go_quiet (fail); try go_wp2)
                                  go_roundg kj12
                                  case measure => have := HJ5.out; have := HK2.out; have := HJ12.out; omega
                                  case rel => exact ⟨((x8_2 ++ (⟨#[13, 32, 32]⟩ : ByteArray)) ++ ((rd_T32 t176 x9_2).f1)), (wrap64 (x9_2 + 1)), (by first | rfl | (simp; done) | (simp [*]; done)), (by first | rfl | (simp; done) | (simp [*]; done)), H', ⟨by have := HJ5.out; have := HK2.out; have := HJ12.out; omega⟩, ⟨by (with_reducible repeat (first | apply Kd.R_alloc | apply Kd.R_drewN | apply Kd.R_drew)); exact HO_5.out⟩, ⟨by repeat (first | (with_reducible first | exact HB.out | apply below_alloc | apply pw_below_drewN | apply below_drew1) | exact HB.out)⟩⟩
                                · rw [if_neg c35] at H
                                  exact absurd H (by simp)
                              · rw [if_neg c34] at H
                                exact absurd H (by simp)
                            · rw [if_neg c33] at H
                              exact absurd H (by simp)
                          · rw [if_neg c32] at H
                            exact absurd H (by simp)
              · rw [if_neg c12] at H
                have c12b0 : decide (x9_2 < (t176.length : Int)) = false := decide_eq_false c12
                clear c12
                replace H := Option.bind_eq_some_iff.mp H
                obtain ⟨⟨t186, t187, t188⟩, A360, H⟩ := H
                replace H : (if (x8_2.size : Int) > 8192 then (some (t187 == 15)) else (if t187 = 0 then (selvagelaw04_LexBack.j3 k2 t176 t186 ((t186.length : Int) != (t176.length : Int))) else (selvagelaw04_LexBack.j3 k2 t176 t186 true))) = some r := H
                have A36 := Aside0.mk A360
                clear A360
                by_cases c37 : (x8_2.size : Int) > 8192
                · rw [if_pos c37] at H
                  have c37b0 : decide (8192 < (x8_2.size : Int)) = true := decide_eq_true c37
                  have c37b1 : decide (8192 < x8_2.size) = true := decide_eq_true (by omega)
                  clear c37
                  obtain rfl := Option.some.inj H
                  obtain ⟨Ao38, co38, eo38⟩ := Kd.R_slice HO_5.out
                  subst eo38
                  go_wp2_with (first | (go_at_call 9; (with_reducible refine (lex_Tokens.calls x8_2 t186 t187 t188 _ A36.out).mono ?_); rintro e w39 ⟨v189, rfl, ho0, hb⟩; have n0_ := Aside0.mk (Kd.R_elder' (by (with_reducible repeat (first | apply Kd.R_alloc | apply Kd.R_drewN | apply Kd.R_drew)); exact HO_5.out) (Kd.R_base ho0) hb); have n1_ := Aside0.mk (Kd.R_lower (Kd.R_new' ho0 (Kd.R_lt (by (with_reducible repeat (first | apply Kd.R_alloc | apply Kd.R_drewN | apply Kd.R_drew)); exact HO_5.out))) (below_size (by repeat (first | (with_reducible first | exact HB.out | apply below_alloc | apply pw_below_drewN | apply below_drew1) | exact HB.out)))); have n2_ := Aside0.mk (below_step (by repeat (first | (with_reducible first | exact HB.out | apply below_alloc | apply pw_below_drewN | apply below_drew1) | exact HB.out)) hb); clear HO_5; clear HB; have HO_5 := n0_; have HO190 := n1_; have HB := n2_; clear n0_ n1_ n2_; (try clear hb); (try clear hb2); (try clear hk); (try clear hi); (try clear ho0)))
                  repeat (go_quiet (first | (go_at_call 9; (with_reducible refine (lex_Tokens.calls x8_2 t186 t187 t188 _ A36.out).mono ?_); rintro e w39 ⟨v189, rfl, ho0, hb⟩; have n0_ := Aside0.mk (Kd.R_elder' (by (with_reducible repeat (first | apply Kd.R_alloc | apply Kd.R_drewN | apply Kd.R_drew)); exact HO_5.out) (Kd.R_base ho0) hb); have n1_ := Aside0.mk (Kd.R_lower (Kd.R_new' ho0 (Kd.R_lt (by (with_reducible repeat (first | apply Kd.R_alloc | apply Kd.R_drewN | apply Kd.R_drew)); exact HO_5.out))) (below_size (by repeat (first | (with_reducible first | exact HB.out | apply below_alloc | apply pw_below_drewN | apply below_drew1) | exact HB.out)))); have n2_ := Aside0.mk (below_step (by repeat (first | (with_reducible first | exact HB.out | apply below_alloc | apply pw_below_drewN | apply below_drew1) | exact HB.out)) hb); clear HO_5; clear HB; have HO_5 := n0_; have HO190 := n1_; have HB := n2_; clear n0_ n1_ n2_; (try clear hb); (try clear hb2); (try clear hk); (try clear hi); (try clear ho0))); try go_wp2_with (first | (go_at_call 9; (with_reducible refine (lex_Tokens.calls x8_2 t186 t187 t188 _ A36.out).mono ?_); rintro e w39 ⟨v189, rfl, ho0, hb⟩; have n0_ := Aside0.mk (Kd.R_elder' (by (with_reducible repeat (first | apply Kd.R_alloc | apply Kd.R_drewN | apply Kd.R_drew)); exact HO_5.out) (Kd.R_base ho0) hb); have n1_ := Aside0.mk (Kd.R_lower (Kd.R_new' ho0 (Kd.R_lt (by (with_reducible repeat (first | apply Kd.R_alloc | apply Kd.R_drewN | apply Kd.R_drew)); exact HO_5.out))) (below_size (by repeat (first | (with_reducible first | exact HB.out | apply below_alloc | apply pw_below_drewN | apply below_drew1) | exact HB.out)))); have n2_ := Aside0.mk (below_step (by repeat (first | (with_reducible first | exact HB.out | apply below_alloc | apply pw_below_drewN | apply below_drew1) | exact HB.out)) hb); clear HO_5; clear HB; have HO_5 := n0_; have HO190 := n1_; have HB := n2_; clear n0_ n1_ n2_; (try clear hb); (try clear hb2); (try clear hk); (try clear hi); (try clear ho0))))
                  go_ret
                  exact ⟨by first | rfl | (simp [errW_none, errW_some] <;> rfl) | (simp [*, errW_none, errW_some] <;> rfl), by repeat (first | (with_reducible first | exact HB.out | apply below_alloc | apply pw_below_drewN | apply below_drew1) | exact HB.out)⟩
                · rw [if_neg c37] at H
                  have c37b0 : decide (8192 < (x8_2.size : Int)) = false := decide_eq_false c37
                  have c37b1 : decide (8192 < x8_2.size) = false := decide_eq_false (by omega)
                  clear c37
                  have HC40 := Aside0.mk H
                  clear H
                  obtain ⟨Ao41, co41, eo41⟩ := Kd.R_slice HO_5.out
                  subst eo41
                  go_upto_region 25 with (first | (go_at_call 9; (with_reducible refine (lex_Tokens.calls x8_2 t186 t187 t188 _ A36.out).mono ?_); rintro e w42 ⟨v189, rfl, ho0, hb⟩; have n0_ := Aside0.mk (Kd.R_elder' (by (with_reducible repeat (first | apply Kd.R_alloc | apply Kd.R_drewN | apply Kd.R_drew)); exact HO_5.out) (Kd.R_base ho0) hb); have n1_ := Aside0.mk (Kd.R_lower (Kd.R_new' ho0 (Kd.R_lt (by (with_reducible repeat (first | apply Kd.R_alloc | apply Kd.R_drewN | apply Kd.R_drew)); exact HO_5.out))) (below_size (by repeat (first | (with_reducible first | exact HB.out | apply below_alloc | apply pw_below_drewN | apply below_drew1) | exact HB.out)))); have n2_ := Aside0.mk (below_step (by repeat (first | (with_reducible first | exact HB.out | apply below_alloc | apply pw_below_drewN | apply below_drew1) | exact HB.out)) hb); clear HO_5; clear HB; have HO_5 := n0_; have HO190 := n1_; have HB := n2_; clear n0_ n1_ n2_; (try clear hb); (try clear hb2); (try clear hk); (try clear hi); (try clear ho0)))
                  repeat (go_quiet (first | (go_at_call 9; (with_reducible refine (lex_Tokens.calls x8_2 t186 t187 t188 _ A36.out).mono ?_); rintro e w42 ⟨v189, rfl, ho0, hb⟩; have n0_ := Aside0.mk (Kd.R_elder' (by (with_reducible repeat (first | apply Kd.R_alloc | apply Kd.R_drewN | apply Kd.R_drew)); exact HO_5.out) (Kd.R_base ho0) hb); have n1_ := Aside0.mk (Kd.R_lower (Kd.R_new' ho0 (Kd.R_lt (by (with_reducible repeat (first | apply Kd.R_alloc | apply Kd.R_drewN | apply Kd.R_drew)); exact HO_5.out))) (below_size (by repeat (first | (with_reducible first | exact HB.out | apply below_alloc | apply pw_below_drewN | apply below_drew1) | exact HB.out)))); have n2_ := Aside0.mk (below_step (by repeat (first | (with_reducible first | exact HB.out | apply below_alloc | apply pw_below_drewN | apply below_drew1) | exact HB.out)) hb); clear HO_5; clear HB; have HO_5 := n0_; have HO190 := n1_; have HB := n2_; clear n0_ n1_ n2_; (try clear hb); (try clear hb2); (try clear hk); (try clear hi); (try clear ho0))); go_upto_region 25 with (first | (go_at_call 9; (with_reducible refine (lex_Tokens.calls x8_2 t186 t187 t188 _ A36.out).mono ?_); rintro e w42 ⟨v189, rfl, ho0, hb⟩; have n0_ := Aside0.mk (Kd.R_elder' (by (with_reducible repeat (first | apply Kd.R_alloc | apply Kd.R_drewN | apply Kd.R_drew)); exact HO_5.out) (Kd.R_base ho0) hb); have n1_ := Aside0.mk (Kd.R_lower (Kd.R_new' ho0 (Kd.R_lt (by (with_reducible repeat (first | apply Kd.R_alloc | apply Kd.R_drewN | apply Kd.R_drew)); exact HO_5.out))) (below_size (by repeat (first | (with_reducible first | exact HB.out | apply below_alloc | apply pw_below_drewN | apply below_drew1) | exact HB.out)))); have n2_ := Aside0.mk (below_step (by repeat (first | (with_reducible first | exact HB.out | apply below_alloc | apply pw_below_drewN | apply below_drew1) | exact HB.out)) hb); clear HO_5; clear HB; have HO_5 := n0_; have HO190 := n1_; have HB := n2_; clear n0_ n1_ n2_; (try clear hb); (try clear hb2); (try clear hk); (try clear hi); (try clear ho0))))
                  (try simp only [Act.put, List.setIfInBounds_toArray, List.set_cons_zero, List.set_cons_succ])
                  go_cut [86] (fun v86 wc => ∃ (kq : Nat) (x86_39 : Bool), v86 = .bool x86_39 ∧ Aside0 (selvagelaw04_LexBack.j3 kq t176 t186 x86_39 = some r) ∧ Aside0 (kq ≤ k2) ∧ Aside0 (Kd.R k32 32 wc w.heap.size (fun k_ => some k_ ≠ (v189 : Value).ownBlock) (.slice Ao41 t176.length co41) t176) ∧ Aside0 (Kd.R k32 32 wc w.heap.size (fun k_ => some k_ ≠ ((.slice Ao41 t176.length co41) : Value).ownBlock) v189 t186) ∧ Aside0 (Below w.heap.size w wc))
                  case first =>
                    have H := HC40.out
                    clear HC40
                    by_cases c43 : t187 = 0
                    · rw [if_pos c43] at H
                      have c43b0 : (t187 == 0) = true := beq_iff_eq.mpr c43
                      have c43b1 : (t187 != 0) = false := bne_eq_false_iff_eq.mpr c43
                      clear c43
                      (first | rw [c43b0] | (simp only [i64_w, i32_w]; rw [c43b0]) | skip)
                      have H' := Aside0.mk H
                      clear H
                      obtain ⟨Ao44, co44, eo44⟩ := Kd.R_slice HO190.out
                      subst eo44
                      go_wp2
                      repeat (go_quiet (fail); try go_wp2)
                      go_meet
                      case rel => exact ⟨_, (((t186.length : Int) != (t176.length : Int))), (by first | rfl | (simp; done) | (simp [*]; done)), H', ⟨by have := HJ5.out; have := HK2.out; first | omega | exact Nat.le_refl _⟩, ⟨by (with_reducible repeat (first | apply Kd.R_alloc | apply Kd.R_drewN | apply Kd.R_drew)); exact Kd.R_mono HO_5.out (fun _ hk => hk.2)⟩, ⟨by (with_reducible repeat (first | apply Kd.R_alloc | apply Kd.R_drewN | apply Kd.R_drew)); exact Kd.R_mono HO190.out (fun _ hk => hk.2)⟩, ⟨by repeat (first | (with_reducible first | exact HB.out | apply below_alloc | apply pw_below_drewN | apply below_drew1) | exact HB.out)⟩⟩
                    · rw [if_neg c43] at H
                      have c43b0 : (t187 == 0) = false := beq_eq_false_iff_ne.mpr c43
                      have c43b1 : (t187 != 0) = true := bne_iff_ne.mpr c43
                      (first | rw [c43b0] | (simp only [i64_w, i32_w]; rw [c43b0]) | skip)
                      have H' := Aside0.mk H
                      clear H
                      go_wp2
                      repeat (go_quiet (fail); try go_wp2)
                      go_meet
                      case rel => exact ⟨_, (true), (by first | rfl | (simp; done) | (simp [*]; done)), H', ⟨by have := HJ5.out; have := HK2.out; first | omega | exact Nat.le_refl _⟩, ⟨by (with_reducible repeat (first | apply Kd.R_alloc | apply Kd.R_drewN | apply Kd.R_drew)); exact Kd.R_mono HO_5.out (fun _ hk => hk.2)⟩, ⟨by (with_reducible repeat (first | apply Kd.R_alloc | apply Kd.R_drewN | apply Kd.R_drew)); exact Kd.R_mono HO190.out (fun _ hk => hk.2)⟩, ⟨by repeat (first | (with_reducible first | exact HB.out | apply below_alloc | apply pw_below_drewN | apply below_drew1) | exact HB.out)⟩⟩
                  case rest =>
                    clear HC40
                    try clear c1
                    try clear p1
                    try clear q1
                    try clear hx1
                    try clear c2
                    try clear p2
                    try clear c3
                    try clear c4
                    try clear c5
                    try clear p6
                    try clear c9
                    try clear c9b0
                    try clear c9b1
                    try clear c11
                    try clear c12
                    try clear c12b0
                    try clear c15
                    try clear c15b0
                    try clear c16
                    try clear c16b0
                    try clear c17
                    try clear c17b0
                    try clear c17b1
                    try clear c18
                    try clear c18b0
                    try clear c18b1
                    try clear c18b2
                    try clear p18
                    try clear q18
                    try clear hx18
                    try clear c19
                    try clear c19b0
                    try clear c20
                    try clear c20b0
                    try clear c21
                    try clear c21b0
                    try clear c21b1
                    try clear c21b2
                    try clear c22
                    try clear c22b0
                    try clear c22b1
                    try clear c23
                    try clear c23b0
                    try clear c23b1
                    try clear c23b2
                    try clear c24
                    try clear c24b0
                    try clear c25
                    try clear c25b0
                    try clear c26
                    try clear c26b0
                    try clear c26b1
                    try clear c26b2
                    try clear c27
                    try clear c27b0
                    try clear c27b1
                    try clear c28
                    try clear c28b0
                    try clear c28b1
                    try clear c28b2
                    try clear c29
                    try clear c29b0
                    try clear c30
                    try clear c30b0
                    try clear c31
                    try clear c31b0
                    try clear c31b1
                    try clear c31b2
                    try clear c32
                    try clear c32b0
                    try clear c32b1
                    try clear c32b2
                    try clear c33
                    try clear c33b0
                    try clear c34
                    try clear c34b0
                    try clear c35
                    try clear c35b0
                    try clear c35b1
                    try clear c35b2
                    try clear c37
                    try clear c37b0
                    try clear c37b1
                    try clear c43
                    try clear c43b0
                    try clear c43b1
                    try clear hx181_0
                    try clear hx182_0
                    try clear hx182_1
                    try clear hx182_2
                    try clear hx182_3
                    try clear hx183_0
                    try clear hx183_1
                    try clear hx183_2
                    try clear hx183_3
                    try clear hx184_0
                    try clear hx184_1
                    try clear hx184_2
                    try clear hx184_3
                    try clear hx185_0
                    try clear hx185_1
                    try clear hx185_2
                    try clear hx185_3
                    try clear p1
                    try clear p181
                    try clear p182
                    try clear p183
                    try clear p184
                    try clear p185
                    try clear p2
                    try clear q1
                    try clear q181
                    try clear q182
                    try clear q183
                    try clear q184
                    try clear q185
                    obtain ⟨kq, x86_39, rfl, HA, HJ39, HO_5, HO_11, HB⟩ := hcut
                    cases kq with
                    | zero => exact absurd HA.out (by simp [selvagelaw04_LexBack.j3])
                    | succ kj39 =>
                      have H := HA.out
                      clear HA
                      simp only [selvagelaw04_LexBack.j3] at H
                      by_cases c45 : x86_39 = true
                      · subst c45
                        have H1 : (some false) = some r := by rw [if_pos rfl] at H; exact H
                        clear H
                        have H := H1
                        clear H1
                        obtain rfl := Option.some.inj H
                        go_wp2
                        repeat (go_quiet (fail); try go_wp2)
                        go_ret
                        exact ⟨by first | rfl | (simp [errW_none, errW_some] <;> rfl) | (simp [*, errW_none, errW_some] <;> rfl), by repeat (first | (with_reducible first | exact HB.out | apply below_alloc | apply pw_below_drewN | apply below_drew1) | exact HB.out)⟩
                      · replace c45 := Bool.eq_false_iff.mpr c45
                        subst c45
                        have H1 : (selvagelaw04_LexBack.l1 kj39 t176 t186 0) = some r := by rw [if_neg (show ¬ (false = true) by decide)] at H; exact H
                        clear H
                        have H := H1
                        clear H1
                        have H' := Aside0.mk H
                        clear H
                        go_wp2
                        repeat (go_quiet (fail); try go_wp2)
                        go_loopg [14] kj39 (fun kq v14 w' => ∃ (x14_4 : Int), v14 = .int .i64 x14_4 ∧ Aside0 (selvagelaw04_LexBack.l1 kq t176 t186 x14_4 = some r) ∧ Aside0 (kq ≤ kj39) ∧ Aside0 (Kd.R k32 32 w' w.heap.size (fun k_ => some k_ ≠ (v189 : Value).ownBlock) (.slice Ao41 t176.length co41) t176) ∧ Aside0 (Kd.R k32 32 w' w.heap.size (fun k_ => some k_ ≠ ((.slice Ao41 t176.length co41) : Value).ownBlock) v189 t186) ∧ Aside0 (Below w.heap.size w w'))
                        case atStart => exact ⟨(0), (by first | rfl | (simp; done) | (simp [*]; done)), H', ⟨Nat.le_refl _⟩, ⟨by (with_reducible repeat (first | apply Kd.R_alloc | apply Kd.R_drewN | apply Kd.R_drew)); exact HO_5.out⟩, ⟨by (with_reducible repeat (first | apply Kd.R_alloc | apply Kd.R_drewN | apply Kd.R_drew)); exact HO_11.out⟩, ⟨by repeat (first | (with_reducible first | exact HB.out | apply below_alloc | apply pw_below_drewN | apply below_drew1) | exact HB.out)⟩⟩
                        case round =>
                          clear H'
                          try clear c1
                          try clear p1
                          try clear q1
                          try clear hx1
                          try clear c2
                          try clear p2
                          try clear c3
                          try clear c4
                          try clear c5
                          try clear p6
                          try clear c9
                          try clear c9b0
                          try clear c9b1
                          try clear c11
                          try clear c12
                          try clear c12b0
                          try clear c15
                          try clear c15b0
                          try clear c16
                          try clear c16b0
                          try clear c17
                          try clear c17b0
                          try clear c17b1
                          try clear c18
                          try clear c18b0
                          try clear c18b1
                          try clear c18b2
                          try clear p18
                          try clear q18
                          try clear hx18
                          try clear c19
                          try clear c19b0
                          try clear c20
                          try clear c20b0
                          try clear c21
                          try clear c21b0
                          try clear c21b1
                          try clear c21b2
                          try clear c22
                          try clear c22b0
                          try clear c22b1
                          try clear c23
                          try clear c23b0
                          try clear c23b1
                          try clear c23b2
                          try clear c24
                          try clear c24b0
                          try clear c25
                          try clear c25b0
                          try clear c26
                          try clear c26b0
                          try clear c26b1
                          try clear c26b2
                          try clear c27
                          try clear c27b0
                          try clear c27b1
                          try clear c28
                          try clear c28b0
                          try clear c28b1
                          try clear c28b2
                          try clear c29
                          try clear c29b0
                          try clear c30
                          try clear c30b0
                          try clear c31
                          try clear c31b0
                          try clear c31b1
                          try clear c31b2
                          try clear c32
                          try clear c32b0
                          try clear c32b1
                          try clear c32b2
                          try clear c33
                          try clear c33b0
                          try clear c34
                          try clear c34b0
                          try clear c35
                          try clear c35b0
                          try clear c35b1
                          try clear c35b2
                          try clear c37
                          try clear c37b0
                          try clear c37b1
                          try clear c43
                          try clear c43b0
                          try clear c43b1
                          try clear c45
                          try clear hx181_0
                          try clear hx182_0
                          try clear hx182_1
                          try clear hx182_2
                          try clear hx182_3
                          try clear hx183_0
                          try clear hx183_1
                          try clear hx183_2
                          try clear hx183_3
                          try clear hx184_0
                          try clear hx184_1
                          try clear hx184_2
                          try clear hx184_3
                          try clear hx185_0
                          try clear hx185_1
                          try clear hx185_2
                          try clear hx185_3
                          try clear p1
                          try clear p18
                          try clear p181
                          try clear p182
                          try clear p183
                          try clear p184
                          try clear p185
                          try clear p2
                          try clear p6
                          try clear q1
                          try clear q18
                          try clear q181
                          try clear q182
                          try clear q183
                          try clear q184
                          try clear q185
                          obtain ⟨x14_4, rfl, HA, HK4, HO_5, HO_11, HB⟩ := hrel
                          cases gk with
                          | zero => exact absurd HA.out (by simp [selvagelaw04_LexBack.l1])
                          | succ k4 =>
                            have H := HA.out
                            clear HA
                            simp only [selvagelaw04_LexBack.l1] at H
                            by_cases c46 : x14_4 < (t176.length : Int)
                            · rw [if_pos c46] at H
                              have c46b0 : decide (x14_4 < (t176.length : Int)) = true := decide_eq_true c46
                              clear c46
                              by_cases c47 : 0 ≤ x14_4
                              · rw [if_pos c47] at H
                                have c47b0 : decide (0 ≤ x14_4) = true := decide_eq_true c47
                                clear c47
                                by_cases c48 : x14_4 < (t186.length : Int)
                                · rw [if_pos c48] at H
                                  have c48b0 : decide (x14_4 < (t186.length : Int)) = true := decide_eq_true c48
                                  clear c48
                                  by_cases c49 : ((rd_T32 t186 x14_4).f0) = ((rd_T32 t176 x14_4).f0)
                                  · rw [if_pos c49] at H
                                    have c49b0 : (((rd_T32 t186 x14_4).f0) == ((rd_T32 t176 x14_4).f0)) = true := beq_iff_eq.mpr c49
                                    have c49b1 : (((rd_T32 t186 x14_4).f0) != ((rd_T32 t176 x14_4).f0)) = false := bne_eq_false_iff_eq.mpr c49
                                    clear c49
                                    by_cases c50 : ((rd_T32 t186 x14_4).f1).toList = ((rd_T32 t176 x14_4).f1).toList
                                    · rw [if_pos c50] at H
                                      have c50b0 : (((rd_T32 t186 x14_4).f1).toList == ((rd_T32 t176 x14_4).f1).toList) = true := beq_iff_eq.mpr c50
                                      have c50b1 : (((rd_T32 t186 x14_4).f1).toList != ((rd_T32 t176 x14_4).f1).toList) = false := bne_eq_false_iff_eq.mpr c50
                                      clear c50
                                      by_cases c51 : ((rd_T32 t186 x14_4).f2) = ((rd_T32 t176 x14_4).f2)
                                      · rw [if_pos c51] at H
                                        have c51b0 : (((rd_T32 t186 x14_4).f2) == ((rd_T32 t176 x14_4).f2)) = true := beq_iff_eq.mpr c51
                                        have c51b1 : (((rd_T32 t186 x14_4).f2) != ((rd_T32 t176 x14_4).f2)) = false := bne_eq_false_iff_eq.mpr c51
                                        clear c51
                                        have H' := Aside0.mk H
                                        clear H
                                        obtain ⟨Ao52, co52, eo52⟩ := Kd.R_slice HO_11.out
                                        subst eo52
                                        have p191 : 0 ≤ (x14_4 : Int) := of_decide_eq_true (by first | (with_reducible assumption) | assumption)
                                        have q191 : x14_4 < (t186.length : Int) := of_decide_eq_true (by first | (with_reducible assumption) | assumption)
                                        obtain ⟨ad191, e191, hx191_0, hx191_1, hx191_2, hx191_3⟩ := at_T32 (Kd.R_reads' HO_11.out).2.2 x14_4 p191 q191
                                        cases e191
                                        replace p191 := eq_true p191
                                        replace q191 := eq_true q191
                                        have p192 : 0 ≤ (x14_4 : Int) := of_decide_eq_true (by first | (with_reducible assumption) | assumption)
                                        have q192 : x14_4 < (t176.length : Int) := of_decide_eq_true (by first | (with_reducible assumption) | assumption)
                                        obtain ⟨ad192, e192, hx192_0, hx192_1, hx192_2, hx192_3⟩ := at_T32 (Kd.R_reads' HO_5.out).2.2 x14_4 p192 q192
                                        cases e192
                                        replace p192 := eq_true p192
                                        replace q192 := eq_true q192
                                        have p193 : 0 ≤ (x14_4 : Int) := of_decide_eq_true (by first | (with_reducible assumption) | assumption)
                                        have q193 : x14_4 < (t186.length : Int) := of_decide_eq_true (by first | (with_reducible assumption) | assumption)
                                        obtain ⟨ad193, e193, hx193_0, hx193_1, hx193_2, hx193_3⟩ := at_T32 (Kd.R_reads' HO_11.out).2.2 x14_4 p193 q193
                                        obtain rfl : ad191 = ad193 := (by injection e193)
                                        replace p193 := eq_true p193
                                        replace q193 := eq_true q193
                                        have p194 : 0 ≤ (x14_4 : Int) := of_decide_eq_true (by first | (with_reducible assumption) | assumption)
                                        have q194 : x14_4 < (t176.length : Int) := of_decide_eq_true (by first | (with_reducible assumption) | assumption)
                                        obtain ⟨ad194, e194, hx194_0, hx194_1, hx194_2, hx194_3⟩ := at_T32 (Kd.R_reads' HO_5.out).2.2 x14_4 p194 q194
                                        obtain rfl : ad192 = ad194 := (by injection e194)
                                        replace p194 := eq_true p194
                                        replace q194 := eq_true q194
                                        have p195 : 0 ≤ (x14_4 : Int) := of_decide_eq_true (by first | (with_reducible assumption) | assumption)
                                        have q195 : x14_4 < (t186.length : Int) := of_decide_eq_true (by first | (with_reducible assumption) | assumption)
                                        obtain ⟨ad195, e195, hx195_0, hx195_1, hx195_2, hx195_3⟩ := at_T32 (Kd.R_reads' HO_11.out).2.2 x14_4 p195 q195
                                        obtain rfl : ad191 = ad195 := (by injection e195)
                                        replace p195 := eq_true p195
                                        replace q195 := eq_true q195
                                        have p196 : 0 ≤ (x14_4 : Int) := of_decide_eq_true (by first | (with_reducible assumption) | assumption)
                                        have q196 : x14_4 < (t176.length : Int) := of_decide_eq_true (by first | (with_reducible assumption) | assumption)
                                        obtain ⟨ad196, e196, hx196_0, hx196_1, hx196_2, hx196_3⟩ := at_T32 (Kd.R_reads' HO_5.out).2.2 x14_4 p196 q196
                                        obtain rfl : ad192 = ad196 := (by injection e196)
                                        replace p196 := eq_true p196
                                        replace q196 := eq_true q196
                                        go_wp2
                                        repeat (go_quiet (fail); try go_wp2)
                                        go_roundg k4
                                        case measure => have := HJ5.out; have := HK2.out; have := HJ39.out; have := HK4.out; omega
                                        case rel => exact ⟨(wrap64 (x14_4 + 1)), (by first | rfl | (simp; done) | (simp [*]; done)), H', ⟨by have := HJ5.out; have := HK2.out; have := HJ39.out; have := HK4.out; omega⟩, ⟨by (with_reducible repeat (first | apply Kd.R_alloc | apply Kd.R_drewN | apply Kd.R_drew)); exact HO_5.out⟩, ⟨by (with_reducible repeat (first | apply Kd.R_alloc | apply Kd.R_drewN | apply Kd.R_drew)); exact HO_11.out⟩, ⟨by repeat (first | (with_reducible first | exact HB.out | apply below_alloc | apply pw_below_drewN | apply below_drew1) | exact HB.out)⟩⟩
                                      · rw [if_neg c51] at H
                                        have c51b0 : (((rd_T32 t186 x14_4).f2) == ((rd_T32 t176 x14_4).f2)) = false := beq_eq_false_iff_ne.mpr c51
                                        have c51b1 : (((rd_T32 t186 x14_4).f2) != ((rd_T32 t176 x14_4).f2)) = true := bne_iff_ne.mpr c51
                                        obtain rfl := Option.some.inj H
                                        obtain ⟨Ao53, co53, eo53⟩ := Kd.R_slice HO_11.out
                                        subst eo53
                                        have p191 : 0 ≤ (x14_4 : Int) := of_decide_eq_true (by first | (with_reducible assumption) | assumption)
                                        have q191 : x14_4 < (t186.length : Int) := of_decide_eq_true (by first | (with_reducible assumption) | assumption)
                                        obtain ⟨ad191, e191, hx191_0, hx191_1, hx191_2, hx191_3⟩ := at_T32 (Kd.R_reads' HO_11.out).2.2 x14_4 p191 q191
                                        cases e191
                                        replace p191 := eq_true p191
                                        replace q191 := eq_true q191
                                        have p192 : 0 ≤ (x14_4 : Int) := of_decide_eq_true (by first | (with_reducible assumption) | assumption)
                                        have q192 : x14_4 < (t176.length : Int) := of_decide_eq_true (by first | (with_reducible assumption) | assumption)
                                        obtain ⟨ad192, e192, hx192_0, hx192_1, hx192_2, hx192_3⟩ := at_T32 (Kd.R_reads' HO_5.out).2.2 x14_4 p192 q192
                                        cases e192
                                        replace p192 := eq_true p192
                                        replace q192 := eq_true q192
                                        have p193 : 0 ≤ (x14_4 : Int) := of_decide_eq_true (by first | (with_reducible assumption) | assumption)
                                        have q193 : x14_4 < (t186.length : Int) := of_decide_eq_true (by first | (with_reducible assumption) | assumption)
                                        obtain ⟨ad193, e193, hx193_0, hx193_1, hx193_2, hx193_3⟩ := at_T32 (Kd.R_reads' HO_11.out).2.2 x14_4 p193 q193
                                        obtain rfl : ad191 = ad193 := (by injection e193)
                                        replace p193 := eq_true p193
                                        replace q193 := eq_true q193
                                        have p194 : 0 ≤ (x14_4 : Int) := of_decide_eq_true (by first | (with_reducible assumption) | assumption)
                                        have q194 : x14_4 < (t176.length : Int) := of_decide_eq_true (by first | (with_reducible assumption) | assumption)
                                        obtain ⟨ad194, e194, hx194_0, hx194_1, hx194_2, hx194_3⟩ := at_T32 (Kd.R_reads' HO_5.out).2.2 x14_4 p194 q194
                                        obtain rfl : ad192 = ad194 := (by injection e194)
                                        replace p194 := eq_true p194
                                        replace q194 := eq_true q194
                                        have p195 : 0 ≤ (x14_4 : Int) := of_decide_eq_true (by first | (with_reducible assumption) | assumption)
                                        have q195 : x14_4 < (t186.length : Int) := of_decide_eq_true (by first | (with_reducible assumption) | assumption)
                                        obtain ⟨ad195, e195, hx195_0, hx195_1, hx195_2, hx195_3⟩ := at_T32 (Kd.R_reads' HO_11.out).2.2 x14_4 p195 q195
                                        obtain rfl : ad191 = ad195 := (by injection e195)
                                        replace p195 := eq_true p195
                                        replace q195 := eq_true q195
                                        have p196 : 0 ≤ (x14_4 : Int) := of_decide_eq_true (by first | (with_reducible assumption) | assumption)
                                        have q196 : x14_4 < (t176.length : Int) := of_decide_eq_true (by first | (with_reducible assumption) | assumption)
                                        obtain ⟨ad196, e196, hx196_0, hx196_1, hx196_2, hx196_3⟩ := at_T32 (Kd.R_reads' HO_5.out).2.2 x14_4 p196 q196
                                        obtain rfl : ad192 = ad196 := (by injection e196)
                                        replace p196 := eq_true p196
                                        replace q196 := eq_true q196
                                        go_wp2
                                        repeat (go_quiet (fail); try go_wp2)
                                        go_ret
                                        exact ⟨by first | rfl | (simp [errW_none, errW_some] <;> rfl) | (simp [*, errW_none, errW_some] <;> rfl), by repeat (first | (with_reducible first | exact HB.out | apply below_alloc | apply pw_below_drewN | apply below_drew1) | exact HB.out)⟩
                                    · rw [if_neg c50] at H
                                      have c50b0 : (((rd_T32 t186 x14_4).f1).toList == ((rd_T32 t176 x14_4).f1).toList) = false := beq_eq_false_iff_ne.mpr c50
                                      have c50b1 : (((rd_T32 t186 x14_4).f1).toList != ((rd_T32 t176 x14_4).f1).toList) = true := bne_iff_ne.mpr c50
                                      obtain rfl := Option.some.inj H
                                      obtain ⟨Ao54, co54, eo54⟩ := Kd.R_slice HO_11.out
                                      subst eo54
                                      have p191 : 0 ≤ (x14_4 : Int) := of_decide_eq_true (by first | (with_reducible assumption) | assumption)
                                      have q191 : x14_4 < (t186.length : Int) := of_decide_eq_true (by first | (with_reducible assumption) | assumption)
                                      obtain ⟨ad191, e191, hx191_0, hx191_1, hx191_2, hx191_3⟩ := at_T32 (Kd.R_reads' HO_11.out).2.2 x14_4 p191 q191
                                      cases e191
                                      replace p191 := eq_true p191
                                      replace q191 := eq_true q191
                                      have p192 : 0 ≤ (x14_4 : Int) := of_decide_eq_true (by first | (with_reducible assumption) | assumption)
                                      have q192 : x14_4 < (t176.length : Int) := of_decide_eq_true (by first | (with_reducible assumption) | assumption)
                                      obtain ⟨ad192, e192, hx192_0, hx192_1, hx192_2, hx192_3⟩ := at_T32 (Kd.R_reads' HO_5.out).2.2 x14_4 p192 q192
                                      cases e192
                                      replace p192 := eq_true p192
                                      replace q192 := eq_true q192
                                      have p193 : 0 ≤ (x14_4 : Int) := of_decide_eq_true (by first | (with_reducible assumption) | assumption)
                                      have q193 : x14_4 < (t186.length : Int) := of_decide_eq_true (by first | (with_reducible assumption) | assumption)
                                      obtain ⟨ad193, e193, hx193_0, hx193_1, hx193_2, hx193_3⟩ := at_T32 (Kd.R_reads' HO_11.out).2.2 x14_4 p193 q193
                                      obtain rfl : ad191 = ad193 := (by injection e193)
                                      replace p193 := eq_true p193
                                      replace q193 := eq_true q193
                                      have p194 : 0 ≤ (x14_4 : Int) := of_decide_eq_true (by first | (with_reducible assumption) | assumption)
                                      have q194 : x14_4 < (t176.length : Int) := of_decide_eq_true (by first | (with_reducible assumption) | assumption)
                                      obtain ⟨ad194, e194, hx194_0, hx194_1, hx194_2, hx194_3⟩ := at_T32 (Kd.R_reads' HO_5.out).2.2 x14_4 p194 q194
                                      obtain rfl : ad192 = ad194 := (by injection e194)
                                      replace p194 := eq_true p194
                                      replace q194 := eq_true q194
                                      go_wp2
                                      repeat (go_quiet (fail); try go_wp2)
                                      go_ret
                                      exact ⟨by first | rfl | (simp [errW_none, errW_some] <;> rfl) | (simp [*, errW_none, errW_some] <;> rfl), by repeat (first | (with_reducible first | exact HB.out | apply below_alloc | apply pw_below_drewN | apply below_drew1) | exact HB.out)⟩
                                  · rw [if_neg c49] at H
                                    have c49b0 : (((rd_T32 t186 x14_4).f0) == ((rd_T32 t176 x14_4).f0)) = false := beq_eq_false_iff_ne.mpr c49
                                    have c49b1 : (((rd_T32 t186 x14_4).f0) != ((rd_T32 t176 x14_4).f0)) = true := bne_iff_ne.mpr c49
                                    obtain rfl := Option.some.inj H
                                    obtain ⟨Ao55, co55, eo55⟩ := Kd.R_slice HO_11.out
                                    subst eo55
                                    have p191 : 0 ≤ (x14_4 : Int) := of_decide_eq_true (by first | (with_reducible assumption) | assumption)
                                    have q191 : x14_4 < (t186.length : Int) := of_decide_eq_true (by first | (with_reducible assumption) | assumption)
                                    obtain ⟨ad191, e191, hx191_0, hx191_1, hx191_2, hx191_3⟩ := at_T32 (Kd.R_reads' HO_11.out).2.2 x14_4 p191 q191
                                    cases e191
                                    replace p191 := eq_true p191
                                    replace q191 := eq_true q191
                                    have p192 : 0 ≤ (x14_4 : Int) := of_decide_eq_true (by first | (with_reducible assumption) | assumption)
                                    have q192 : x14_4 < (t176.length : Int) := of_decide_eq_true (by first | (with_reducible assumption) | assumption)
                                    obtain ⟨ad192, e192, hx192_0, hx192_1, hx192_2, hx192_3⟩ := at_T32 (Kd.R_reads' HO_5.out).2.2 x14_4 p192 q192
                                    cases e192
                                    replace p192 := eq_true p192
                                    replace q192 := eq_true q192
                                    go_wp2
                                    repeat (go_quiet (fail); try go_wp2)
                                    go_ret
                                    exact ⟨by first | rfl | (simp [errW_none, errW_some] <;> rfl) | (simp [*, errW_none, errW_some] <;> rfl), by repeat (first | (with_reducible first | exact HB.out | apply below_alloc | apply pw_below_drewN | apply below_drew1) | exact HB.out)⟩
                                · rw [if_neg c48] at H
                                  exact absurd H (by simp)
                              · rw [if_neg c47] at H
                                exact absurd H (by simp)
                            · rw [if_neg c46] at H
                              have c46b0 : decide (x14_4 < (t176.length : Int)) = false := decide_eq_false c46
                              clear c46
                              obtain rfl := Option.some.inj H
                              go_wp2
                              repeat (go_quiet (fail); try go_wp2)
                              go_ret
                              exact ⟨by first | rfl | (simp [errW_none, errW_some] <;> rfl) | (simp [*, errW_none, errW_some] <;> rfl), by repeat (first | (with_reducible first | exact HB.out | apply below_alloc | apply pw_below_drewN | apply below_drew1) | exact HB.out)⟩
  · replace c4 := Bool.eq_false_iff.mpr c4
    subst c4
    have H1 : (some false) = some r := by rw [if_neg (show ¬ (false = true) by decide)] at H; exact H
    clear H
    have H := H1
    clear H1
    obtain rfl := Option.some.inj H
    go_enter Try.func5, Try.ntmps5
    go_wp2_with (first | (go_at_call 8; (with_reducible refine (selvagelaw04_awake.calls k  false _ A3.out).mono ?_); rintro e w56 ⟨rfl, hb⟩; have n0_ := Aside0.mk (below_step (by repeat (first | (with_reducible first | exact HB.out | apply below_alloc | apply pw_below_drewN | apply below_drew1) | exact HB.out)) hb); clear HB; have HB := n0_; clear n0_; (try clear hb); (try clear hb2); (try clear hk); (try clear hi)))
    repeat (go_quiet (first | (go_at_call 8; (with_reducible refine (selvagelaw04_awake.calls k  false _ A3.out).mono ?_); rintro e w56 ⟨rfl, hb⟩; have n0_ := Aside0.mk (below_step (by repeat (first | (with_reducible first | exact HB.out | apply below_alloc | apply pw_below_drewN | apply below_drew1) | exact HB.out)) hb); clear HB; have HB := n0_; clear n0_; (try clear hb); (try clear hb2); (try clear hk); (try clear hi))); try go_wp2_with (first | (go_at_call 8; (with_reducible refine (selvagelaw04_awake.calls k  false _ A3.out).mono ?_); rintro e w56 ⟨rfl, hb⟩; have n0_ := Aside0.mk (below_step (by repeat (first | (with_reducible first | exact HB.out | apply below_alloc | apply pw_below_drewN | apply below_drew1) | exact HB.out)) hb); clear HB; have HB := n0_; clear n0_; (try clear hb); (try clear hb2); (try clear hk); (try clear hi))))
    go_ret
    exact ⟨by first | rfl | (simp [errW_none, errW_some] <;> rfl) | (simp [*, errW_none, errW_some] <;> rfl), by repeat (first | (with_reducible first | exact HB.out | apply below_alloc | apply pw_below_drewN | apply below_drew1) | exact HB.out)⟩

/-- THE ONE PURE STATEMENT of selvagelaw04_LexBack: yours. -/
def selvagelaw04_LexBack.Pure : Prop := ∀ (a0 : ByteArray) (l1 : List Int), a0.size ≤ 140737488351232 → l1.length ≤ maxLen → l1.length * 1 ≤ 140737488351232 → (∀ x ∈ l1, (Lit.int .u8 x).wf = true) → ∃ k, selvagelaw04_LexBack.f k a0 l1 = some true
theorem selvagelaw04_LexBack.walk (P : selvagelaw04_LexBack.Pure) (a0 : ByteArray) (a1 : Option Addr) (len1 cap1 : Nat) (z1 : List Int) (w : World) (w0 : a0.size ≤ 140737488351232) (w1 : (a1 = none ∧ len1 = 0 ∧ cap1 = 0 ∧ z1 = []) ∨ ∃ x, a1 = some x ∧ len1 ≤ cap1 ∧ cap1 ≤ maxLen ∧ z1.length = cap1 ∧ (∀ i, i < z1.length → w.cell? (x.add i) = some (.int .u8 (z1.getD i 0))) ∧ ∀ n ∈ z1, (Lit.int .u8 n).wf = true) (y1 : len1 * 1 ≤ 140737488351232) :
    Calls Try.prog 5 #[.string a0, .slice a1 len1 cap1] w fun e w' => e = .returned (.bool true) ∧ Below w.heap.size w w' := by
  obtain ⟨l1, rfl, hr1, hm1, hw1, hc1⟩ := ReadsInt.ofRowC w1
  obtain ⟨k, h⟩ := P a0 l1 w0 hm1 y1 hw1
  refine (selvagelaw04_LexBack.calls k a0 _ _ l1 true w (Kd.C_of_reads (d := (0 : Int)) (h1 := fun _ => rfl) hr1) hc1 h).mono ?_
  rintro e w' ⟨rfl, hd⟩
  exact ⟨rfl, hd⟩

end Go.Proofs.Ytepofemoodaknaa.Q
