/- Several of my texts in one: Qx46, Qx47. -/
import Derived.Test.YtdmbnlpcfgphpaaQx0
import Derived.Test.YtdmbnlpcfgphpaaQx18
import Derived.Test.YtdmbnlpcfgphpaaSmQk
namespace Go.Proofs.Ytdmbnlpcfgphpaa.Q
open Go.RowKit Go.Proofs.YtdmbnlpcfgphpaaW.PrintWords Go.Proofs.YtdmbnlpcfgphpaaW.PrintLast Go.Proofs.YtdmbnlpcfgphpaaW.PrintMore
attribute [local go_sem] max2_int min2_int max_two min_two max_three min_three max_four min_four   -- for this text's walks alone
set_option linter.unusedVariables false
set_option linter.unusedSimpArgs false

/-! ### selvageref13_Meant: function 45 -/
mutual
def selvageref13_Meant.l0 : Nat → List (S40) → Int → Int → Option (Int)
  | 0, _, _, _ => none
  | k + 1, x0, x1, x5 => if x5 < (x0.length : Int) then (if 0 ≤ x5 then ((selvageref10_Has.f k ((rd_T40 x0 x5).f0) 100).bind fun t279 => (if t279 = true then (if ((rd_T40 x0 x5).f1) = x1 then ((selvageref13_Spare.f k x0 x5).bind fun t281 => (selvageref13_Meant.j1 k x0 x1 x5 t281)) else (selvageref13_Meant.j1 k x0 x1 x5 false)) else (selvageref13_Meant.j1 k x0 x1 x5 false))) else (none)) else (some x1)
def selvageref13_Meant.j1 : Nat → List (S40) → Int → Int → Bool → Option (Int)
  | 0, _, _, _, _ => none
  | k + 1, x0, x1, x5, x31 => if x31 = true then (if 0 ≤ x5 then (if x5 < (x0.length : Int) then ((selvageref13_Known.f k x0 x5 ((rd_T40 x0 x5).f4)).bind fun t283 => ((selvageref13_Meant.f k x0 t283).bind fun t284 => (some t284))) else (none)) else (none)) else (selvageref13_Meant.l0 k x0 x1 (wrap64 (x5 + 1)))
def selvageref13_Meant.f : Nat → List (S40) → Int → Option (Int)
  | 0, _, _ => none
  | k + 1, l0, a1 => selvageref13_Meant.l0 k l0 a1 0
end
theorem selvageref13_Meant.mono_l : ∀ k, (∀ y0 y1, LeO (selvageref13_Meant.f k y0 y1) (selvageref13_Meant.f (k + 1) y0 y1)) ∧ (∀ y0 y1 y2, LeO (selvageref13_Meant.l0 k y0 y1 y2) (selvageref13_Meant.l0 (k + 1) y0 y1 y2)) ∧ (∀ y0 y1 y2 y3, LeO (selvageref13_Meant.j1 k y0 y1 y2 y3) (selvageref13_Meant.j1 (k + 1) y0 y1 y2 y3))
  | 0 => ⟨fun _ _ r h => by simp [selvageref13_Meant.f] at h, fun _ _ _ r h => by simp [selvageref13_Meant.l0] at h, fun _ _ _ _ r h => by simp [selvageref13_Meant.j1] at h⟩
  | k + 1 => by
    obtain ⟨ih0, ih1, ih2⟩ := selvageref13_Meant.mono_l k
    refine ⟨?_, ?_, ?_⟩
    · intro y0 y1
      unfold selvageref13_Meant.f
      repeat' first
      | (with_reducible exact ih0 _ _)
      | (with_reducible exact ih1 _ _ _)
      | (with_reducible exact ih2 _ _ _ _)
      | (with_reducible exact selvageref10_Has.mono _ _ _)
      | (with_reducible exact selvageref13_Known.mono _ _ _ _)
      | (with_reducible exact selvageref13_Spare.mono _ _ _)
      | (with_reducible exact LeO.refl _)
      | (with_reducible exact LeO.none _)
      | (with_reducible refine LeO.ite ?_ ?_)
      | (with_reducible refine LeO.bind ?_ (fun _ => ?_))
      | exact ih0 _ _
      | exact ih1 _ _ _
      | exact ih2 _ _ _ _
      | exact selvageref10_Has.mono _ _ _
      | exact selvageref13_Known.mono _ _ _ _
      | exact selvageref13_Spare.mono _ _ _
      | exact LeO.none _
      | refine LeO.ite ?_ ?_
      | refine LeO.bind ?_ (fun _ => ?_)
    · intro y0 y1 y2
      unfold selvageref13_Meant.l0
      repeat' first
      | (with_reducible exact ih0 _ _)
      | (with_reducible exact ih1 _ _ _)
      | (with_reducible exact ih2 _ _ _ _)
      | (with_reducible exact selvageref10_Has.mono _ _ _)
      | (with_reducible exact selvageref13_Known.mono _ _ _ _)
      | (with_reducible exact selvageref13_Spare.mono _ _ _)
      | (with_reducible exact LeO.refl _)
      | (with_reducible exact LeO.none _)
      | (with_reducible refine LeO.ite ?_ ?_)
      | (with_reducible refine LeO.bind ?_ (fun _ => ?_))
      | exact ih0 _ _
      | exact ih1 _ _ _
      | exact ih2 _ _ _ _
      | exact selvageref10_Has.mono _ _ _
      | exact selvageref13_Known.mono _ _ _ _
      | exact selvageref13_Spare.mono _ _ _
      | exact LeO.none _
      | refine LeO.ite ?_ ?_
      | refine LeO.bind ?_ (fun _ => ?_)
    · intro y0 y1 y2 y3
      unfold selvageref13_Meant.j1
      repeat' first
      | (with_reducible exact ih0 _ _)
      | (with_reducible exact ih1 _ _ _)
      | (with_reducible exact ih2 _ _ _ _)
      | (with_reducible exact selvageref10_Has.mono _ _ _)
      | (with_reducible exact selvageref13_Known.mono _ _ _ _)
      | (with_reducible exact selvageref13_Spare.mono _ _ _)
      | (with_reducible exact LeO.refl _)
      | (with_reducible exact LeO.none _)
      | (with_reducible refine LeO.ite ?_ ?_)
      | (with_reducible refine LeO.bind ?_ (fun _ => ?_))
      | exact ih0 _ _
      | exact ih1 _ _ _
      | exact ih2 _ _ _ _
      | exact selvageref10_Has.mono _ _ _
      | exact selvageref13_Known.mono _ _ _ _
      | exact selvageref13_Spare.mono _ _ _
      | exact LeO.none _
      | refine LeO.ite ?_ ?_
      | refine LeO.bind ?_ (fun _ => ?_)
theorem selvageref13_Meant.mono : ∀ a0 a1 k, LeO (selvageref13_Meant.f k a0 a1) (selvageref13_Meant.f (k + 1) a0 a1) := by
  intro a0 a1 k
  obtain ⟨ih0, ih1, ih2⟩ := selvageref13_Meant.mono_l k
  exact ih0 a0 a1
set_option maxHeartbeats 8000000 in
set_option maxRecDepth 100000 in
theorem selvageref13_Meant.calls (k : Nat) : ∀ (A0 : Option Addr) (c0 : Nat) (l0 : List (S40)) (a1 : Int) (r : Int) (w : World) (hr0 : Kd.C k40 w A0 l0.length l0) (hc0 : l0.length ≤ c0) (h : selvageref13_Meant.f k l0 a1 = some r),
    Calls Try.prog 45 #[.slice A0 l0.length c0, .int .i64 a1] w fun e w' => e = .returned (.int .i64 r) ∧ Below w.heap.size w w' := by
  induction k using Nat.strongRecOn with
  | _ k ih =>
  intro A0 c0 l0 a1 r w hr0 hc0 h
  cases k with
  | zero => exact absurd h (by simp [selvageref13_Meant.f])
  | succ k =>
  simp only [selvageref13_Meant.f] at h
  have HR0 := Aside0.mk hr0
  have HC0 := Aside0.mk hc0
  clear hr0 hc0
  have HB := Aside0.mk (Below.refl w.heap.size w)
  have H : (selvageref13_Meant.l0 k l0 a1 0) = some r := h
  clear h
  have H' := Aside0.mk H
  clear H
  go_enter Try.func45, Try.ntmps45
  go_wp2
  go_loopg [5] k (fun kq v5 w' => ∃ (x5_1 : Int), v5 = .int .i64 x5_1 ∧ Aside0 (selvageref13_Meant.l0 kq l0 a1 x5_1 = some r) ∧ Aside0 (kq ≤ k) ∧ Aside0 (Below w.heap.size w w'))
  case atStart => exact ⟨(0), (by first | rfl | (simp; done) | (simp [*]; done)), H', ⟨Nat.le_refl _⟩, ⟨by repeat (first | (with_reducible first | exact HB.out | apply below_alloc | apply pw_below_drewN | apply below_drew1) | exact HB.out)⟩⟩
  case round =>
    clear H'
    try clear p2
    obtain ⟨x5_1, rfl, HA, HK1, HB⟩ := hrel
    cases gk with
    | zero => exact absurd HA.out (by simp [selvageref13_Meant.l0])
    | succ k1 =>
      have H := HA.out
      clear HA
      simp only [selvageref13_Meant.l0] at H
      by_cases c3 : x5_1 < (l0.length : Int)
      · rw [if_pos c3] at H
        have c3b0 : decide (x5_1 < (l0.length : Int)) = true := decide_eq_true c3
        clear c3
        have HC4 := Aside0.mk H
        clear H
        go_upto_region 4 with (fail)
        go_cut [31] (fun v31 wc => ∃ (kq : Nat) (x31_3 : Bool), v31 = .bool x31_3 ∧ Aside0 (selvageref13_Meant.j1 kq l0 a1 x5_1 x31_3 = some r) ∧ Aside0 (kq ≤ k1) ∧ Aside0 (Below w.heap.size w wc))
        case first =>
          have H := HC4.out
          clear HC4
          by_cases c5 : 0 ≤ x5_1
          · rw [if_pos c5] at H
            have c5b0 : decide (0 ≤ x5_1) = true := decide_eq_true c5
            clear c5
            (first | rw [c5b0] | (simp only [i64_w, i32_w]; rw [c5b0]) | skip)
            replace H := Option.bind_eq_some_iff.mp H
            obtain ⟨t279, A60, H⟩ := H
            replace H : (if t279 = true then (if ((rd_T40 l0 x5_1).f1) = a1 then ((selvageref13_Spare.f k1 l0 x5_1).bind fun t281 => (selvageref13_Meant.j1 k1 l0 a1 x5_1 t281)) else (selvageref13_Meant.j1 k1 l0 a1 x5_1 false)) else (selvageref13_Meant.j1 k1 l0 a1 x5_1 false)) = some r := H
            have A6 := Aside0.mk A60
            clear A60
            by_cases c7 : t279 = true
            · subst c7
              have H1 : (if ((rd_T40 l0 x5_1).f1) = a1 then ((selvageref13_Spare.f k1 l0 x5_1).bind fun t281 => (selvageref13_Meant.j1 k1 l0 a1 x5_1 t281)) else (selvageref13_Meant.j1 k1 l0 a1 x5_1 false)) = some r := by rw [if_pos rfl] at H; exact H
              clear H
              have H := H1
              clear H1
              by_cases c8 : ((rd_T40 l0 x5_1).f1) = a1
              · rw [if_pos c8] at H
                have c8b0 : (((rd_T40 l0 x5_1).f1) == a1) = true := beq_iff_eq.mpr c8
                have c8b1 : (((rd_T40 l0 x5_1).f1) != a1) = false := bne_eq_false_iff_eq.mpr c8
                clear c8
                replace H := Option.bind_eq_some_iff.mp H
                obtain ⟨t281, A90, H⟩ := H
                replace H : (selvageref13_Meant.j1 k1 l0 a1 x5_1 t281) = some r := H
                have A9 := Aside0.mk A90
                clear A90
                have H' := Aside0.mk H
                clear H
                have p278 : 0 ≤ (x5_1 : Int) := of_decide_eq_true (by first | (with_reducible assumption) | assumption)
                have q278 : x5_1 < (l0.length : Int) := of_decide_eq_true (by first | (with_reducible assumption) | assumption)
                obtain ⟨ad278, e278, hx278_0, hx278_1, hx278_2, hx278_3, hx278_4, hx278_5, hx278_6, hx278_7⟩ := at_T40 HR0.out x5_1 p278 q278
                cases e278
                replace hx278_0 := (HB.out.cell (World.block_lt_of_cell? w _ hx278_0)).trans hx278_0
                replace hx278_1 := (HB.out.cell (World.block_lt_of_cell? w _ hx278_1)).trans hx278_1
                replace hx278_2 := (HB.out.cell (World.block_lt_of_cell? w _ hx278_2)).trans hx278_2
                replace hx278_3 := (HB.out.cell (World.block_lt_of_cell? w _ hx278_3)).trans hx278_3
                replace hx278_4 := (HB.out.cell (World.block_lt_of_cell? w _ hx278_4)).trans hx278_4
                replace hx278_5 := (HB.out.cell (World.block_lt_of_cell? w _ hx278_5)).trans hx278_5
                replace hx278_6 := (HB.out.cell (World.block_lt_of_cell? w _ hx278_6)).trans hx278_6
                replace hx278_7 := (HB.out.cell (World.block_lt_of_cell? w _ hx278_7)).trans hx278_7
                replace p278 := eq_true p278
                replace q278 := eq_true q278
                go_wp2_with (first | ((with_reducible refine gate_callee (f := 20) rfl ?_); refine goesL_ (some 17) rfl rfl Try.func20 (by kernel_rfl) rfl #[.int .i64 ((rd_T40 l0 x5_1).f0), .int .u8 100] rfl (by (try simp only [List.map_toArray, List.map_cons, List.map_nil]); first | done | rfl | (simp only [List.length_drop, List.length_take]; rfl)) ?_; (with_reducible refine (selvageref10_Has.calls k1 ((rd_T40 l0 x5_1).f0) 100 true _ A6.out).mono ?_); rintro e w' ⟨rfl, ⟨nd, rfl⟩⟩; refine ⟨_, rfl, ?_⟩; have p280 : 0 ≤ (x5_1 : Int) := of_decide_eq_true (by first | (with_reducible assumption) | assumption); have q280 : x5_1 < (l0.length : Int) := of_decide_eq_true (by first | (with_reducible assumption) | assumption); obtain ⟨ad280, e280, hx280_0, hx280_1, hx280_2, hx280_3, hx280_4, hx280_5, hx280_6, hx280_7⟩ := at_T40 HR0.out x5_1 p280 q280; obtain rfl : ad278 = ad280 := (by injection e280); replace hx280_0 := (HB.out.cell (World.block_lt_of_cell? w _ hx280_0)).trans hx280_0; replace hx280_1 := (HB.out.cell (World.block_lt_of_cell? w _ hx280_1)).trans hx280_1; replace hx280_2 := (HB.out.cell (World.block_lt_of_cell? w _ hx280_2)).trans hx280_2; replace hx280_3 := (HB.out.cell (World.block_lt_of_cell? w _ hx280_3)).trans hx280_3; replace hx280_4 := (HB.out.cell (World.block_lt_of_cell? w _ hx280_4)).trans hx280_4; replace hx280_5 := (HB.out.cell (World.block_lt_of_cell? w _ hx280_5)).trans hx280_5; replace hx280_6 := (HB.out.cell (World.block_lt_of_cell? w _ hx280_6)).trans hx280_6; replace hx280_7 := (HB.out.cell (World.block_lt_of_cell? w _ hx280_7)).trans hx280_7; replace p280 := eq_true p280; replace q280 := eq_true q280) | (go_at_call 28; (with_reducible refine (selvageref13_Spare.calls k1 _ _ l0 x5_1 t281 _ ?side1 ?side2 A9.out).mono ?_); (case side1 => repeat (first | exact (Kd.C_below HR0.out (by repeat (first | (with_reducible first | exact HB.out | apply below_alloc | apply pw_below_drewN | apply below_drew1) | exact HB.out))) | (with_reducible refine Kd.C_alloc ?_ _) | (with_reducible refine Kd.C_drewN ?_ _) | (with_reducible refine Kd.C_drew ?_))); (case side2 => exact HC0.out); rintro e w10 ⟨rfl, hb⟩; have n0_ := Aside0.mk (below_step (by repeat (first | (with_reducible first | exact HB.out | apply below_alloc | apply pw_below_drewN | apply below_drew1) | exact HB.out)) hb); clear HB; have HB := n0_; clear n0_; (try clear hb); (try clear hb2); (try clear hk); (try clear hi)))
                go_meet
                case rel => exact ⟨_, (t281), (by first | rfl | (simp; done) | (simp [*]; done)), H', ⟨by have := HK1.out; first | omega | exact Nat.le_refl _⟩, ⟨by repeat (first | (with_reducible first | exact HB.out | apply below_alloc | apply pw_below_drewN | apply below_drew1) | exact HB.out)⟩⟩
              · rw [if_neg c8] at H
                have c8b0 : (((rd_T40 l0 x5_1).f1) == a1) = false := beq_eq_false_iff_ne.mpr c8
                have c8b1 : (((rd_T40 l0 x5_1).f1) != a1) = true := bne_iff_ne.mpr c8
                have H' := Aside0.mk H
                clear H
                have p278 : 0 ≤ (x5_1 : Int) := of_decide_eq_true (by first | (with_reducible assumption) | assumption)
                have q278 : x5_1 < (l0.length : Int) := of_decide_eq_true (by first | (with_reducible assumption) | assumption)
                obtain ⟨ad278, e278, hx278_0, hx278_1, hx278_2, hx278_3, hx278_4, hx278_5, hx278_6, hx278_7⟩ := at_T40 HR0.out x5_1 p278 q278
                cases e278
                replace hx278_0 := (HB.out.cell (World.block_lt_of_cell? w _ hx278_0)).trans hx278_0
                replace hx278_1 := (HB.out.cell (World.block_lt_of_cell? w _ hx278_1)).trans hx278_1
                replace hx278_2 := (HB.out.cell (World.block_lt_of_cell? w _ hx278_2)).trans hx278_2
                replace hx278_3 := (HB.out.cell (World.block_lt_of_cell? w _ hx278_3)).trans hx278_3
                replace hx278_4 := (HB.out.cell (World.block_lt_of_cell? w _ hx278_4)).trans hx278_4
                replace hx278_5 := (HB.out.cell (World.block_lt_of_cell? w _ hx278_5)).trans hx278_5
                replace hx278_6 := (HB.out.cell (World.block_lt_of_cell? w _ hx278_6)).trans hx278_6
                replace hx278_7 := (HB.out.cell (World.block_lt_of_cell? w _ hx278_7)).trans hx278_7
                replace p278 := eq_true p278
                replace q278 := eq_true q278
                go_wp2_with (first | ((with_reducible refine gate_callee (f := 20) rfl ?_); refine goesL_ (some 17) rfl rfl Try.func20 (by kernel_rfl) rfl #[.int .i64 ((rd_T40 l0 x5_1).f0), .int .u8 100] rfl (by (try simp only [List.map_toArray, List.map_cons, List.map_nil]); first | done | rfl | (simp only [List.length_drop, List.length_take]; rfl)) ?_; (with_reducible refine (selvageref10_Has.calls k1 ((rd_T40 l0 x5_1).f0) 100 true _ A6.out).mono ?_); rintro e w' ⟨rfl, ⟨nd, rfl⟩⟩; refine ⟨_, rfl, ?_⟩; have p280 : 0 ≤ (x5_1 : Int) := of_decide_eq_true (by first | (with_reducible assumption) | assumption); have q280 : x5_1 < (l0.length : Int) := of_decide_eq_true (by first | (with_reducible assumption) | assumption); obtain ⟨ad280, e280, hx280_0, hx280_1, hx280_2, hx280_3, hx280_4, hx280_5, hx280_6, hx280_7⟩ := at_T40 HR0.out x5_1 p280 q280; obtain rfl : ad278 = ad280 := (by injection e280); replace hx280_0 := (HB.out.cell (World.block_lt_of_cell? w _ hx280_0)).trans hx280_0; replace hx280_1 := (HB.out.cell (World.block_lt_of_cell? w _ hx280_1)).trans hx280_1; replace hx280_2 := (HB.out.cell (World.block_lt_of_cell? w _ hx280_2)).trans hx280_2; replace hx280_3 := (HB.out.cell (World.block_lt_of_cell? w _ hx280_3)).trans hx280_3; replace hx280_4 := (HB.out.cell (World.block_lt_of_cell? w _ hx280_4)).trans hx280_4; replace hx280_5 := (HB.out.cell (World.block_lt_of_cell? w _ hx280_5)).trans hx280_5; replace hx280_6 := (HB.out.cell (World.block_lt_of_cell? w _ hx280_6)).trans hx280_6; replace hx280_7 := (HB.out.cell (World.block_lt_of_cell? w _ hx280_7)).trans hx280_7; replace p280 := eq_true p280; replace q280 := eq_true q280))
                go_meet
                case rel => exact ⟨_, (false), (by first | rfl | (simp; done) | (simp [*]; done)), H', ⟨by have := HK1.out; first | omega | exact Nat.le_refl _⟩, ⟨by repeat (first | (with_reducible first | exact HB.out | apply below_alloc | apply pw_below_drewN | apply below_drew1) | exact HB.out)⟩⟩
            · replace c7 := Bool.eq_false_iff.mpr c7
              subst c7
              have H1 : (selvageref13_Meant.j1 k1 l0 a1 x5_1 false) = some r := by rw [if_neg (show ¬ (false = true) by decide)] at H; exact H
              clear H
              have H := H1
              clear H1
              have H' := Aside0.mk H
              clear H
              have p278 : 0 ≤ (x5_1 : Int) := of_decide_eq_true (by first | (with_reducible assumption) | assumption)
              have q278 : x5_1 < (l0.length : Int) := of_decide_eq_true (by first | (with_reducible assumption) | assumption)
              obtain ⟨ad278, e278, hx278_0, hx278_1, hx278_2, hx278_3, hx278_4, hx278_5, hx278_6, hx278_7⟩ := at_T40 HR0.out x5_1 p278 q278
              cases e278
              replace hx278_0 := (HB.out.cell (World.block_lt_of_cell? w _ hx278_0)).trans hx278_0
              replace hx278_1 := (HB.out.cell (World.block_lt_of_cell? w _ hx278_1)).trans hx278_1
              replace hx278_2 := (HB.out.cell (World.block_lt_of_cell? w _ hx278_2)).trans hx278_2
              replace hx278_3 := (HB.out.cell (World.block_lt_of_cell? w _ hx278_3)).trans hx278_3
              replace hx278_4 := (HB.out.cell (World.block_lt_of_cell? w _ hx278_4)).trans hx278_4
              replace hx278_5 := (HB.out.cell (World.block_lt_of_cell? w _ hx278_5)).trans hx278_5
              replace hx278_6 := (HB.out.cell (World.block_lt_of_cell? w _ hx278_6)).trans hx278_6
              replace hx278_7 := (HB.out.cell (World.block_lt_of_cell? w _ hx278_7)).trans hx278_7
              replace p278 := eq_true p278
              replace q278 := eq_true q278
              go_wp2_with (first | ((with_reducible refine gate_callee (f := 20) rfl ?_); refine goesL_ (some 17) rfl rfl Try.func20 (by kernel_rfl) rfl #[.int .i64 ((rd_T40 l0 x5_1).f0), .int .u8 100] rfl (by (try simp only [List.map_toArray, List.map_cons, List.map_nil]); first | done | rfl | (simp only [List.length_drop, List.length_take]; rfl)) ?_; (with_reducible refine (selvageref10_Has.calls k1 ((rd_T40 l0 x5_1).f0) 100 false _ A6.out).mono ?_); rintro e w' ⟨rfl, ⟨nd, rfl⟩⟩; refine ⟨_, rfl, ?_⟩))
              go_meet
              case rel => exact ⟨_, (false), (by first | rfl | (simp; done) | (simp [*]; done)), H', ⟨by have := HK1.out; first | omega | exact Nat.le_refl _⟩, ⟨by repeat (first | (with_reducible first | exact HB.out | apply below_alloc | apply pw_below_drewN | apply below_drew1) | exact HB.out)⟩⟩
          · rw [if_neg c5] at H
            exact absurd H (by simp)
        case rest =>
          clear HC4
          try clear c2
          try clear p2
          try clear q2
          try clear hx2
          try clear c3
          try clear c3b0
          try clear c4
          try clear c5
          try clear c5b0
          try clear c7
          try clear c8
          try clear c8b0
          try clear c8b1
          try clear hx278_0
          try clear hx278_1
          try clear hx278_2
          try clear hx278_3
          try clear hx278_4
          try clear hx278_5
          try clear hx278_6
          try clear hx278_7
          try clear hx280_0
          try clear hx280_1
          try clear hx280_2
          try clear hx280_3
          try clear hx280_4
          try clear hx280_5
          try clear hx280_6
          try clear hx280_7
          try clear p2
          try clear p278
          try clear p280
          try clear q278
          try clear q280
          obtain ⟨kq, x31_3, rfl, HA, HJ3, HB⟩ := hcut
          cases kq with
          | zero => exact absurd HA.out (by simp [selvageref13_Meant.j1])
          | succ kj3 =>
            have H := HA.out
            clear HA
            simp only [selvageref13_Meant.j1] at H
            by_cases c11 : x31_3 = true
            · subst c11
              have H1 : (if 0 ≤ x5_1 then (if x5_1 < (l0.length : Int) then ((selvageref13_Known.f kj3 l0 x5_1 ((rd_T40 l0 x5_1).f4)).bind fun t283 => ((selvageref13_Meant.f kj3 l0 t283).bind fun t284 => (some t284))) else (none)) else (none)) = some r := by rw [if_pos rfl] at H; exact H
              clear H
              have H := H1
              clear H1
              by_cases c12 : 0 ≤ x5_1
              · rw [if_pos c12] at H
                have c12b0 : decide (0 ≤ x5_1) = true := decide_eq_true c12
                clear c12
                by_cases c13 : x5_1 < (l0.length : Int)
                · rw [if_pos c13] at H
                  have c13b0 : decide (x5_1 < (l0.length : Int)) = true := decide_eq_true c13
                  clear c13
                  replace H := Option.bind_eq_some_iff.mp H
                  obtain ⟨t283, A140, H⟩ := H
                  replace H : ((selvageref13_Meant.f kj3 l0 t283).bind fun t284 => (some t284)) = some r := H
                  have A14 := Aside0.mk A140
                  clear A140
                  replace H := Option.bind_eq_some_iff.mp H
                  obtain ⟨t284, A150, H⟩ := H
                  replace H : (some t284) = some r := H
                  have A15 := Aside0.mk A150
                  clear A150
                  obtain rfl := Option.some.inj H
                  have p282 : 0 ≤ (x5_1 : Int) := of_decide_eq_true (by first | (with_reducible assumption) | assumption)
                  have q282 : x5_1 < (l0.length : Int) := of_decide_eq_true (by first | (with_reducible assumption) | assumption)
                  obtain ⟨ad282, e282, hx282_0, hx282_1, hx282_2, hx282_3, hx282_4, hx282_5, hx282_6, hx282_7⟩ := at_T40 HR0.out x5_1 p282 q282
                  cases e282
                  replace hx282_0 := (HB.out.cell (World.block_lt_of_cell? w _ hx282_0)).trans hx282_0
                  replace hx282_1 := (HB.out.cell (World.block_lt_of_cell? w _ hx282_1)).trans hx282_1
                  replace hx282_2 := (HB.out.cell (World.block_lt_of_cell? w _ hx282_2)).trans hx282_2
                  replace hx282_3 := (HB.out.cell (World.block_lt_of_cell? w _ hx282_3)).trans hx282_3
                  replace hx282_4 := (HB.out.cell (World.block_lt_of_cell? w _ hx282_4)).trans hx282_4
                  replace hx282_5 := (HB.out.cell (World.block_lt_of_cell? w _ hx282_5)).trans hx282_5
                  replace hx282_6 := (HB.out.cell (World.block_lt_of_cell? w _ hx282_6)).trans hx282_6
                  replace hx282_7 := (HB.out.cell (World.block_lt_of_cell? w _ hx282_7)).trans hx282_7
                  replace p282 := eq_true p282
                  replace q282 := eq_true q282
                  go_wp2_with (first | ((with_reducible refine gate_callee (f := 44) rfl ?_); refine goesL_ (some 40) rfl rfl Try.func44 (by kernel_rfl) rfl #[.slice (some ad282) l0.length c0, .int .i64 x5_1, .int .i64 ((rd_T40 l0 x5_1).f4)] rfl (by (try simp only [List.map_toArray, List.map_cons, List.map_nil]); first | done | rfl | (simp only [List.length_drop, List.length_take]; rfl)) ?_; (with_reducible refine (selvageref13_Known.calls kj3 _ _ l0 x5_1 ((rd_T40 l0 x5_1).f4) t283 _ ?side1 ?side2 A14.out).mono ?_); (case side1 => repeat (first | exact (Kd.C_below HR0.out HB.out) | (with_reducible refine Kd.C_alloc ?_ _) | (with_reducible refine Kd.C_drewN ?_ _) | (with_reducible refine Kd.C_drew ?_))); (case side2 => exact HC0.out); rintro e w16 ⟨rfl, hb⟩; refine ⟨_, rfl, ?_⟩; have n0_ := Aside0.mk (below_step (by repeat (first | (with_reducible first | exact HB.out | apply below_alloc | apply pw_below_drewN | apply below_drew1) | exact HB.out)) hb); clear HB; have HB := n0_; clear n0_; (try clear hb); (try clear hb2); (try clear hk); (try clear hi)) | ((with_reducible refine gate_callee (f := 45) rfl ?_); refine goesL_ (some 41) rfl rfl Try.func45 (by kernel_rfl) rfl #[.slice (some ad282) l0.length c0, .int .i64 t283] rfl (by (try simp only [List.map_toArray, List.map_cons, List.map_nil]); first | done | rfl | (simp only [List.length_drop, List.length_take]; rfl)) ?_; (with_reducible refine (ih kj3 (by have := HK1.out; have := HJ3.out; omega) _ _ l0 t283 t284 _ ?side1 ?side2 A15.out).mono ?_); (case side1 => repeat (first | exact (Kd.C_below HR0.out HB.out) | (with_reducible refine Kd.C_alloc ?_ _) | (with_reducible refine Kd.C_drewN ?_ _) | (with_reducible refine Kd.C_drew ?_))); (case side2 => exact HC0.out); rintro e w17 ⟨rfl, hb⟩; refine ⟨_, rfl, ?_⟩; have n0_ := Aside0.mk (below_step (by repeat (first | (with_reducible first | exact HB.out | apply below_alloc | apply pw_below_drewN | apply below_drew1) | exact HB.out)) hb); clear HB; have HB := n0_; clear n0_; (try clear hb); (try clear hb2); (try clear hk); (try clear hi)))
                  go_ret
                  exact ⟨by first | rfl | (simp [errW_none, errW_some] <;> rfl) | (simp [*, errW_none, errW_some] <;> rfl), by repeat (first | (with_reducible first | exact HB.out | apply below_alloc | apply pw_below_drewN | apply below_drew1) | exact HB.out)⟩
                · rw [if_neg c13] at H
                  exact absurd H (by simp)
              · rw [if_neg c12] at H
                exact absurd H (by simp)
            · replace c11 := Bool.eq_false_iff.mpr c11
              subst c11
              have H1 : (selvageref13_Meant.l0 kj3 l0 a1 (wrap64 (x5_1 + 1))) = some r := by rw [if_neg (show ¬ (false = true) by decide)] at H; exact H
              clear H
              have H := H1
              clear H1
              have H' := Aside0.mk H
              clear H
              go_wp2
              go_roundg kj3
              case measure => have := HK1.out; have := HJ3.out; omega
              case rel => exact ⟨(wrap64 (x5_1 + 1)), (by first | rfl | (simp; done) | (simp [*]; done)), H', ⟨by have := HK1.out; have := HJ3.out; omega⟩, ⟨by repeat (first | (with_reducible first | exact HB.out | apply below_alloc | apply pw_below_drewN | apply below_drew1) | exact HB.out)⟩⟩
      · rw [if_neg c3] at H
        have c3b0 : decide (x5_1 < (l0.length : Int)) = false := decide_eq_false c3
        clear c3
        obtain rfl := Option.some.inj H
        go_wp2
        go_ret
        exact ⟨by first | rfl | (simp [errW_none, errW_some] <;> rfl) | (simp [*, errW_none, errW_some] <;> rfl), by repeat (first | (with_reducible first | exact HB.out | apply below_alloc | apply pw_below_drewN | apply below_drew1) | exact HB.out)⟩

end Go.Proofs.Ytdmbnlpcfgphpaa.Q
namespace Go.Proofs.Ytdmbnlpcfgphpaa.Q
open Go.RowKit Go.Proofs.YtdmbnlpcfgphpaaW.PrintWords Go.Proofs.YtdmbnlpcfgphpaaW.PrintLast Go.Proofs.YtdmbnlpcfgphpaaW.PrintMore
attribute [local go_sem] max2_int min2_int max_two min_two max_three min_three max_four min_four   -- for this text's walks alone
set_option linter.unusedVariables false
set_option linter.unusedSimpArgs false

/-! ### selvageref13_Again: function 30 -/
mutual
def selvageref13_Again.l0 : Nat → List (S40) → List (S40) → Int → Option ((List (S40)))
  | 0, _, _, _ => none
  | k + 1, x0, x3, x4 => if x4 < (x0.length : Int) then ((selvageref13_Spare.f k x0 x4).bind fun t285 => (if t285 = true then (selvageref13_Again.l0 k x0 x3 (wrap64 (x4 + 1))) else (if 0 ≤ x4 then ((selvageref10_Has.f k ((rd_T40 x0 x4).f0) 97).bind fun t288 => (if t288 = true then ((selvageref13_Meant.f k x0 ((rd_T40 x0 x4).f2)).bind fun t289 => (selvageref13_Again.j1 k x0 x3 x4 ((rd_T40 x0 x4).f0) ((rd_T40 x0 x4).f1) t289 ((rd_T40 x0 x4).f3) ((rd_T40 x0 x4).f4) ((rd_T40 x0 x4).f5) ((rd_T40 x0 x4).f6) ((rd_T40 x0 x4).f7))) else (selvageref13_Again.j1 k x0 x3 x4 ((rd_T40 x0 x4).f0) ((rd_T40 x0 x4).f1) ((rd_T40 x0 x4).f2) ((rd_T40 x0 x4).f3) ((rd_T40 x0 x4).f4) ((rd_T40 x0 x4).f5) ((rd_T40 x0 x4).f6) ((rd_T40 x0 x4).f7)))) else (none)))) else (some x3)
def selvageref13_Again.j1 : Nat → List (S40) → List (S40) → Int → Int → Int → Int → Int → Int → Int → Int → Int → Option ((List (S40)))
  | 0, _, _, _, _, _, _, _, _, _, _, _ => none
  | k + 1, x0, x3, x4, x288000, x288001, x288002, x288003, x288004, x288005, x288006, x288007 => (selvageref10_Has.f k x288000 98).bind fun t290 => (if t290 = true then ((selvageref13_Meant.f k x0 x288003).bind fun t291 => (selvageref13_Again.j2 k x0 x3 x4 x288000 x288001 x288002 t291 x288004 x288005 x288006 x288007)) else (selvageref13_Again.j2 k x0 x3 x4 x288000 x288001 x288002 x288003 x288004 x288005 x288006 x288007))
def selvageref13_Again.j2 : Nat → List (S40) → List (S40) → Int → Int → Int → Int → Int → Int → Int → Int → Int → Option ((List (S40)))
  | 0, _, _, _, _, _, _, _, _, _, _, _ => none
  | k + 1, x0, x3, x4, x288000, x288001, x288002, x288003, x288004, x288005, x288006, x288007 => (selvageref10_Has.f k x288000 116).bind fun t292 => (if t292 = true then (selvageref13_Again.l1 k x0 x3 x4 0 0 x288000 x288001 x288002 x288003 x288004 x288005 x288006 x288007) else (if x3.length < 2199023255552 then (selvageref13_Again.l0 k x0 (x3 ++ [(⟨x288000, x288001, x288002, x288003, x288004, x288005, x288006, x288007⟩ : S40)]) (wrap64 (x4 + 1))) else (none)))
def selvageref13_Again.l1 : Nat → List (S40) → List (S40) → Int → Int → Int → Int → Int → Int → Int → Int → Int → Int → Int → Option ((List (S40)))
  | 0, _, _, _, _, _, _, _, _, _, _, _, _, _ => none
  | k + 1, x0, x3, x4, x6, x7, x288000, x288001, x288002, x288003, x288004, x288005, x288006, x288007 => if x7 < x288007 then ((selvageref13_Spare.f k x0 x7).bind fun t293 => (if t293 = true then (selvageref13_Again.l1 k x0 x3 x4 x6 (wrap64 (x7 + 1)) x288000 x288001 x288002 x288003 x288004 x288005 x288006 x288007) else (selvageref13_Again.l1 k x0 x3 x4 (wrap64 (x6 + 1)) (wrap64 (x7 + 1)) x288000 x288001 x288002 x288003 x288004 x288005 x288006 x288007))) else (if x3.length < 2199023255552 then (selvageref13_Again.l0 k x0 (x3 ++ [(⟨x288000, x288001, x288002, x288003, x288004, x288005, x288006, x6⟩ : S40)]) (wrap64 (x4 + 1))) else (none))
end
def selvageref13_Again.f (k : Nat) (l0 : List (S40)) : Option ((List (S40))) := selvageref13_Again.l0 k l0 ([] : List (S40)) 0
theorem selvageref13_Again.mono_l : ∀ k, (∀ y0 y1 y2, LeO (selvageref13_Again.l0 k y0 y1 y2) (selvageref13_Again.l0 (k + 1) y0 y1 y2)) ∧ (∀ y0 y1 y2 y3 y4 y5 y6 y7 y8 y9 y10, LeO (selvageref13_Again.j1 k y0 y1 y2 y3 y4 y5 y6 y7 y8 y9 y10) (selvageref13_Again.j1 (k + 1) y0 y1 y2 y3 y4 y5 y6 y7 y8 y9 y10)) ∧ (∀ y0 y1 y2 y3 y4 y5 y6 y7 y8 y9 y10, LeO (selvageref13_Again.j2 k y0 y1 y2 y3 y4 y5 y6 y7 y8 y9 y10) (selvageref13_Again.j2 (k + 1) y0 y1 y2 y3 y4 y5 y6 y7 y8 y9 y10)) ∧ (∀ y0 y1 y2 y3 y4 y5 y6 y7 y8 y9 y10 y11 y12, LeO (selvageref13_Again.l1 k y0 y1 y2 y3 y4 y5 y6 y7 y8 y9 y10 y11 y12) (selvageref13_Again.l1 (k + 1) y0 y1 y2 y3 y4 y5 y6 y7 y8 y9 y10 y11 y12))
  | 0 => ⟨fun _ _ _ r h => by simp [selvageref13_Again.l0] at h, fun _ _ _ _ _ _ _ _ _ _ _ r h => by simp [selvageref13_Again.j1] at h, fun _ _ _ _ _ _ _ _ _ _ _ r h => by simp [selvageref13_Again.j2] at h, fun _ _ _ _ _ _ _ _ _ _ _ _ _ r h => by simp [selvageref13_Again.l1] at h⟩
  | k + 1 => by
    obtain ⟨ih0, ih1, ih2, ih3⟩ := selvageref13_Again.mono_l k
    refine ⟨?_, ?_, ?_, ?_⟩
    · intro y0 y1 y2
      unfold selvageref13_Again.l0
      repeat' first
      | (with_reducible exact ih0 _ _ _)
      | (with_reducible exact ih1 _ _ _ _ _ _ _ _ _ _ _)
      | (with_reducible exact ih2 _ _ _ _ _ _ _ _ _ _ _)
      | (with_reducible exact ih3 _ _ _ _ _ _ _ _ _ _ _ _ _)
      | (with_reducible exact selvageref10_Has.mono _ _ _)
      | (with_reducible exact selvageref13_Meant.mono _ _ _)
      | (with_reducible exact selvageref13_Spare.mono _ _ _)
      | (with_reducible exact LeO.refl _)
      | (with_reducible exact LeO.none _)
      | (with_reducible refine LeO.ite ?_ ?_)
      | (with_reducible refine LeO.bind ?_ (fun _ => ?_))
      | exact ih0 _ _ _
      | exact ih1 _ _ _ _ _ _ _ _ _ _ _
      | exact ih2 _ _ _ _ _ _ _ _ _ _ _
      | exact ih3 _ _ _ _ _ _ _ _ _ _ _ _ _
      | exact selvageref10_Has.mono _ _ _
      | exact selvageref13_Meant.mono _ _ _
      | exact selvageref13_Spare.mono _ _ _
      | exact LeO.none _
      | refine LeO.ite ?_ ?_
      | refine LeO.bind ?_ (fun _ => ?_)
    · intro y0 y1 y2 y3 y4 y5 y6 y7 y8 y9 y10
      unfold selvageref13_Again.j1
      repeat' first
      | (with_reducible exact ih0 _ _ _)
      | (with_reducible exact ih1 _ _ _ _ _ _ _ _ _ _ _)
      | (with_reducible exact ih2 _ _ _ _ _ _ _ _ _ _ _)
      | (with_reducible exact ih3 _ _ _ _ _ _ _ _ _ _ _ _ _)
      | (with_reducible exact selvageref10_Has.mono _ _ _)
      | (with_reducible exact selvageref13_Meant.mono _ _ _)
      | (with_reducible exact selvageref13_Spare.mono _ _ _)
      | (with_reducible exact LeO.refl _)
      | (with_reducible exact LeO.none _)
      | (with_reducible refine LeO.ite ?_ ?_)
      | (with_reducible refine LeO.bind ?_ (fun _ => ?_))
      | exact ih0 _ _ _
      | exact ih1 _ _ _ _ _ _ _ _ _ _ _
      | exact ih2 _ _ _ _ _ _ _ _ _ _ _
      | exact ih3 _ _ _ _ _ _ _ _ _ _ _ _ _
      | exact selvageref10_Has.mono _ _ _
      | exact selvageref13_Meant.mono _ _ _
      | exact selvageref13_Spare.mono _ _ _
      | exact LeO.none _
      | refine LeO.ite ?_ ?_
      | refine LeO.bind ?_ (fun _ => ?_)
    · intro y0 y1 y2 y3 y4 y5 y6 y7 y8 y9 y10
      unfold selvageref13_Again.j2
      repeat' first
      | (with_reducible exact ih0 _ _ _)
      | (with_reducible exact ih1 _ _ _ _ _ _ _ _ _ _ _)
      | (with_reducible exact ih2 _ _ _ _ _ _ _ _ _ _ _)
      | (with_reducible exact ih3 _ _ _ _ _ _ _ _ _ _ _ _ _)
      | (with_reducible exact selvageref10_Has.mono _ _ _)
      | (with_reducible exact selvageref13_Meant.mono _ _ _)
      | (with_reducible exact selvageref13_Spare.mono _ _ _)
      | (with_reducible exact LeO.refl _)
      | (with_reducible exact LeO.none _)
      | (with_reducible refine LeO.ite ?_ ?_)
      | (with_reducible refine LeO.bind ?_ (fun _ => ?_))
      | exact ih0 _ _ _
      | exact ih1 _ _ _ _ _ _ _ _ _ _ _
      | exact ih2 _ _ _ _ _ _ _ _ _ _ _
      | exact ih3 _ _ _ _ _ _ _ _ _ _ _ _ _
      | exact selvageref10_Has.mono _ _ _
      | exact selvageref13_Meant.mono _ _ _
      | exact selvageref13_Spare.mono _ _ _
      | exact LeO.none _
      | refine LeO.ite ?_ ?_
      | refine LeO.bind ?_ (fun _ => ?_)
    · intro y0 y1 y2 y3 y4 y5 y6 y7 y8 y9 y10 y11 y12
      unfold selvageref13_Again.l1
      repeat' first
      | (with_reducible exact ih0 _ _ _)
      | (with_reducible exact ih1 _ _ _ _ _ _ _ _ _ _ _)
      | (with_reducible exact ih2 _ _ _ _ _ _ _ _ _ _ _)
      | (with_reducible exact ih3 _ _ _ _ _ _ _ _ _ _ _ _ _)
      | (with_reducible exact selvageref10_Has.mono _ _ _)
      | (with_reducible exact selvageref13_Meant.mono _ _ _)
      | (with_reducible exact selvageref13_Spare.mono _ _ _)
      | (with_reducible exact LeO.refl _)
      | (with_reducible exact LeO.none _)
      | (with_reducible refine LeO.ite ?_ ?_)
      | (with_reducible refine LeO.bind ?_ (fun _ => ?_))
      | exact ih0 _ _ _
      | exact ih1 _ _ _ _ _ _ _ _ _ _ _
      | exact ih2 _ _ _ _ _ _ _ _ _ _ _
      | exact ih3 _ _ _ _ _ _ _ _ _ _ _ _ _
      | exact selvageref10_Has.mono _ _ _
      | exact selvageref13_Meant.mono _ _ _
      | exact selvageref13_Spare.mono _ _ _
      | exact LeO.none _
      | refine LeO.ite ?_ ?_
      | refine LeO.bind ?_ (fun _ => ?_)
theorem selvageref13_Again.mono : ∀ a0 k, LeO (selvageref13_Again.f k a0) (selvageref13_Again.f (k + 1) a0) := by
  intro a0 k
  obtain ⟨ih0, ih1, ih2, ih3⟩ := selvageref13_Again.mono_l k
  unfold selvageref13_Again.f
  repeat' first
      | (with_reducible exact ih0 _ _ _)
      | (with_reducible exact ih1 _ _ _ _ _ _ _ _ _ _ _)
      | (with_reducible exact ih2 _ _ _ _ _ _ _ _ _ _ _)
      | (with_reducible exact ih3 _ _ _ _ _ _ _ _ _ _ _ _ _)
      | (with_reducible exact selvageref10_Has.mono _ _ _)
      | (with_reducible exact selvageref13_Meant.mono _ _ _)
      | (with_reducible exact selvageref13_Spare.mono _ _ _)
      | (with_reducible exact LeO.refl _)
      | (with_reducible exact LeO.none _)
      | (with_reducible refine LeO.ite ?_ ?_)
      | (with_reducible refine LeO.bind ?_ (fun _ => ?_))
      | exact ih0 _ _ _
      | exact ih1 _ _ _ _ _ _ _ _ _ _ _
      | exact ih2 _ _ _ _ _ _ _ _ _ _ _
      | exact ih3 _ _ _ _ _ _ _ _ _ _ _ _ _
      | exact selvageref10_Has.mono _ _ _
      | exact selvageref13_Meant.mono _ _ _
      | exact selvageref13_Spare.mono _ _ _
      | exact LeO.none _
      | refine LeO.ite ?_ ?_
      | refine LeO.bind ?_ (fun _ => ?_)
set_option maxHeartbeats 8000000 in
set_option maxRecDepth 100000 in
theorem selvageref13_Again.calls (k : Nat) (A0 : Option Addr) (c0 : Nat) (l0 : List (S40)) (r : List (S40)) (w : World) (hr0 : Kd.C k40 w A0 l0.length l0) (hc0 : l0.length ≤ c0) (h : selvageref13_Again.f k l0 = some r) :
    Calls Try.prog 30 #[.slice A0 l0.length c0] w fun e w' => ∃ v0_ : Value, e = .returned (v0_) ∧ Kd.R k40 40 w' w.heap.size (fun _ => True) v0_ r ∧ Below w.heap.size w w' := by
  have hu40 := Try.underlying40
  have HR0 := Aside0.mk hr0
  have HC0 := Aside0.mk hc0
  clear hr0 hc0
  have HB := Aside0.mk (Below.refl w.heap.size w)
  have H : (selvageref13_Again.l0 k l0 ([] : List (S40)) 0) = some r := h
  clear h
  have H' := Aside0.mk H
  clear H
  go_enter Try.func30, Try.ntmps30
  go_wp2
  go_loopg [3, 4] k (fun kq v3 v4 w' => ∃ (x3_1 : List (S40)) (x4_1 : Int), v4 = .int .i64 x4_1 ∧ Aside0 (selvageref13_Again.l0 kq l0 x3_1 x4_1 = some r) ∧ Aside0 (kq ≤ k) ∧ Aside0 (Kd.R k40 40 w' w.heap.size (fun _ => True) v3 x3_1) ∧ Aside0 (Below w.heap.size w w'))
  case atStart => exact ⟨(([] : List (S40))), (0), (by first | rfl | (simp; done) | (simp [*]; done)), H', ⟨Nat.le_refl _⟩, ⟨by first | exact Kd.R_nil _ _ _ _ _ | exact Kd.N_nil _ _ _ _ _ | exact Kd.V_nil _ _ _ _ _ | exact Kd.Q_nil _ _ _ _ _ | exact Kd.S_nil _ _ _ _ _⟩, ⟨by repeat (first | (with_reducible first | exact HB.out | apply below_alloc | apply pw_below_drewN | apply below_drew1) | exact HB.out)⟩⟩
  case round =>
    clear H'
    obtain ⟨x3_1, x4_1, rfl, HA, HK1, HO_3, HB⟩ := hrel
    cases gk with
    | zero => exact absurd HA.out (by simp [selvageref13_Again.l0])
    | succ k1 =>
      have H := HA.out
      clear HA
      simp only [selvageref13_Again.l0] at H
      by_cases c2 : x4_1 < (l0.length : Int)
      · rw [if_pos c2] at H
        have c2b0 : decide (x4_1 < (l0.length : Int)) = true := decide_eq_true c2
        clear c2
        replace H := Option.bind_eq_some_iff.mp H
        obtain ⟨t285, A30, H⟩ := H
        replace H : (if t285 = true then (selvageref13_Again.l0 k1 l0 x3_1 (wrap64 (x4_1 + 1))) else (if 0 ≤ x4_1 then ((selvageref10_Has.f k1 ((rd_T40 l0 x4_1).f0) 97).bind fun t288 => (if t288 = true then ((selvageref13_Meant.f k1 l0 ((rd_T40 l0 x4_1).f2)).bind fun t289 => (selvageref13_Again.j1 k1 l0 x3_1 x4_1 ((rd_T40 l0 x4_1).f0) ((rd_T40 l0 x4_1).f1) t289 ((rd_T40 l0 x4_1).f3) ((rd_T40 l0 x4_1).f4) ((rd_T40 l0 x4_1).f5) ((rd_T40 l0 x4_1).f6) ((rd_T40 l0 x4_1).f7))) else (selvageref13_Again.j1 k1 l0 x3_1 x4_1 ((rd_T40 l0 x4_1).f0) ((rd_T40 l0 x4_1).f1) ((rd_T40 l0 x4_1).f2) ((rd_T40 l0 x4_1).f3) ((rd_T40 l0 x4_1).f4) ((rd_T40 l0 x4_1).f5) ((rd_T40 l0 x4_1).f6) ((rd_T40 l0 x4_1).f7)))) else (none))) = some r := H
        have A3 := Aside0.mk A30
        clear A30
        by_cases c4 : t285 = true
        · subst c4
          have H1 : (selvageref13_Again.l0 k1 l0 x3_1 (wrap64 (x4_1 + 1))) = some r := by rw [if_pos rfl] at H; exact H
          clear H
          have H := H1
          clear H1
          have H' := Aside0.mk H
          clear H
          go_wp2_with (first | ((with_reducible refine gate_callee (f := 28) rfl ?_); refine goesL_ (some 16) rfl rfl Try.func28 (by kernel_rfl) rfl #[.slice A0 l0.length c0, .int .i64 x4_1] rfl (by (try simp only [List.map_toArray, List.map_cons, List.map_nil]); first | done | rfl | (simp only [List.length_drop, List.length_take]; rfl)) ?_; (with_reducible refine (selvageref13_Spare.calls k1 _ _ l0 x4_1 true _ ?side1 ?side2 A3.out).mono ?_); (case side1 => repeat (first | exact (Kd.C_below HR0.out HB.out) | (with_reducible refine Kd.C_alloc ?_ _) | (with_reducible refine Kd.C_drewN ?_ _) | (with_reducible refine Kd.C_drew ?_))); (case side2 => exact HC0.out); rintro e w5 ⟨rfl, hb⟩; refine ⟨_, rfl, ?_⟩; have n0_ := Aside0.mk (Kd.R_below (by (with_reducible repeat (first | apply Kd.R_alloc | apply Kd.R_drewN | apply Kd.R_drew)); exact HO_3.out) hb); have n1_ := Aside0.mk (below_step (by repeat (first | (with_reducible first | exact HB.out | apply below_alloc | apply pw_below_drewN | apply below_drew1) | exact HB.out)) hb); clear HO_3; clear HB; have HO_3 := n0_; have HB := n1_; clear n0_ n1_; (try clear hb); (try clear hb2); (try clear hk); (try clear hi)))
          go_roundg k1
          case measure => have := HK1.out; omega
          case rel => exact ⟨(x3_1), (wrap64 (x4_1 + 1)), (by first | rfl | (simp; done) | (simp [*]; done)), H', ⟨by have := HK1.out; omega⟩, ⟨by (with_reducible repeat (first | apply Kd.R_alloc | apply Kd.R_drewN | apply Kd.R_drew)); exact HO_3.out⟩, ⟨by repeat (first | (with_reducible first | exact HB.out | apply below_alloc | apply pw_below_drewN | apply below_drew1) | exact HB.out)⟩⟩
        · replace c4 := Bool.eq_false_iff.mpr c4
          subst c4
          have H1 : (if 0 ≤ x4_1 then ((selvageref10_Has.f k1 ((rd_T40 l0 x4_1).f0) 97).bind fun t288 => (if t288 = true then ((selvageref13_Meant.f k1 l0 ((rd_T40 l0 x4_1).f2)).bind fun t289 => (selvageref13_Again.j1 k1 l0 x3_1 x4_1 ((rd_T40 l0 x4_1).f0) ((rd_T40 l0 x4_1).f1) t289 ((rd_T40 l0 x4_1).f3) ((rd_T40 l0 x4_1).f4) ((rd_T40 l0 x4_1).f5) ((rd_T40 l0 x4_1).f6) ((rd_T40 l0 x4_1).f7))) else (selvageref13_Again.j1 k1 l0 x3_1 x4_1 ((rd_T40 l0 x4_1).f0) ((rd_T40 l0 x4_1).f1) ((rd_T40 l0 x4_1).f2) ((rd_T40 l0 x4_1).f3) ((rd_T40 l0 x4_1).f4) ((rd_T40 l0 x4_1).f5) ((rd_T40 l0 x4_1).f6) ((rd_T40 l0 x4_1).f7)))) else (none)) = some r := by rw [if_neg (show ¬ (false = true) by decide)] at H; exact H
          clear H
          have H := H1
          clear H1
          by_cases c6 : 0 ≤ x4_1
          · rw [if_pos c6] at H
            have c6b0 : decide (0 ≤ x4_1) = true := decide_eq_true c6
            clear c6
            replace H := Option.bind_eq_some_iff.mp H
            obtain ⟨t288, A70, H⟩ := H
            replace H : (if t288 = true then ((selvageref13_Meant.f k1 l0 ((rd_T40 l0 x4_1).f2)).bind fun t289 => (selvageref13_Again.j1 k1 l0 x3_1 x4_1 ((rd_T40 l0 x4_1).f0) ((rd_T40 l0 x4_1).f1) t289 ((rd_T40 l0 x4_1).f3) ((rd_T40 l0 x4_1).f4) ((rd_T40 l0 x4_1).f5) ((rd_T40 l0 x4_1).f6) ((rd_T40 l0 x4_1).f7))) else (selvageref13_Again.j1 k1 l0 x3_1 x4_1 ((rd_T40 l0 x4_1).f0) ((rd_T40 l0 x4_1).f1) ((rd_T40 l0 x4_1).f2) ((rd_T40 l0 x4_1).f3) ((rd_T40 l0 x4_1).f4) ((rd_T40 l0 x4_1).f5) ((rd_T40 l0 x4_1).f6) ((rd_T40 l0 x4_1).f7))) = some r := H
            have A7 := Aside0.mk A70
            clear A70
            have HC8 := Aside0.mk H
            clear H
            go_upto_if 23 with (first | ((with_reducible refine gate_callee (f := 28) rfl ?_); refine goesL_ (some 16) rfl rfl Try.func28 (by kernel_rfl) rfl #[.slice A0 l0.length c0, .int .i64 x4_1] rfl (by (try simp only [List.map_toArray, List.map_cons, List.map_nil]); first | done | rfl | (simp only [List.length_drop, List.length_take]; rfl)) ?_; (with_reducible refine (selvageref13_Spare.calls k1 _ _ l0 x4_1 false _ ?side1 ?side2 A3.out).mono ?_); (case side1 => repeat (first | exact (Kd.C_below HR0.out HB.out) | (with_reducible refine Kd.C_alloc ?_ _) | (with_reducible refine Kd.C_drewN ?_ _) | (with_reducible refine Kd.C_drew ?_))); (case side2 => exact HC0.out); rintro e w9 ⟨rfl, hb⟩; refine ⟨_, rfl, ?_⟩; have n0_ := Aside0.mk (Kd.R_below (by (with_reducible repeat (first | apply Kd.R_alloc | apply Kd.R_drewN | apply Kd.R_drew)); exact HO_3.out) hb); have n1_ := Aside0.mk (below_step (by repeat (first | (with_reducible first | exact HB.out | apply below_alloc | apply pw_below_drewN | apply below_drew1) | exact HB.out)) hb); clear HO_3; clear HB; have HO_3 := n0_; have HB := n1_; clear n0_ n1_; (try clear hb); (try clear hb2); (try clear hk); (try clear hi); have p286 : 0 ≤ (x4_1 : Int) := of_decide_eq_true (by first | (with_reducible assumption) | assumption); have q286 : x4_1 < (l0.length : Int) := of_decide_eq_true (by first | (with_reducible assumption) | assumption); obtain ⟨ad286, e286, hx286_0, hx286_1, hx286_2, hx286_3, hx286_4, hx286_5, hx286_6, hx286_7⟩ := at_T40 HR0.out x4_1 p286 q286; cases e286; replace hx286_0 := (HB.out.cell (World.block_lt_of_cell? w _ hx286_0)).trans hx286_0; replace hx286_1 := (HB.out.cell (World.block_lt_of_cell? w _ hx286_1)).trans hx286_1; replace hx286_2 := (HB.out.cell (World.block_lt_of_cell? w _ hx286_2)).trans hx286_2; replace hx286_3 := (HB.out.cell (World.block_lt_of_cell? w _ hx286_3)).trans hx286_3; replace hx286_4 := (HB.out.cell (World.block_lt_of_cell? w _ hx286_4)).trans hx286_4; replace hx286_5 := (HB.out.cell (World.block_lt_of_cell? w _ hx286_5)).trans hx286_5; replace hx286_6 := (HB.out.cell (World.block_lt_of_cell? w _ hx286_6)).trans hx286_6; replace hx286_7 := (HB.out.cell (World.block_lt_of_cell? w _ hx286_7)).trans hx286_7; replace p286 := eq_true p286; replace q286 := eq_true q286) | ((with_reducible refine gate_dst (N := 5) rfl ?_); refine box_event ?hg (N := 5) ?hd (cs := #[.int .i64 0, .int .i64 0, .int .i64 0, .int .i64 0, .int .i64 0, .int .i64 0, .int .i64 0, .int .i64 0]) (t := 40) ?hr ?_; (case hd => rfl); (case hg => rfl); (case hr => first | (go_simp; done) | (go_simp; rfl)); intro gb287 hg w10 hbox hb; have n0_ := Aside0.mk (Kd.R_below (Kd.R_elderB (by (with_reducible repeat (first | apply Kd.R_alloc | apply Kd.R_drewN | apply Kd.R_drew)); exact HO_3.out) gb287 (Nat.le_of_eq hg.symm)) hb); have n1_ := Aside0.mk (below_step (by repeat (first | (with_reducible first | exact HB.out | apply below_alloc | apply pw_below_drewN | apply below_drew1) | exact HB.out)) hb); have n2_ := Aside0.mk (hbox); have n3_ := Aside0.mk ((by rw [hg]; exact (below_size (by repeat (first | (with_reducible first | exact HB.out | apply below_alloc | apply pw_below_drewN | apply below_drew1) | exact HB.out))) : w.heap.size ≤ gb287)); have n4_ := Aside0.mk ((by rw [hg]; exact (below_size (by repeat (first | (with_reducible first | exact HB.out | apply below_alloc | apply pw_below_drewN | apply below_drew1) | exact HB.out))) : w.heap.size ≤ gb287)); clear HO_3; clear HB; have HO_3 := n0_; have HB := n1_; have BK287 := n2_; have GW287 := n3_; have GE287 := n4_; clear n0_ n1_ n2_ n3_ n4_; clear hb hbox hg; have hcz11_0 : w10.cell? ⟨gb287, 0, none⟩ = some (.int .i64 0) := (blk_cell BK287.out 0).trans rfl; have hcz11_1 : w10.cell? ⟨gb287, 1, none⟩ = some (.int .i64 0) := (blk_cell BK287.out 1).trans rfl; have hcz11_2 : w10.cell? ⟨gb287, 2, none⟩ = some (.int .i64 0) := (blk_cell BK287.out 2).trans rfl; have hcz11_3 : w10.cell? ⟨gb287, 3, none⟩ = some (.int .i64 0) := (blk_cell BK287.out 3).trans rfl; have hcz11_4 : w10.cell? ⟨gb287, 4, none⟩ = some (.int .i64 0) := (blk_cell BK287.out 4).trans rfl; have hcz11_5 : w10.cell? ⟨gb287, 5, none⟩ = some (.int .i64 0) := (blk_cell BK287.out 5).trans rfl; have hcz11_6 : w10.cell? ⟨gb287, 6, none⟩ = some (.int .i64 0) := (blk_cell BK287.out 6).trans rfl; have hcz11_7 : w10.cell? ⟨gb287, 7, none⟩ = some (.int .i64 0) := (blk_cell BK287.out 7).trans rfl; have hfz11_0 := blk_frozen BK287.out 0; have hfz11_1 := blk_frozen BK287.out 1; have hfz11_2 := blk_frozen BK287.out 2; have hfz11_3 := blk_frozen BK287.out 3; have hfz11_4 := blk_frozen BK287.out 4; have hfz11_5 := blk_frozen BK287.out 5; have hfz11_6 := blk_frozen BK287.out 6; have hfz11_7 := blk_frozen BK287.out 7) | ((with_reducible refine gate_callee (f := 20) rfl ?_); refine goesL_ (some 23) rfl rfl Try.func20 (by kernel_rfl) rfl #[.int .i64 ((rd_T40 l0 x4_1).f0), .int .u8 97] rfl (by (try simp only [List.map_toArray, List.map_cons, List.map_nil]); first | done | rfl | (simp only [List.length_drop, List.length_take]; rfl)) ?_; (with_reducible refine (selvageref10_Has.calls k1 ((rd_T40 l0 x4_1).f0) 97 t288 _ A7.out).mono ?_); rintro e w' ⟨rfl, ⟨nd, rfl⟩⟩; refine ⟨_, rfl, ?_⟩))
            (try simp only [Act.put, List.setIfInBounds_toArray, List.set_cons_zero, List.set_cons_succ])
            go_cut [] (fun wc => ∃ (kq : Nat) (x288002_7 : Int), Aside0 (selvageref13_Again.j1 kq l0 x3_1 x4_1 ((rd_T40 l0 x4_1).f0) ((rd_T40 l0 x4_1).f1) x288002_7 ((rd_T40 l0 x4_1).f3) ((rd_T40 l0 x4_1).f4) ((rd_T40 l0 x4_1).f5) ((rd_T40 l0 x4_1).f6) ((rd_T40 l0 x4_1).f7) = some r) ∧ Aside0 (kq ≤ k1) ∧ Aside0 (Kd.R k40 40 wc w.heap.size (fun k_ => k_ ≠ gb287) u3 x3_1) ∧ Aside0 (wc.heap[gb287]? = some (.cells #[.int .i64 ((rd_T40 l0 x4_1).f0), .int .i64 ((rd_T40 l0 x4_1).f1), .int .i64 x288002_7, .int .i64 ((rd_T40 l0 x4_1).f3), .int .i64 ((rd_T40 l0 x4_1).f4), .int .i64 ((rd_T40 l0 x4_1).f5), .int .i64 ((rd_T40 l0 x4_1).f6), .int .i64 ((rd_T40 l0 x4_1).f7)] 40 (0, 0))) ∧ Aside0 (Below w.heap.size w wc))
            case first =>
              have H := HC8.out
              clear HC8
              by_cases c12 : t288 = true
              · subst c12
                have H1 : ((selvageref13_Meant.f k1 l0 ((rd_T40 l0 x4_1).f2)).bind fun t289 => (selvageref13_Again.j1 k1 l0 x3_1 x4_1 ((rd_T40 l0 x4_1).f0) ((rd_T40 l0 x4_1).f1) t289 ((rd_T40 l0 x4_1).f3) ((rd_T40 l0 x4_1).f4) ((rd_T40 l0 x4_1).f5) ((rd_T40 l0 x4_1).f6) ((rd_T40 l0 x4_1).f7))) = some r := by rw [if_pos rfl] at H; exact H
                clear H
                have H := H1
                clear H1
                replace H := Option.bind_eq_some_iff.mp H
                obtain ⟨t289, A130, H⟩ := H
                replace H : (selvageref13_Again.j1 k1 l0 x3_1 x4_1 ((rd_T40 l0 x4_1).f0) ((rd_T40 l0 x4_1).f1) t289 ((rd_T40 l0 x4_1).f3) ((rd_T40 l0 x4_1).f4) ((rd_T40 l0 x4_1).f5) ((rd_T40 l0 x4_1).f6) ((rd_T40 l0 x4_1).f7)) = some r := H
                have A13 := Aside0.mk A130
                clear A130
                have H' := Aside0.mk H
                clear H
                have hcz14_0 : w10.cell? ⟨gb287, 0, none⟩ = some (.int .i64 0) := (blk_cell BK287.out 0).trans rfl
                have hcz14_1 : w10.cell? ⟨gb287, 1, none⟩ = some (.int .i64 0) := (blk_cell BK287.out 1).trans rfl
                have hcz14_2 : w10.cell? ⟨gb287, 2, none⟩ = some (.int .i64 0) := (blk_cell BK287.out 2).trans rfl
                have hcz14_3 : w10.cell? ⟨gb287, 3, none⟩ = some (.int .i64 0) := (blk_cell BK287.out 3).trans rfl
                have hcz14_4 : w10.cell? ⟨gb287, 4, none⟩ = some (.int .i64 0) := (blk_cell BK287.out 4).trans rfl
                have hcz14_5 : w10.cell? ⟨gb287, 5, none⟩ = some (.int .i64 0) := (blk_cell BK287.out 5).trans rfl
                have hcz14_6 : w10.cell? ⟨gb287, 6, none⟩ = some (.int .i64 0) := (blk_cell BK287.out 6).trans rfl
                have hcz14_7 : w10.cell? ⟨gb287, 7, none⟩ = some (.int .i64 0) := (blk_cell BK287.out 7).trans rfl
                have hfz14_0 := blk_frozen BK287.out 0
                have hfz14_1 := blk_frozen BK287.out 1
                have hfz14_2 := blk_frozen BK287.out 2
                have hfz14_3 := blk_frozen BK287.out 3
                have hfz14_4 := blk_frozen BK287.out 4
                have hfz14_5 := blk_frozen BK287.out 5
                have hfz14_6 := blk_frozen BK287.out 6
                have hfz14_7 := blk_frozen BK287.out 7
                go_wp2_with (first | ((with_reducible refine gate_callee (f := 45) rfl ?_); refine goesL_ (some 27) rfl rfl Try.func45 (by kernel_rfl) rfl #[.slice (some ad286) l0.length c0, .int .i64 ((rd_T40 l0 x4_1).f2)] rfl (by (try simp only [List.map_toArray, List.map_cons, List.map_nil]); first | done | rfl | (simp only [List.length_drop, List.length_take]; rfl)) ?_; (with_reducible refine (selvageref13_Meant.calls k1 _ _ l0 ((rd_T40 l0 x4_1).f2) t289 _ ?side1 ?side2 A13.out).mono ?_); (case side1 => exact Kd.C_below HR0.out (by repeat (first | (with_reducible first | exact HB.out | apply below_alloc | apply pw_below_drewN | apply below_drew1 | refine below_set ?_ GE287.out) | exact HB.out))); (case side2 => exact HC0.out); rintro e w15 ⟨rfl, hb⟩; refine ⟨_, rfl, ?_⟩; have n0_ := Aside0.mk (Kd.R_below (by (with_reducible repeat (first | apply Kd.R_alloc | apply Kd.R_drewN | apply Kd.R_drew)); exact (Kd.R_mono (Kd.R_far (p := ⟨gb287, 7, none⟩) (Kd.R_far (p := ⟨gb287, 6, none⟩) (Kd.R_far (p := ⟨gb287, 5, none⟩) (Kd.R_far (p := ⟨gb287, 4, none⟩) (Kd.R_far (p := ⟨gb287, 3, none⟩) (Kd.R_far (p := ⟨gb287, 2, none⟩) (Kd.R_far (p := ⟨gb287, 1, none⟩) (Kd.R_far (p := ⟨gb287, 0, none⟩) (Kd.R_mono HO_3.out (fun k_ hk => (⟨hk, hk.2⟩ : _ ∧ k_ ≠ gb287))) (fun _ hk => hk.2) (.int .i64 ((rd_T40 l0 x4_1).f0))) (fun _ hk => hk.2) (.int .i64 ((rd_T40 l0 x4_1).f1))) (fun _ hk => hk.2) (.int .i64 ((rd_T40 l0 x4_1).f2))) (fun _ hk => hk.2) (.int .i64 ((rd_T40 l0 x4_1).f3))) (fun _ hk => hk.2) (.int .i64 ((rd_T40 l0 x4_1).f4))) (fun _ hk => hk.2) (.int .i64 ((rd_T40 l0 x4_1).f5))) (fun _ hk => hk.2) (.int .i64 ((rd_T40 l0 x4_1).f6))) (fun _ hk => hk.2) (.int .i64 ((rd_T40 l0 x4_1).f7))) (fun _ h_ => h_.1))) hb); have n1_ := Aside0.mk (blk_below (g := gb287) (o := .cells #[.int .i64 ((rd_T40 l0 x4_1).f0), .int .i64 ((rd_T40 l0 x4_1).f1), .int .i64 ((rd_T40 l0 x4_1).f2), .int .i64 ((rd_T40 l0 x4_1).f3), .int .i64 ((rd_T40 l0 x4_1).f4), .int .i64 ((rd_T40 l0 x4_1).f5), .int .i64 ((rd_T40 l0 x4_1).f6), .int .i64 ((rd_T40 l0 x4_1).f7)] 40 (0, 0)) (by (with_reducible repeat (first | refine blk_drewN ?_ _ | refine blk_drew ?_ | refine blk_alloc ?_ _)); refine blk_put (cs := #[.int .i64 ((rd_T40 l0 x4_1).f0), .int .i64 ((rd_T40 l0 x4_1).f1), .int .i64 ((rd_T40 l0 x4_1).f2), .int .i64 ((rd_T40 l0 x4_1).f3), .int .i64 ((rd_T40 l0 x4_1).f4), .int .i64 ((rd_T40 l0 x4_1).f5), .int .i64 ((rd_T40 l0 x4_1).f6), .int .i64 0]) ?_ 7 _ rfl; (with_reducible repeat (first | refine blk_drewN ?_ _ | refine blk_drew ?_ | refine blk_alloc ?_ _)); refine blk_put (cs := #[.int .i64 ((rd_T40 l0 x4_1).f0), .int .i64 ((rd_T40 l0 x4_1).f1), .int .i64 ((rd_T40 l0 x4_1).f2), .int .i64 ((rd_T40 l0 x4_1).f3), .int .i64 ((rd_T40 l0 x4_1).f4), .int .i64 ((rd_T40 l0 x4_1).f5), .int .i64 0, .int .i64 0]) ?_ 6 _ rfl; (with_reducible repeat (first | refine blk_drewN ?_ _ | refine blk_drew ?_ | refine blk_alloc ?_ _)); refine blk_put (cs := #[.int .i64 ((rd_T40 l0 x4_1).f0), .int .i64 ((rd_T40 l0 x4_1).f1), .int .i64 ((rd_T40 l0 x4_1).f2), .int .i64 ((rd_T40 l0 x4_1).f3), .int .i64 ((rd_T40 l0 x4_1).f4), .int .i64 0, .int .i64 0, .int .i64 0]) ?_ 5 _ rfl; (with_reducible repeat (first | refine blk_drewN ?_ _ | refine blk_drew ?_ | refine blk_alloc ?_ _)); refine blk_put (cs := #[.int .i64 ((rd_T40 l0 x4_1).f0), .int .i64 ((rd_T40 l0 x4_1).f1), .int .i64 ((rd_T40 l0 x4_1).f2), .int .i64 ((rd_T40 l0 x4_1).f3), .int .i64 0, .int .i64 0, .int .i64 0, .int .i64 0]) ?_ 4 _ rfl; (with_reducible repeat (first | refine blk_drewN ?_ _ | refine blk_drew ?_ | refine blk_alloc ?_ _)); refine blk_put (cs := #[.int .i64 ((rd_T40 l0 x4_1).f0), .int .i64 ((rd_T40 l0 x4_1).f1), .int .i64 ((rd_T40 l0 x4_1).f2), .int .i64 0, .int .i64 0, .int .i64 0, .int .i64 0, .int .i64 0]) ?_ 3 _ rfl; (with_reducible repeat (first | refine blk_drewN ?_ _ | refine blk_drew ?_ | refine blk_alloc ?_ _)); refine blk_put (cs := #[.int .i64 ((rd_T40 l0 x4_1).f0), .int .i64 ((rd_T40 l0 x4_1).f1), .int .i64 0, .int .i64 0, .int .i64 0, .int .i64 0, .int .i64 0, .int .i64 0]) ?_ 2 _ rfl; (with_reducible repeat (first | refine blk_drewN ?_ _ | refine blk_drew ?_ | refine blk_alloc ?_ _)); refine blk_put (cs := #[.int .i64 ((rd_T40 l0 x4_1).f0), .int .i64 0, .int .i64 0, .int .i64 0, .int .i64 0, .int .i64 0, .int .i64 0, .int .i64 0]) ?_ 1 _ rfl; (with_reducible repeat (first | refine blk_drewN ?_ _ | refine blk_drew ?_ | refine blk_alloc ?_ _)); refine blk_put (cs := #[.int .i64 0, .int .i64 0, .int .i64 0, .int .i64 0, .int .i64 0, .int .i64 0, .int .i64 0, .int .i64 0]) ?_ 0 _ rfl; (with_reducible repeat (first | refine blk_drewN ?_ _ | refine blk_drew ?_ | refine blk_alloc ?_ _)); exact BK287.out) hb); have n2_ := Aside0.mk (below_step (by repeat (first | (with_reducible first | exact HB.out | apply below_alloc | apply pw_below_drewN | apply below_drew1 | refine below_set ?_ GE287.out) | exact HB.out)) hb); clear HO_3; clear BK287; clear HB; have HO_3 := n0_; have BK287 := n1_; have HB := n2_; clear n0_ n1_ n2_; (try clear hb); (try clear hb2); (try clear hk); (try clear hi); have hcz16_0 : w15.cell? ⟨gb287, 0, none⟩ = some (.int .i64 ((rd_T40 l0 x4_1).f0)) := (blk_cell BK287.out 0).trans rfl; have hcz16_1 : w15.cell? ⟨gb287, 1, none⟩ = some (.int .i64 ((rd_T40 l0 x4_1).f1)) := (blk_cell BK287.out 1).trans rfl; have hcz16_2 : w15.cell? ⟨gb287, 2, none⟩ = some (.int .i64 ((rd_T40 l0 x4_1).f2)) := (blk_cell BK287.out 2).trans rfl; have hcz16_3 : w15.cell? ⟨gb287, 3, none⟩ = some (.int .i64 ((rd_T40 l0 x4_1).f3)) := (blk_cell BK287.out 3).trans rfl; have hcz16_4 : w15.cell? ⟨gb287, 4, none⟩ = some (.int .i64 ((rd_T40 l0 x4_1).f4)) := (blk_cell BK287.out 4).trans rfl; have hcz16_5 : w15.cell? ⟨gb287, 5, none⟩ = some (.int .i64 ((rd_T40 l0 x4_1).f5)) := (blk_cell BK287.out 5).trans rfl; have hcz16_6 : w15.cell? ⟨gb287, 6, none⟩ = some (.int .i64 ((rd_T40 l0 x4_1).f6)) := (blk_cell BK287.out 6).trans rfl; have hcz16_7 : w15.cell? ⟨gb287, 7, none⟩ = some (.int .i64 ((rd_T40 l0 x4_1).f7)) := (blk_cell BK287.out 7).trans rfl; have hfz16_0 := blk_frozen BK287.out 0; have hfz16_1 := blk_frozen BK287.out 1; have hfz16_2 := blk_frozen BK287.out 2; have hfz16_3 := blk_frozen BK287.out 3; have hfz16_4 := blk_frozen BK287.out 4; have hfz16_5 := blk_frozen BK287.out 5; have hfz16_6 := blk_frozen BK287.out 6; have hfz16_7 := blk_frozen BK287.out 7))
                go_meet
                case rel => exact ⟨_, (t289), H', ⟨by have := HK1.out; first | omega | exact Nat.le_refl _⟩, ⟨by (with_reducible repeat (first | apply Kd.R_alloc | apply Kd.R_drewN | apply Kd.R_drew)); exact Kd.R_mono (Kd.R_far (p := ⟨gb287, 2, none⟩) (Kd.R_mono HO_3.out (fun k_ hk => (⟨hk, hk.2⟩ : _ ∧ k_ ≠ gb287))) (fun _ hk => hk.2) (.int .i64 t289)) (fun _ hk => hk.1.2)⟩, ⟨by (with_reducible repeat (first | refine blk_drewN ?_ _ | refine blk_drew ?_ | refine blk_alloc ?_ _)); refine blk_put (cs := #[.int .i64 ((rd_T40 l0 x4_1).f0), .int .i64 ((rd_T40 l0 x4_1).f1), .int .i64 ((rd_T40 l0 x4_1).f2), .int .i64 ((rd_T40 l0 x4_1).f3), .int .i64 ((rd_T40 l0 x4_1).f4), .int .i64 ((rd_T40 l0 x4_1).f5), .int .i64 ((rd_T40 l0 x4_1).f6), .int .i64 ((rd_T40 l0 x4_1).f7)]) ?_ 2 _ rfl; (with_reducible repeat (first | refine blk_drewN ?_ _ | refine blk_drew ?_ | refine blk_alloc ?_ _)); exact BK287.out⟩, ⟨by repeat (first | (with_reducible first | exact HB.out | apply below_alloc | apply pw_below_drewN | apply below_drew1 | refine below_set ?_ GE287.out) | exact HB.out)⟩⟩
              · replace c12 := Bool.eq_false_iff.mpr c12
                subst c12
                have H1 : (selvageref13_Again.j1 k1 l0 x3_1 x4_1 ((rd_T40 l0 x4_1).f0) ((rd_T40 l0 x4_1).f1) ((rd_T40 l0 x4_1).f2) ((rd_T40 l0 x4_1).f3) ((rd_T40 l0 x4_1).f4) ((rd_T40 l0 x4_1).f5) ((rd_T40 l0 x4_1).f6) ((rd_T40 l0 x4_1).f7)) = some r := by rw [if_neg (show ¬ (false = true) by decide)] at H; exact H
                clear H
                have H := H1
                clear H1
                have H' := Aside0.mk H
                clear H
                go_wp2
                go_meet
                case rel => exact ⟨_, ((rd_T40 l0 x4_1).f2), H', ⟨by have := HK1.out; first | omega | exact Nat.le_refl _⟩, ⟨by (with_reducible repeat (first | apply Kd.R_alloc | apply Kd.R_drewN | apply Kd.R_drew)); exact Kd.R_mono (Kd.R_far (p := ⟨gb287, 7, none⟩) (Kd.R_far (p := ⟨gb287, 6, none⟩) (Kd.R_far (p := ⟨gb287, 5, none⟩) (Kd.R_far (p := ⟨gb287, 4, none⟩) (Kd.R_far (p := ⟨gb287, 3, none⟩) (Kd.R_far (p := ⟨gb287, 2, none⟩) (Kd.R_far (p := ⟨gb287, 1, none⟩) (Kd.R_far (p := ⟨gb287, 0, none⟩) (Kd.R_mono HO_3.out (fun k_ hk => (⟨hk, hk.2⟩ : _ ∧ k_ ≠ gb287))) (fun _ hk => hk.2) (.int .i64 ((rd_T40 l0 x4_1).f0))) (fun _ hk => hk.2) (.int .i64 ((rd_T40 l0 x4_1).f1))) (fun _ hk => hk.2) (.int .i64 ((rd_T40 l0 x4_1).f2))) (fun _ hk => hk.2) (.int .i64 ((rd_T40 l0 x4_1).f3))) (fun _ hk => hk.2) (.int .i64 ((rd_T40 l0 x4_1).f4))) (fun _ hk => hk.2) (.int .i64 ((rd_T40 l0 x4_1).f5))) (fun _ hk => hk.2) (.int .i64 ((rd_T40 l0 x4_1).f6))) (fun _ hk => hk.2) (.int .i64 ((rd_T40 l0 x4_1).f7))) (fun _ hk => hk.1.2)⟩, ⟨by (with_reducible repeat (first | refine blk_drewN ?_ _ | refine blk_drew ?_ | refine blk_alloc ?_ _)); refine blk_put (cs := #[.int .i64 ((rd_T40 l0 x4_1).f0), .int .i64 ((rd_T40 l0 x4_1).f1), .int .i64 ((rd_T40 l0 x4_1).f2), .int .i64 ((rd_T40 l0 x4_1).f3), .int .i64 ((rd_T40 l0 x4_1).f4), .int .i64 ((rd_T40 l0 x4_1).f5), .int .i64 ((rd_T40 l0 x4_1).f6), .int .i64 0]) ?_ 7 _ rfl; (with_reducible repeat (first | refine blk_drewN ?_ _ | refine blk_drew ?_ | refine blk_alloc ?_ _)); refine blk_put (cs := #[.int .i64 ((rd_T40 l0 x4_1).f0), .int .i64 ((rd_T40 l0 x4_1).f1), .int .i64 ((rd_T40 l0 x4_1).f2), .int .i64 ((rd_T40 l0 x4_1).f3), .int .i64 ((rd_T40 l0 x4_1).f4), .int .i64 ((rd_T40 l0 x4_1).f5), .int .i64 0, .int .i64 0]) ?_ 6 _ rfl; (with_reducible repeat (first | refine blk_drewN ?_ _ | refine blk_drew ?_ | refine blk_alloc ?_ _)); refine blk_put (cs := #[.int .i64 ((rd_T40 l0 x4_1).f0), .int .i64 ((rd_T40 l0 x4_1).f1), .int .i64 ((rd_T40 l0 x4_1).f2), .int .i64 ((rd_T40 l0 x4_1).f3), .int .i64 ((rd_T40 l0 x4_1).f4), .int .i64 0, .int .i64 0, .int .i64 0]) ?_ 5 _ rfl; (with_reducible repeat (first | refine blk_drewN ?_ _ | refine blk_drew ?_ | refine blk_alloc ?_ _)); refine blk_put (cs := #[.int .i64 ((rd_T40 l0 x4_1).f0), .int .i64 ((rd_T40 l0 x4_1).f1), .int .i64 ((rd_T40 l0 x4_1).f2), .int .i64 ((rd_T40 l0 x4_1).f3), .int .i64 0, .int .i64 0, .int .i64 0, .int .i64 0]) ?_ 4 _ rfl; (with_reducible repeat (first | refine blk_drewN ?_ _ | refine blk_drew ?_ | refine blk_alloc ?_ _)); refine blk_put (cs := #[.int .i64 ((rd_T40 l0 x4_1).f0), .int .i64 ((rd_T40 l0 x4_1).f1), .int .i64 ((rd_T40 l0 x4_1).f2), .int .i64 0, .int .i64 0, .int .i64 0, .int .i64 0, .int .i64 0]) ?_ 3 _ rfl; (with_reducible repeat (first | refine blk_drewN ?_ _ | refine blk_drew ?_ | refine blk_alloc ?_ _)); refine blk_put (cs := #[.int .i64 ((rd_T40 l0 x4_1).f0), .int .i64 ((rd_T40 l0 x4_1).f1), .int .i64 0, .int .i64 0, .int .i64 0, .int .i64 0, .int .i64 0, .int .i64 0]) ?_ 2 _ rfl; (with_reducible repeat (first | refine blk_drewN ?_ _ | refine blk_drew ?_ | refine blk_alloc ?_ _)); refine blk_put (cs := #[.int .i64 ((rd_T40 l0 x4_1).f0), .int .i64 0, .int .i64 0, .int .i64 0, .int .i64 0, .int .i64 0, .int .i64 0, .int .i64 0]) ?_ 1 _ rfl; (with_reducible repeat (first | refine blk_drewN ?_ _ | refine blk_drew ?_ | refine blk_alloc ?_ _)); refine blk_put (cs := #[.int .i64 0, .int .i64 0, .int .i64 0, .int .i64 0, .int .i64 0, .int .i64 0, .int .i64 0, .int .i64 0]) ?_ 0 _ rfl; (with_reducible repeat (first | refine blk_drewN ?_ _ | refine blk_drew ?_ | refine blk_alloc ?_ _)); exact BK287.out⟩, ⟨by repeat (first | (with_reducible first | exact HB.out | apply below_alloc | apply pw_below_drewN | apply below_drew1 | refine below_set ?_ GE287.out) | exact HB.out)⟩⟩
            case rest =>
              clear HC8
              try clear c1
              try clear c2
              try clear c2b0
              try clear p2
              try clear q2
              try clear hx2
              try clear c3
              try clear c4
              try clear c6
              try clear c6b0
              try clear p6
              try clear c12
              try clear hcz11_0
              try clear hcz11_1
              try clear hcz11_2
              try clear hcz11_3
              try clear hcz11_4
              try clear hcz11_5
              try clear hcz11_6
              try clear hcz11_7
              try clear hcz14_0
              try clear hcz14_1
              try clear hcz14_2
              try clear hcz14_3
              try clear hcz14_4
              try clear hcz14_5
              try clear hcz14_6
              try clear hcz14_7
              try clear hcz16_0
              try clear hcz16_1
              try clear hcz16_2
              try clear hcz16_3
              try clear hcz16_4
              try clear hcz16_5
              try clear hcz16_6
              try clear hcz16_7
              try clear hfz11_0
              try clear hfz11_1
              try clear hfz11_2
              try clear hfz11_3
              try clear hfz11_4
              try clear hfz11_5
              try clear hfz11_6
              try clear hfz11_7
              try clear hfz14_0
              try clear hfz14_1
              try clear hfz14_2
              try clear hfz14_3
              try clear hfz14_4
              try clear hfz14_5
              try clear hfz14_6
              try clear hfz14_7
              try clear hfz16_0
              try clear hfz16_1
              try clear hfz16_2
              try clear hfz16_3
              try clear hfz16_4
              try clear hfz16_5
              try clear hfz16_6
              try clear hfz16_7
              try clear hx286_0
              try clear hx286_1
              try clear hx286_2
              try clear hx286_3
              try clear hx286_4
              try clear hx286_5
              try clear hx286_6
              try clear hx286_7
              try clear p286
              try clear q286
              obtain ⟨kq, x288002_7, HA, HJ7, HO_3, BK287, HB⟩ := hcut
              cases kq with
              | zero => exact absurd HA.out (by simp [selvageref13_Again.j1])
              | succ kj7 =>
                have H := HA.out
                clear HA
                simp only [selvageref13_Again.j1] at H
                replace H := Option.bind_eq_some_iff.mp H
                obtain ⟨t290, A170, H⟩ := H
                replace H : (if t290 = true then ((selvageref13_Meant.f kj7 l0 ((rd_T40 l0 x4_1).f3)).bind fun t291 => (selvageref13_Again.j2 kj7 l0 x3_1 x4_1 ((rd_T40 l0 x4_1).f0) ((rd_T40 l0 x4_1).f1) x288002_7 t291 ((rd_T40 l0 x4_1).f4) ((rd_T40 l0 x4_1).f5) ((rd_T40 l0 x4_1).f6) ((rd_T40 l0 x4_1).f7))) else (selvageref13_Again.j2 kj7 l0 x3_1 x4_1 ((rd_T40 l0 x4_1).f0) ((rd_T40 l0 x4_1).f1) x288002_7 ((rd_T40 l0 x4_1).f3) ((rd_T40 l0 x4_1).f4) ((rd_T40 l0 x4_1).f5) ((rd_T40 l0 x4_1).f6) ((rd_T40 l0 x4_1).f7))) = some r := H
                have A17 := Aside0.mk A170
                clear A170
                have HC18 := Aside0.mk H
                clear H
                have hcz19_0 : wc.cell? ⟨gb287, 0, none⟩ = some (.int .i64 ((rd_T40 l0 x4_1).f0)) := (blk_cell BK287.out 0).trans rfl
                have hcz19_1 : wc.cell? ⟨gb287, 1, none⟩ = some (.int .i64 ((rd_T40 l0 x4_1).f1)) := (blk_cell BK287.out 1).trans rfl
                have hcz19_2 : wc.cell? ⟨gb287, 2, none⟩ = some (.int .i64 x288002_7) := (blk_cell BK287.out 2).trans rfl
                have hcz19_3 : wc.cell? ⟨gb287, 3, none⟩ = some (.int .i64 ((rd_T40 l0 x4_1).f3)) := (blk_cell BK287.out 3).trans rfl
                have hcz19_4 : wc.cell? ⟨gb287, 4, none⟩ = some (.int .i64 ((rd_T40 l0 x4_1).f4)) := (blk_cell BK287.out 4).trans rfl
                have hcz19_5 : wc.cell? ⟨gb287, 5, none⟩ = some (.int .i64 ((rd_T40 l0 x4_1).f5)) := (blk_cell BK287.out 5).trans rfl
                have hcz19_6 : wc.cell? ⟨gb287, 6, none⟩ = some (.int .i64 ((rd_T40 l0 x4_1).f6)) := (blk_cell BK287.out 6).trans rfl
                have hcz19_7 : wc.cell? ⟨gb287, 7, none⟩ = some (.int .i64 ((rd_T40 l0 x4_1).f7)) := (blk_cell BK287.out 7).trans rfl
                have hfz19_0 := blk_frozen BK287.out 0
                have hfz19_1 := blk_frozen BK287.out 1
                have hfz19_2 := blk_frozen BK287.out 2
                have hfz19_3 := blk_frozen BK287.out 3
                have hfz19_4 := blk_frozen BK287.out 4
                have hfz19_5 := blk_frozen BK287.out 5
                have hfz19_6 := blk_frozen BK287.out 6
                have hfz19_7 := blk_frozen BK287.out 7
                go_upto_if 31 with (first | ((with_reducible refine gate_callee (f := 20) rfl ?_); refine goesL_ (some 31) rfl rfl Try.func20 (by kernel_rfl) rfl #[.int .i64 ((rd_T40 l0 x4_1).f0), .int .u8 98] rfl (by (try simp only [List.map_toArray, List.map_cons, List.map_nil]); first | done | rfl | (simp only [List.length_drop, List.length_take]; rfl)) ?_; (with_reducible refine (selvageref10_Has.calls kj7 ((rd_T40 l0 x4_1).f0) 98 t290 _ A17.out).mono ?_); rintro e w' ⟨rfl, ⟨nd, rfl⟩⟩; refine ⟨_, rfl, ?_⟩))
                (try simp only [Act.put, List.setIfInBounds_toArray, List.set_cons_zero, List.set_cons_succ])
                go_cut [] (fun wc => ∃ (kq : Nat) (x288003_17 : Int), Aside0 (selvageref13_Again.j2 kq l0 x3_1 x4_1 ((rd_T40 l0 x4_1).f0) ((rd_T40 l0 x4_1).f1) x288002_7 x288003_17 ((rd_T40 l0 x4_1).f4) ((rd_T40 l0 x4_1).f5) ((rd_T40 l0 x4_1).f6) ((rd_T40 l0 x4_1).f7) = some r) ∧ Aside0 (kq ≤ kj7) ∧ Aside0 (Kd.R k40 40 wc w.heap.size (fun k_ => k_ ≠ gb287) u3 x3_1) ∧ Aside0 (wc.heap[gb287]? = some (.cells #[.int .i64 ((rd_T40 l0 x4_1).f0), .int .i64 ((rd_T40 l0 x4_1).f1), .int .i64 x288002_7, .int .i64 x288003_17, .int .i64 ((rd_T40 l0 x4_1).f4), .int .i64 ((rd_T40 l0 x4_1).f5), .int .i64 ((rd_T40 l0 x4_1).f6), .int .i64 ((rd_T40 l0 x4_1).f7)] 40 (0, 0))) ∧ Aside0 (Below w.heap.size w wc))
                case first =>
                  have H := HC18.out
                  clear HC18
                  by_cases c20 : t290 = true
                  · subst c20
                    have H1 : ((selvageref13_Meant.f kj7 l0 ((rd_T40 l0 x4_1).f3)).bind fun t291 => (selvageref13_Again.j2 kj7 l0 x3_1 x4_1 ((rd_T40 l0 x4_1).f0) ((rd_T40 l0 x4_1).f1) x288002_7 t291 ((rd_T40 l0 x4_1).f4) ((rd_T40 l0 x4_1).f5) ((rd_T40 l0 x4_1).f6) ((rd_T40 l0 x4_1).f7))) = some r := by rw [if_pos rfl] at H; exact H
                    clear H
                    have H := H1
                    clear H1
                    replace H := Option.bind_eq_some_iff.mp H
                    obtain ⟨t291, A210, H⟩ := H
                    replace H : (selvageref13_Again.j2 kj7 l0 x3_1 x4_1 ((rd_T40 l0 x4_1).f0) ((rd_T40 l0 x4_1).f1) x288002_7 t291 ((rd_T40 l0 x4_1).f4) ((rd_T40 l0 x4_1).f5) ((rd_T40 l0 x4_1).f6) ((rd_T40 l0 x4_1).f7)) = some r := H
                    have A21 := Aside0.mk A210
                    clear A210
                    have H' := Aside0.mk H
                    clear H
                    have hcz22_0 : wc.cell? ⟨gb287, 0, none⟩ = some (.int .i64 ((rd_T40 l0 x4_1).f0)) := (blk_cell BK287.out 0).trans rfl
                    have hcz22_1 : wc.cell? ⟨gb287, 1, none⟩ = some (.int .i64 ((rd_T40 l0 x4_1).f1)) := (blk_cell BK287.out 1).trans rfl
                    have hcz22_2 : wc.cell? ⟨gb287, 2, none⟩ = some (.int .i64 x288002_7) := (blk_cell BK287.out 2).trans rfl
                    have hcz22_3 : wc.cell? ⟨gb287, 3, none⟩ = some (.int .i64 ((rd_T40 l0 x4_1).f3)) := (blk_cell BK287.out 3).trans rfl
                    have hcz22_4 : wc.cell? ⟨gb287, 4, none⟩ = some (.int .i64 ((rd_T40 l0 x4_1).f4)) := (blk_cell BK287.out 4).trans rfl
                    have hcz22_5 : wc.cell? ⟨gb287, 5, none⟩ = some (.int .i64 ((rd_T40 l0 x4_1).f5)) := (blk_cell BK287.out 5).trans rfl
                    have hcz22_6 : wc.cell? ⟨gb287, 6, none⟩ = some (.int .i64 ((rd_T40 l0 x4_1).f6)) := (blk_cell BK287.out 6).trans rfl
                    have hcz22_7 : wc.cell? ⟨gb287, 7, none⟩ = some (.int .i64 ((rd_T40 l0 x4_1).f7)) := (blk_cell BK287.out 7).trans rfl
                    have hfz22_0 := blk_frozen BK287.out 0
                    have hfz22_1 := blk_frozen BK287.out 1
                    have hfz22_2 := blk_frozen BK287.out 2
                    have hfz22_3 := blk_frozen BK287.out 3
                    have hfz22_4 := blk_frozen BK287.out 4
                    have hfz22_5 := blk_frozen BK287.out 5
                    have hfz22_6 := blk_frozen BK287.out 6
                    have hfz22_7 := blk_frozen BK287.out 7
                    go_wp2_with (first | ((with_reducible refine gate_callee (f := 45) rfl ?_); refine goesL_ (some 35) rfl rfl Try.func45 (by kernel_rfl) rfl #[.slice (some ad286) l0.length c0, .int .i64 ((rd_T40 l0 x4_1).f3)] rfl (by (try simp only [List.map_toArray, List.map_cons, List.map_nil]); first | done | rfl | (simp only [List.length_drop, List.length_take]; rfl)) ?_; (with_reducible refine (selvageref13_Meant.calls kj7 _ _ l0 ((rd_T40 l0 x4_1).f3) t291 _ ?side1 ?side2 A21.out).mono ?_); (case side1 => repeat (first | exact (Kd.C_below HR0.out HB.out) | (with_reducible refine Kd.C_alloc ?_ _) | (with_reducible refine Kd.C_drewN ?_ _) | (with_reducible refine Kd.C_drew ?_))); (case side2 => exact HC0.out); rintro e w23 ⟨rfl, hb⟩; refine ⟨_, rfl, ?_⟩; have n0_ := Aside0.mk (Kd.R_below (by (with_reducible repeat (first | apply Kd.R_alloc | apply Kd.R_drewN | apply Kd.R_drew)); exact HO_3.out) hb); have n1_ := Aside0.mk (blk_below (g := gb287) (o := .cells #[.int .i64 ((rd_T40 l0 x4_1).f0), .int .i64 ((rd_T40 l0 x4_1).f1), .int .i64 x288002_7, .int .i64 ((rd_T40 l0 x4_1).f3), .int .i64 ((rd_T40 l0 x4_1).f4), .int .i64 ((rd_T40 l0 x4_1).f5), .int .i64 ((rd_T40 l0 x4_1).f6), .int .i64 ((rd_T40 l0 x4_1).f7)] 40 (0, 0)) (by (with_reducible repeat (first | refine blk_drewN ?_ _ | refine blk_drew ?_ | refine blk_alloc ?_ _)); exact BK287.out) hb); have n2_ := Aside0.mk (below_step (by repeat (first | (with_reducible first | exact HB.out | apply below_alloc | apply pw_below_drewN | apply below_drew1 | refine below_set ?_ GE287.out) | exact HB.out)) hb); clear HO_3; clear BK287; clear HB; have HO_3 := n0_; have BK287 := n1_; have HB := n2_; clear n0_ n1_ n2_; (try clear hb); (try clear hb2); (try clear hk); (try clear hi); have hcz24_0 : w23.cell? ⟨gb287, 0, none⟩ = some (.int .i64 ((rd_T40 l0 x4_1).f0)) := (blk_cell BK287.out 0).trans rfl; have hcz24_1 : w23.cell? ⟨gb287, 1, none⟩ = some (.int .i64 ((rd_T40 l0 x4_1).f1)) := (blk_cell BK287.out 1).trans rfl; have hcz24_2 : w23.cell? ⟨gb287, 2, none⟩ = some (.int .i64 x288002_7) := (blk_cell BK287.out 2).trans rfl; have hcz24_3 : w23.cell? ⟨gb287, 3, none⟩ = some (.int .i64 ((rd_T40 l0 x4_1).f3)) := (blk_cell BK287.out 3).trans rfl; have hcz24_4 : w23.cell? ⟨gb287, 4, none⟩ = some (.int .i64 ((rd_T40 l0 x4_1).f4)) := (blk_cell BK287.out 4).trans rfl; have hcz24_5 : w23.cell? ⟨gb287, 5, none⟩ = some (.int .i64 ((rd_T40 l0 x4_1).f5)) := (blk_cell BK287.out 5).trans rfl; have hcz24_6 : w23.cell? ⟨gb287, 6, none⟩ = some (.int .i64 ((rd_T40 l0 x4_1).f6)) := (blk_cell BK287.out 6).trans rfl; have hcz24_7 : w23.cell? ⟨gb287, 7, none⟩ = some (.int .i64 ((rd_T40 l0 x4_1).f7)) := (blk_cell BK287.out 7).trans rfl; have hfz24_0 := blk_frozen BK287.out 0; have hfz24_1 := blk_frozen BK287.out 1; have hfz24_2 := blk_frozen BK287.out 2; have hfz24_3 := blk_frozen BK287.out 3; have hfz24_4 := blk_frozen BK287.out 4; have hfz24_5 := blk_frozen BK287.out 5; have hfz24_6 := blk_frozen BK287.out 6; have hfz24_7 := blk_frozen BK287.out 7))
                    go_meet
                    case rel => exact ⟨_, (t291), H', ⟨by have := HK1.out; have := HJ7.out; first | omega | exact Nat.le_refl _⟩, ⟨by (with_reducible repeat (first | apply Kd.R_alloc | apply Kd.R_drewN | apply Kd.R_drew)); exact Kd.R_mono (Kd.R_far (p := ⟨gb287, 3, none⟩) (Kd.R_mono HO_3.out (fun k_ hk => (⟨hk, hk⟩ : _ ∧ k_ ≠ gb287))) (fun _ hk => hk.2) (.int .i64 t291)) (fun _ hk => hk.1)⟩, ⟨by (with_reducible repeat (first | refine blk_drewN ?_ _ | refine blk_drew ?_ | refine blk_alloc ?_ _)); refine blk_put (cs := #[.int .i64 ((rd_T40 l0 x4_1).f0), .int .i64 ((rd_T40 l0 x4_1).f1), .int .i64 x288002_7, .int .i64 ((rd_T40 l0 x4_1).f3), .int .i64 ((rd_T40 l0 x4_1).f4), .int .i64 ((rd_T40 l0 x4_1).f5), .int .i64 ((rd_T40 l0 x4_1).f6), .int .i64 ((rd_T40 l0 x4_1).f7)]) ?_ 3 _ rfl; (with_reducible repeat (first | refine blk_drewN ?_ _ | refine blk_drew ?_ | refine blk_alloc ?_ _)); exact BK287.out⟩, ⟨by repeat (first | (with_reducible first | exact HB.out | apply below_alloc | apply pw_below_drewN | apply below_drew1 | refine below_set ?_ GE287.out) | exact HB.out)⟩⟩
                  · replace c20 := Bool.eq_false_iff.mpr c20
                    subst c20
                    have H1 : (selvageref13_Again.j2 kj7 l0 x3_1 x4_1 ((rd_T40 l0 x4_1).f0) ((rd_T40 l0 x4_1).f1) x288002_7 ((rd_T40 l0 x4_1).f3) ((rd_T40 l0 x4_1).f4) ((rd_T40 l0 x4_1).f5) ((rd_T40 l0 x4_1).f6) ((rd_T40 l0 x4_1).f7)) = some r := by rw [if_neg (show ¬ (false = true) by decide)] at H; exact H
                    clear H
                    have H := H1
                    clear H1
                    have H' := Aside0.mk H
                    clear H
                    go_wp2
                    go_meet
                    case rel => exact ⟨_, (((rd_T40 l0 x4_1).f3)), H', ⟨by have := HK1.out; have := HJ7.out; first | omega | exact Nat.le_refl _⟩, ⟨by (with_reducible repeat (first | apply Kd.R_alloc | apply Kd.R_drewN | apply Kd.R_drew)); exact HO_3.out⟩, ⟨by (with_reducible repeat (first | refine blk_drewN ?_ _ | refine blk_drew ?_ | refine blk_alloc ?_ _)); exact BK287.out⟩, ⟨by repeat (first | (with_reducible first | exact HB.out | apply below_alloc | apply pw_below_drewN | apply below_drew1 | refine below_set ?_ GE287.out) | exact HB.out)⟩⟩
                case rest =>
                  clear HC18
                  try clear c1
                  try clear c2
                  try clear c2b0
                  try clear p2
                  try clear q2
                  try clear hx2
                  try clear c3
                  try clear c4
                  try clear c6
                  try clear c6b0
                  try clear p6
                  try clear c12
                  try clear c20
                  try clear hcz11_0
                  try clear hcz11_1
                  try clear hcz11_2
                  try clear hcz11_3
                  try clear hcz11_4
                  try clear hcz11_5
                  try clear hcz11_6
                  try clear hcz11_7
                  try clear hcz14_0
                  try clear hcz14_1
                  try clear hcz14_2
                  try clear hcz14_3
                  try clear hcz14_4
                  try clear hcz14_5
                  try clear hcz14_6
                  try clear hcz14_7
                  try clear hcz16_0
                  try clear hcz16_1
                  try clear hcz16_2
                  try clear hcz16_3
                  try clear hcz16_4
                  try clear hcz16_5
                  try clear hcz16_6
                  try clear hcz16_7
                  try clear hcz19_0
                  try clear hcz19_1
                  try clear hcz19_2
                  try clear hcz19_3
                  try clear hcz19_4
                  try clear hcz19_5
                  try clear hcz19_6
                  try clear hcz19_7
                  try clear hcz22_0
                  try clear hcz22_1
                  try clear hcz22_2
                  try clear hcz22_3
                  try clear hcz22_4
                  try clear hcz22_5
                  try clear hcz22_6
                  try clear hcz22_7
                  try clear hcz24_0
                  try clear hcz24_1
                  try clear hcz24_2
                  try clear hcz24_3
                  try clear hcz24_4
                  try clear hcz24_5
                  try clear hcz24_6
                  try clear hcz24_7
                  try clear hfz11_0
                  try clear hfz11_1
                  try clear hfz11_2
                  try clear hfz11_3
                  try clear hfz11_4
                  try clear hfz11_5
                  try clear hfz11_6
                  try clear hfz11_7
                  try clear hfz14_0
                  try clear hfz14_1
                  try clear hfz14_2
                  try clear hfz14_3
                  try clear hfz14_4
                  try clear hfz14_5
                  try clear hfz14_6
                  try clear hfz14_7
                  try clear hfz16_0
                  try clear hfz16_1
                  try clear hfz16_2
                  try clear hfz16_3
                  try clear hfz16_4
                  try clear hfz16_5
                  try clear hfz16_6
                  try clear hfz16_7
                  try clear hfz19_0
                  try clear hfz19_1
                  try clear hfz19_2
                  try clear hfz19_3
                  try clear hfz19_4
                  try clear hfz19_5
                  try clear hfz19_6
                  try clear hfz19_7
                  try clear hfz22_0
                  try clear hfz22_1
                  try clear hfz22_2
                  try clear hfz22_3
                  try clear hfz22_4
                  try clear hfz22_5
                  try clear hfz22_6
                  try clear hfz22_7
                  try clear hfz24_0
                  try clear hfz24_1
                  try clear hfz24_2
                  try clear hfz24_3
                  try clear hfz24_4
                  try clear hfz24_5
                  try clear hfz24_6
                  try clear hfz24_7
                  try clear hx286_0
                  try clear hx286_1
                  try clear hx286_2
                  try clear hx286_3
                  try clear hx286_4
                  try clear hx286_5
                  try clear hx286_6
                  try clear hx286_7
                  try clear p2
                  try clear p286
                  try clear p6
                  try clear q2
                  try clear q286
                  obtain ⟨kq, x288003_17, HA, HJ17, HO_3, BK287, HB⟩ := hcut
                  cases kq with
                  | zero => exact absurd HA.out (by simp [selvageref13_Again.j2])
                  | succ kj17 =>
                    have H := HA.out
                    clear HA
                    simp only [selvageref13_Again.j2] at H
                    replace H := Option.bind_eq_some_iff.mp H
                    obtain ⟨t292, A250, H⟩ := H
                    replace H : (if t292 = true then (selvageref13_Again.l1 kj17 l0 x3_1 x4_1 0 0 ((rd_T40 l0 x4_1).f0) ((rd_T40 l0 x4_1).f1) x288002_7 x288003_17 ((rd_T40 l0 x4_1).f4) ((rd_T40 l0 x4_1).f5) ((rd_T40 l0 x4_1).f6) ((rd_T40 l0 x4_1).f7)) else (if x3_1.length < 2199023255552 then (selvageref13_Again.l0 kj17 l0 (x3_1 ++ [(⟨((rd_T40 l0 x4_1).f0), ((rd_T40 l0 x4_1).f1), x288002_7, x288003_17, ((rd_T40 l0 x4_1).f4), ((rd_T40 l0 x4_1).f5), ((rd_T40 l0 x4_1).f6), ((rd_T40 l0 x4_1).f7)⟩ : S40)]) (wrap64 (x4_1 + 1))) else (none))) = some r := H
                    have A25 := Aside0.mk A250
                    clear A250
                    by_cases c26 : t292 = true
                    · subst c26
                      have H1 : (selvageref13_Again.l1 kj17 l0 x3_1 x4_1 0 0 ((rd_T40 l0 x4_1).f0) ((rd_T40 l0 x4_1).f1) x288002_7 x288003_17 ((rd_T40 l0 x4_1).f4) ((rd_T40 l0 x4_1).f5) ((rd_T40 l0 x4_1).f6) ((rd_T40 l0 x4_1).f7)) = some r := by rw [if_pos rfl] at H; exact H
                      clear H
                      have H := H1
                      clear H1
                      have H' := Aside0.mk H
                      clear H
                      have hcz27_0 : wc.cell? ⟨gb287, 0, none⟩ = some (.int .i64 ((rd_T40 l0 x4_1).f0)) := (blk_cell BK287.out 0).trans rfl
                      have hcz27_1 : wc.cell? ⟨gb287, 1, none⟩ = some (.int .i64 ((rd_T40 l0 x4_1).f1)) := (blk_cell BK287.out 1).trans rfl
                      have hcz27_2 : wc.cell? ⟨gb287, 2, none⟩ = some (.int .i64 x288002_7) := (blk_cell BK287.out 2).trans rfl
                      have hcz27_3 : wc.cell? ⟨gb287, 3, none⟩ = some (.int .i64 x288003_17) := (blk_cell BK287.out 3).trans rfl
                      have hcz27_4 : wc.cell? ⟨gb287, 4, none⟩ = some (.int .i64 ((rd_T40 l0 x4_1).f4)) := (blk_cell BK287.out 4).trans rfl
                      have hcz27_5 : wc.cell? ⟨gb287, 5, none⟩ = some (.int .i64 ((rd_T40 l0 x4_1).f5)) := (blk_cell BK287.out 5).trans rfl
                      have hcz27_6 : wc.cell? ⟨gb287, 6, none⟩ = some (.int .i64 ((rd_T40 l0 x4_1).f6)) := (blk_cell BK287.out 6).trans rfl
                      have hcz27_7 : wc.cell? ⟨gb287, 7, none⟩ = some (.int .i64 ((rd_T40 l0 x4_1).f7)) := (blk_cell BK287.out 7).trans rfl
                      have hfz27_0 := blk_frozen BK287.out 0
                      have hfz27_1 := blk_frozen BK287.out 1
                      have hfz27_2 := blk_frozen BK287.out 2
                      have hfz27_3 := blk_frozen BK287.out 3
                      have hfz27_4 := blk_frozen BK287.out 4
                      have hfz27_5 := blk_frozen BK287.out 5
                      have hfz27_6 := blk_frozen BK287.out 6
                      have hfz27_7 := blk_frozen BK287.out 7
                      go_wp2_with (first | ((with_reducible refine gate_callee (f := 20) rfl ?_); refine goesL_ (some 39) rfl rfl Try.func20 (by kernel_rfl) rfl #[.int .i64 ((rd_T40 l0 x4_1).f0), .int .u8 116] rfl (by (try simp only [List.map_toArray, List.map_cons, List.map_nil]); first | done | rfl | (simp only [List.length_drop, List.length_take]; rfl)) ?_; (with_reducible refine (selvageref10_Has.calls kj17 ((rd_T40 l0 x4_1).f0) 116 true _ A25.out).mono ?_); rintro e w' ⟨rfl, ⟨nd, rfl⟩⟩; refine ⟨_, rfl, ?_⟩))
                      go_loopg [6, 7] kj17 (fun kq v6 v7 w' => ∃ (x6_4 : Int) (x7_4 : Int), v6 = .int .i64 x6_4 ∧ v7 = .int .i64 x7_4 ∧ Aside0 (selvageref13_Again.l1 kq l0 x3_1 x4_1 x6_4 x7_4 ((rd_T40 l0 x4_1).f0) ((rd_T40 l0 x4_1).f1) x288002_7 x288003_17 ((rd_T40 l0 x4_1).f4) ((rd_T40 l0 x4_1).f5) ((rd_T40 l0 x4_1).f6) ((rd_T40 l0 x4_1).f7) = some r) ∧ Aside0 (kq ≤ kj17) ∧ Aside0 (Kd.R k40 40 w' w.heap.size (fun k_ => k_ ≠ gb287) u3 x3_1) ∧ Aside0 (w'.heap[gb287]? = some (.cells #[.int .i64 ((rd_T40 l0 x4_1).f0), .int .i64 ((rd_T40 l0 x4_1).f1), .int .i64 x288002_7, .int .i64 x288003_17, .int .i64 ((rd_T40 l0 x4_1).f4), .int .i64 ((rd_T40 l0 x4_1).f5), .int .i64 ((rd_T40 l0 x4_1).f6), .int .i64 ((rd_T40 l0 x4_1).f7)] 40 (0, 0))) ∧ Aside0 (Below w.heap.size w w'))
                      case atStart => exact ⟨(0), (0), (by first | rfl | (simp; done) | (simp [*]; done)), (by first | rfl | (simp; done) | (simp [*]; done)), H', ⟨Nat.le_refl _⟩, ⟨by (with_reducible repeat (first | apply Kd.R_alloc | apply Kd.R_drewN | apply Kd.R_drew)); exact HO_3.out⟩, ⟨by (with_reducible repeat (first | refine blk_drewN ?_ _ | refine blk_drew ?_ | refine blk_alloc ?_ _)); exact BK287.out⟩, ⟨by repeat (first | (with_reducible first | exact HB.out | apply below_alloc | apply pw_below_drewN | apply below_drew1 | refine below_set ?_ GE287.out) | exact HB.out)⟩⟩
                      case round =>
                        clear H'
                        try clear c1
                        try clear c2
                        try clear c2b0
                        try clear p2
                        try clear q2
                        try clear hx2
                        try clear c3
                        try clear c4
                        try clear c6
                        try clear c6b0
                        try clear p6
                        try clear c12
                        try clear c20
                        try clear c26
                        try clear hcz11_0
                        try clear hcz11_1
                        try clear hcz11_2
                        try clear hcz11_3
                        try clear hcz11_4
                        try clear hcz11_5
                        try clear hcz11_6
                        try clear hcz11_7
                        try clear hcz14_0
                        try clear hcz14_1
                        try clear hcz14_2
                        try clear hcz14_3
                        try clear hcz14_4
                        try clear hcz14_5
                        try clear hcz14_6
                        try clear hcz14_7
                        try clear hcz16_0
                        try clear hcz16_1
                        try clear hcz16_2
                        try clear hcz16_3
                        try clear hcz16_4
                        try clear hcz16_5
                        try clear hcz16_6
                        try clear hcz16_7
                        try clear hcz19_0
                        try clear hcz19_1
                        try clear hcz19_2
                        try clear hcz19_3
                        try clear hcz19_4
                        try clear hcz19_5
                        try clear hcz19_6
                        try clear hcz19_7
                        try clear hcz22_0
                        try clear hcz22_1
                        try clear hcz22_2
                        try clear hcz22_3
                        try clear hcz22_4
                        try clear hcz22_5
                        try clear hcz22_6
                        try clear hcz22_7
                        try clear hcz24_0
                        try clear hcz24_1
                        try clear hcz24_2
                        try clear hcz24_3
                        try clear hcz24_4
                        try clear hcz24_5
                        try clear hcz24_6
                        try clear hcz24_7
                        try clear hcz27_0
                        try clear hcz27_1
                        try clear hcz27_2
                        try clear hcz27_3
                        try clear hcz27_4
                        try clear hcz27_5
                        try clear hcz27_6
                        try clear hcz27_7
                        try clear hfz11_0
                        try clear hfz11_1
                        try clear hfz11_2
                        try clear hfz11_3
                        try clear hfz11_4
                        try clear hfz11_5
                        try clear hfz11_6
                        try clear hfz11_7
                        try clear hfz14_0
                        try clear hfz14_1
                        try clear hfz14_2
                        try clear hfz14_3
                        try clear hfz14_4
                        try clear hfz14_5
                        try clear hfz14_6
                        try clear hfz14_7
                        try clear hfz16_0
                        try clear hfz16_1
                        try clear hfz16_2
                        try clear hfz16_3
                        try clear hfz16_4
                        try clear hfz16_5
                        try clear hfz16_6
                        try clear hfz16_7
                        try clear hfz19_0
                        try clear hfz19_1
                        try clear hfz19_2
                        try clear hfz19_3
                        try clear hfz19_4
                        try clear hfz19_5
                        try clear hfz19_6
                        try clear hfz19_7
                        try clear hfz22_0
                        try clear hfz22_1
                        try clear hfz22_2
                        try clear hfz22_3
                        try clear hfz22_4
                        try clear hfz22_5
                        try clear hfz22_6
                        try clear hfz22_7
                        try clear hfz24_0
                        try clear hfz24_1
                        try clear hfz24_2
                        try clear hfz24_3
                        try clear hfz24_4
                        try clear hfz24_5
                        try clear hfz24_6
                        try clear hfz24_7
                        try clear hfz27_0
                        try clear hfz27_1
                        try clear hfz27_2
                        try clear hfz27_3
                        try clear hfz27_4
                        try clear hfz27_5
                        try clear hfz27_6
                        try clear hfz27_7
                        try clear hx286_0
                        try clear hx286_1
                        try clear hx286_2
                        try clear hx286_3
                        try clear hx286_4
                        try clear hx286_5
                        try clear hx286_6
                        try clear hx286_7
                        try clear p2
                        try clear p286
                        try clear p6
                        try clear q2
                        try clear q286
                        obtain ⟨x6_4, x7_4, rfl, rfl, HA, HK4, HO_3, BK287, HB⟩ := hrel
                        cases gk with
                        | zero => exact absurd HA.out (by simp [selvageref13_Again.l1])
                        | succ k4 =>
                          have H := HA.out
                          clear HA
                          simp only [selvageref13_Again.l1] at H
                          by_cases c28 : x7_4 < ((rd_T40 l0 x4_1).f7)
                          · rw [if_pos c28] at H
                            have c28b0 : decide (x7_4 < ((rd_T40 l0 x4_1).f7)) = true := decide_eq_true c28
                            clear c28
                            replace H := Option.bind_eq_some_iff.mp H
                            obtain ⟨t293, A290, H⟩ := H
                            replace H : (if t293 = true then (selvageref13_Again.l1 k4 l0 x3_1 x4_1 x6_4 (wrap64 (x7_4 + 1)) ((rd_T40 l0 x4_1).f0) ((rd_T40 l0 x4_1).f1) x288002_7 x288003_17 ((rd_T40 l0 x4_1).f4) ((rd_T40 l0 x4_1).f5) ((rd_T40 l0 x4_1).f6) ((rd_T40 l0 x4_1).f7)) else (selvageref13_Again.l1 k4 l0 x3_1 x4_1 (wrap64 (x6_4 + 1)) (wrap64 (x7_4 + 1)) ((rd_T40 l0 x4_1).f0) ((rd_T40 l0 x4_1).f1) x288002_7 x288003_17 ((rd_T40 l0 x4_1).f4) ((rd_T40 l0 x4_1).f5) ((rd_T40 l0 x4_1).f6) ((rd_T40 l0 x4_1).f7))) = some r := H
                            have A29 := Aside0.mk A290
                            clear A290
                            by_cases c30 : t293 = true
                            · subst c30
                              have H1 : (selvageref13_Again.l1 k4 l0 x3_1 x4_1 x6_4 (wrap64 (x7_4 + 1)) ((rd_T40 l0 x4_1).f0) ((rd_T40 l0 x4_1).f1) x288002_7 x288003_17 ((rd_T40 l0 x4_1).f4) ((rd_T40 l0 x4_1).f5) ((rd_T40 l0 x4_1).f6) ((rd_T40 l0 x4_1).f7)) = some r := by rw [if_pos rfl] at H; exact H
                              clear H
                              have H := H1
                              clear H1
                              have H' := Aside0.mk H
                              clear H
                              have hcz31_0 : wr.cell? ⟨gb287, 0, none⟩ = some (.int .i64 ((rd_T40 l0 x4_1).f0)) := (blk_cell BK287.out 0).trans rfl
                              have hcz31_1 : wr.cell? ⟨gb287, 1, none⟩ = some (.int .i64 ((rd_T40 l0 x4_1).f1)) := (blk_cell BK287.out 1).trans rfl
                              have hcz31_2 : wr.cell? ⟨gb287, 2, none⟩ = some (.int .i64 x288002_7) := (blk_cell BK287.out 2).trans rfl
                              have hcz31_3 : wr.cell? ⟨gb287, 3, none⟩ = some (.int .i64 x288003_17) := (blk_cell BK287.out 3).trans rfl
                              have hcz31_4 : wr.cell? ⟨gb287, 4, none⟩ = some (.int .i64 ((rd_T40 l0 x4_1).f4)) := (blk_cell BK287.out 4).trans rfl
                              have hcz31_5 : wr.cell? ⟨gb287, 5, none⟩ = some (.int .i64 ((rd_T40 l0 x4_1).f5)) := (blk_cell BK287.out 5).trans rfl
                              have hcz31_6 : wr.cell? ⟨gb287, 6, none⟩ = some (.int .i64 ((rd_T40 l0 x4_1).f6)) := (blk_cell BK287.out 6).trans rfl
                              have hcz31_7 : wr.cell? ⟨gb287, 7, none⟩ = some (.int .i64 ((rd_T40 l0 x4_1).f7)) := (blk_cell BK287.out 7).trans rfl
                              have hfz31_0 := blk_frozen BK287.out 0
                              have hfz31_1 := blk_frozen BK287.out 1
                              have hfz31_2 := blk_frozen BK287.out 2
                              have hfz31_3 := blk_frozen BK287.out 3
                              have hfz31_4 := blk_frozen BK287.out 4
                              have hfz31_5 := blk_frozen BK287.out 5
                              have hfz31_6 := blk_frozen BK287.out 6
                              have hfz31_7 := blk_frozen BK287.out 7
                              go_wp2_with (first | ((with_reducible refine gate_callee (f := 28) rfl ?_); refine goesL_ (some 48) rfl rfl Try.func28 (by kernel_rfl) rfl #[.slice (some ad286) l0.length c0, .int .i64 x7_4] rfl (by (try simp only [List.map_toArray, List.map_cons, List.map_nil]); first | done | rfl | (simp only [List.length_drop, List.length_take]; rfl)) ?_; (with_reducible refine (selvageref13_Spare.calls k4 _ _ l0 x7_4 true _ ?side1 ?side2 A29.out).mono ?_); (case side1 => repeat (first | exact (Kd.C_below HR0.out HB.out) | (with_reducible refine Kd.C_alloc ?_ _) | (with_reducible refine Kd.C_drewN ?_ _) | (with_reducible refine Kd.C_drew ?_))); (case side2 => exact HC0.out); rintro e w32 ⟨rfl, hb⟩; refine ⟨_, rfl, ?_⟩; have n0_ := Aside0.mk (Kd.R_below (by (with_reducible repeat (first | apply Kd.R_alloc | apply Kd.R_drewN | apply Kd.R_drew)); exact HO_3.out) hb); have n1_ := Aside0.mk (blk_below (g := gb287) (o := .cells #[.int .i64 ((rd_T40 l0 x4_1).f0), .int .i64 ((rd_T40 l0 x4_1).f1), .int .i64 x288002_7, .int .i64 x288003_17, .int .i64 ((rd_T40 l0 x4_1).f4), .int .i64 ((rd_T40 l0 x4_1).f5), .int .i64 ((rd_T40 l0 x4_1).f6), .int .i64 ((rd_T40 l0 x4_1).f7)] 40 (0, 0)) (by (with_reducible repeat (first | refine blk_drewN ?_ _ | refine blk_drew ?_ | refine blk_alloc ?_ _)); exact BK287.out) hb); have n2_ := Aside0.mk (below_step (by repeat (first | (with_reducible first | exact HB.out | apply below_alloc | apply pw_below_drewN | apply below_drew1 | refine below_set ?_ GE287.out) | exact HB.out)) hb); clear HO_3; clear BK287; clear HB; have HO_3 := n0_; have BK287 := n1_; have HB := n2_; clear n0_ n1_ n2_; (try clear hb); (try clear hb2); (try clear hk); (try clear hi)))
                              go_roundg k4
                              case measure => have := HK1.out; have := HJ7.out; have := HJ17.out; have := HK4.out; omega
                              case rel => exact ⟨(x6_4), (wrap64 (x7_4 + 1)), (by first | rfl | (simp; done) | (simp [*]; done)), (by first | rfl | (simp; done) | (simp [*]; done)), H', ⟨by have := HK1.out; have := HJ7.out; have := HJ17.out; have := HK4.out; omega⟩, ⟨by (with_reducible repeat (first | apply Kd.R_alloc | apply Kd.R_drewN | apply Kd.R_drew)); exact HO_3.out⟩, ⟨by (with_reducible repeat (first | refine blk_drewN ?_ _ | refine blk_drew ?_ | refine blk_alloc ?_ _)); exact BK287.out⟩, ⟨by repeat (first | (with_reducible first | exact HB.out | apply below_alloc | apply pw_below_drewN | apply below_drew1 | refine below_set ?_ GE287.out) | exact HB.out)⟩⟩
                            · replace c30 := Bool.eq_false_iff.mpr c30
                              subst c30
                              have H1 : (selvageref13_Again.l1 k4 l0 x3_1 x4_1 (wrap64 (x6_4 + 1)) (wrap64 (x7_4 + 1)) ((rd_T40 l0 x4_1).f0) ((rd_T40 l0 x4_1).f1) x288002_7 x288003_17 ((rd_T40 l0 x4_1).f4) ((rd_T40 l0 x4_1).f5) ((rd_T40 l0 x4_1).f6) ((rd_T40 l0 x4_1).f7)) = some r := by rw [if_neg (show ¬ (false = true) by decide)] at H; exact H
                              clear H
                              have H := H1
                              clear H1
                              have H' := Aside0.mk H
                              clear H
                              have hcz33_0 : wr.cell? ⟨gb287, 0, none⟩ = some (.int .i64 ((rd_T40 l0 x4_1).f0)) := (blk_cell BK287.out 0).trans rfl
                              have hcz33_1 : wr.cell? ⟨gb287, 1, none⟩ = some (.int .i64 ((rd_T40 l0 x4_1).f1)) := (blk_cell BK287.out 1).trans rfl
                              have hcz33_2 : wr.cell? ⟨gb287, 2, none⟩ = some (.int .i64 x288002_7) := (blk_cell BK287.out 2).trans rfl
                              have hcz33_3 : wr.cell? ⟨gb287, 3, none⟩ = some (.int .i64 x288003_17) := (blk_cell BK287.out 3).trans rfl
                              have hcz33_4 : wr.cell? ⟨gb287, 4, none⟩ = some (.int .i64 ((rd_T40 l0 x4_1).f4)) := (blk_cell BK287.out 4).trans rfl
                              have hcz33_5 : wr.cell? ⟨gb287, 5, none⟩ = some (.int .i64 ((rd_T40 l0 x4_1).f5)) := (blk_cell BK287.out 5).trans rfl
                              have hcz33_6 : wr.cell? ⟨gb287, 6, none⟩ = some (.int .i64 ((rd_T40 l0 x4_1).f6)) := (blk_cell BK287.out 6).trans rfl
                              have hcz33_7 : wr.cell? ⟨gb287, 7, none⟩ = some (.int .i64 ((rd_T40 l0 x4_1).f7)) := (blk_cell BK287.out 7).trans rfl
                              have hfz33_0 := blk_frozen BK287.out 0
                              have hfz33_1 := blk_frozen BK287.out 1
                              have hfz33_2 := blk_frozen BK287.out 2
                              have hfz33_3 := blk_frozen BK287.out 3
                              have hfz33_4 := blk_frozen BK287.out 4
                              have hfz33_5 := blk_frozen BK287.out 5
                              have hfz33_6 := blk_frozen BK287.out 6
                              have hfz33_7 := blk_frozen BK287.out 7
                              go_wp2_with (first | ((with_reducible refine gate_callee (f := 28) rfl ?_); refine goesL_ (some 48) rfl rfl Try.func28 (by kernel_rfl) rfl #[.slice (some ad286) l0.length c0, .int .i64 x7_4] rfl (by (try simp only [List.map_toArray, List.map_cons, List.map_nil]); first | done | rfl | (simp only [List.length_drop, List.length_take]; rfl)) ?_; (with_reducible refine (selvageref13_Spare.calls k4 _ _ l0 x7_4 false _ ?side1 ?side2 A29.out).mono ?_); (case side1 => repeat (first | exact (Kd.C_below HR0.out HB.out) | (with_reducible refine Kd.C_alloc ?_ _) | (with_reducible refine Kd.C_drewN ?_ _) | (with_reducible refine Kd.C_drew ?_))); (case side2 => exact HC0.out); rintro e w34 ⟨rfl, hb⟩; refine ⟨_, rfl, ?_⟩; have n0_ := Aside0.mk (Kd.R_below (by (with_reducible repeat (first | apply Kd.R_alloc | apply Kd.R_drewN | apply Kd.R_drew)); exact HO_3.out) hb); have n1_ := Aside0.mk (blk_below (g := gb287) (o := .cells #[.int .i64 ((rd_T40 l0 x4_1).f0), .int .i64 ((rd_T40 l0 x4_1).f1), .int .i64 x288002_7, .int .i64 x288003_17, .int .i64 ((rd_T40 l0 x4_1).f4), .int .i64 ((rd_T40 l0 x4_1).f5), .int .i64 ((rd_T40 l0 x4_1).f6), .int .i64 ((rd_T40 l0 x4_1).f7)] 40 (0, 0)) (by (with_reducible repeat (first | refine blk_drewN ?_ _ | refine blk_drew ?_ | refine blk_alloc ?_ _)); exact BK287.out) hb); have n2_ := Aside0.mk (below_step (by repeat (first | (with_reducible first | exact HB.out | apply below_alloc | apply pw_below_drewN | apply below_drew1 | refine below_set ?_ GE287.out) | exact HB.out)) hb); clear HO_3; clear BK287; clear HB; have HO_3 := n0_; have BK287 := n1_; have HB := n2_; clear n0_ n1_ n2_; (try clear hb); (try clear hb2); (try clear hk); (try clear hi)))
                              go_roundg k4
                              case measure => have := HK1.out; have := HJ7.out; have := HJ17.out; have := HK4.out; omega
                              case rel => exact ⟨(wrap64 (x6_4 + 1)), (wrap64 (x7_4 + 1)), (by first | rfl | (simp; done) | (simp [*]; done)), (by first | rfl | (simp; done) | (simp [*]; done)), H', ⟨by have := HK1.out; have := HJ7.out; have := HJ17.out; have := HK4.out; omega⟩, ⟨by (with_reducible repeat (first | apply Kd.R_alloc | apply Kd.R_drewN | apply Kd.R_drew)); exact HO_3.out⟩, ⟨by (with_reducible repeat (first | refine blk_drewN ?_ _ | refine blk_drew ?_ | refine blk_alloc ?_ _)); exact BK287.out⟩, ⟨by repeat (first | (with_reducible first | exact HB.out | apply below_alloc | apply pw_below_drewN | apply below_drew1 | refine below_set ?_ GE287.out) | exact HB.out)⟩⟩
                          · rw [if_neg c28] at H
                            have c28b0 : decide (x7_4 < ((rd_T40 l0 x4_1).f7)) = false := decide_eq_false c28
                            clear c28
                            by_cases c35 : x3_1.length < 2199023255552
                            · rw [if_pos c35] at H
                              have LMc35 := Aside0.mk c35
                              clear c35
                              obtain ⟨y294, hy294⟩ : ∃ y_ : List (S40), y_ = (x3_1 ++ [(⟨((rd_T40 l0 x4_1).f0), ((rd_T40 l0 x4_1).f1), x288002_7, x288003_17, ((rd_T40 l0 x4_1).f4), ((rd_T40 l0 x4_1).f5), ((rd_T40 l0 x4_1).f6), x6_4⟩ : S40)]) := ⟨_, rfl⟩
                              replace H : (selvageref13_Again.l0 k4 l0 y294 (wrap64 (x4_1 + 1))) = some r := by first | (rw [hy294]; with_reducible exact H) | (have H2_ := (Option.bind_some _ _).symm.trans H; rw [hy294]; with_reducible exact H2_) | (have H2_ := (Option.bind_some _ _).symm.trans H; with_reducible exact H2_) | with_reducible exact H | (rw [hy294]; exact H) | exact H
                              have Ny294 := Aside0.mk hy294
                              clear hy294
                              have H' := Aside0.mk H
                              clear H
                              have hcz36_0 : wr.cell? ⟨gb287, 0, none⟩ = some (.int .i64 ((rd_T40 l0 x4_1).f0)) := (blk_cell BK287.out 0).trans rfl
                              have hcz36_1 : wr.cell? ⟨gb287, 1, none⟩ = some (.int .i64 ((rd_T40 l0 x4_1).f1)) := (blk_cell BK287.out 1).trans rfl
                              have hcz36_2 : wr.cell? ⟨gb287, 2, none⟩ = some (.int .i64 x288002_7) := (blk_cell BK287.out 2).trans rfl
                              have hcz36_3 : wr.cell? ⟨gb287, 3, none⟩ = some (.int .i64 x288003_17) := (blk_cell BK287.out 3).trans rfl
                              have hcz36_4 : wr.cell? ⟨gb287, 4, none⟩ = some (.int .i64 ((rd_T40 l0 x4_1).f4)) := (blk_cell BK287.out 4).trans rfl
                              have hcz36_5 : wr.cell? ⟨gb287, 5, none⟩ = some (.int .i64 ((rd_T40 l0 x4_1).f5)) := (blk_cell BK287.out 5).trans rfl
                              have hcz36_6 : wr.cell? ⟨gb287, 6, none⟩ = some (.int .i64 ((rd_T40 l0 x4_1).f6)) := (blk_cell BK287.out 6).trans rfl
                              have hcz36_7 : wr.cell? ⟨gb287, 7, none⟩ = some (.int .i64 ((rd_T40 l0 x4_1).f7)) := (blk_cell BK287.out 7).trans rfl
                              have hfz36_0 := blk_frozen BK287.out 0
                              have hfz36_1 := blk_frozen BK287.out 1
                              have hfz36_2 := blk_frozen BK287.out 2
                              have hfz36_3 := blk_frozen BK287.out 3
                              have hfz36_4 := blk_frozen BK287.out 4
                              have hfz36_5 := blk_frozen BK287.out 5
                              have hfz36_6 := blk_frozen BK287.out 6
                              have hfz36_7 := blk_frozen BK287.out 7
                              go_wp2_with (first | ((with_reducible refine gate_builtin (b := .append) (xs := #[.tmp 54, .tmp 56]) rfl ?_); at_builtin; refine Kd.R_append k40 (w0 := w) w.heap.size rfl (.tmp 54) (.tmp 56) 22 40 (.agg #[(.int .i64 0), (.int .i64 0), (.int .i64 0), (.int .i64 0), (.int .i64 0), (.int .i64 0), (.int .i64 0), (.int .i64 0)]) 64 rfl Try.underlying22 info40 rfl (by decide) (by omega) u3 x3_1 (⟨((rd_T40 l0 x4_1).f0), ((rd_T40 l0 x4_1).f1), x288002_7, x288003_17, ((rd_T40 l0 x4_1).f4), ((rd_T40 l0 x4_1).f5), ((rd_T40 l0 x4_1).f6), x6_4⟩ : S40) [.int .i64 ((rd_T40 l0 x4_1).f0), .int .i64 ((rd_T40 l0 x4_1).f1), .int .i64 x288002_7, .int .i64 x288003_17, .int .i64 ((rd_T40 l0 x4_1).f4), .int .i64 ((rd_T40 l0 x4_1).f5), .int .i64 ((rd_T40 l0 x4_1).f6), .int .i64 x6_4] (fun k_ => k_ ≠ gb287) (fun _ => False) rfl (by first | (go_simp; done) | (go_simp; rfl)) ?aP (fun _ hk => hk.elim) ?aF ?aO ?aB ?aS ?aL ?_; (case aP => exact k40_mkM _ _ _ (⟨((rd_T40 l0 x4_1).f0), ((rd_T40 l0 x4_1).f1), x288002_7, x288003_17, ((rd_T40 l0 x4_1).f4), ((rd_T40 l0 x4_1).f5), ((rd_T40 l0 x4_1).f6), x6_4⟩ : S40)); (case aB => exact (by repeat (first | (with_reducible first | exact HB.out | apply below_alloc | apply pw_below_drewN | apply below_drew1 | refine below_set ?_ GE287.out) | exact HB.out))); (case aF => exact (fun k_ hk => Kd.freshB (g := gb287) (o := .cells #[.int .i64 ((rd_T40 l0 x4_1).f0), .int .i64 ((rd_T40 l0 x4_1).f1), .int .i64 x288002_7, .int .i64 x288003_17, .int .i64 ((rd_T40 l0 x4_1).f4), .int .i64 ((rd_T40 l0 x4_1).f5), .int .i64 ((rd_T40 l0 x4_1).f6), .int .i64 x6_4] 40 (0, 0)) (by (with_reducible repeat (first | refine blk_drewN ?_ _ | refine blk_drew ?_ | refine blk_alloc ?_ _)); refine blk_put (cs := #[.int .i64 ((rd_T40 l0 x4_1).f0), .int .i64 ((rd_T40 l0 x4_1).f1), .int .i64 x288002_7, .int .i64 x288003_17, .int .i64 ((rd_T40 l0 x4_1).f4), .int .i64 ((rd_T40 l0 x4_1).f5), .int .i64 ((rd_T40 l0 x4_1).f6), .int .i64 ((rd_T40 l0 x4_1).f7)]) ?_ 7 _ rfl; (with_reducible repeat (first | refine blk_drewN ?_ _ | refine blk_drew ?_ | refine blk_alloc ?_ _)); exact BK287.out) k_ hk)); (case aO => exact (by (with_reducible repeat (first | apply Kd.R_alloc | apply Kd.R_drewN | apply Kd.R_drew)); exact Kd.R_mono (Kd.R_far (p := ⟨gb287, 7, none⟩) (Kd.R_mono HO_3.out (fun k_ hk => (⟨hk, hk⟩ : _ ∧ k_ ≠ gb287))) (fun _ hk => hk.2) (.int .i64 x6_4)) (fun _ hk => hk.1))); (case aS => exact (below_size (by repeat (first | (with_reducible first | exact HB.out | apply below_alloc | apply pw_below_drewN | apply below_drew1 | refine below_set ?_ GE287.out) | exact HB.out)))); (case aL => have := LMc35.out; omega); intro v295 w37 ho hb hg hat; rw [← Ny294.out] at ho; have n0_ := Aside0.mk (blk_grown (g := gb287) (o := .cells #[.int .i64 ((rd_T40 l0 x4_1).f0), .int .i64 ((rd_T40 l0 x4_1).f1), .int .i64 x288002_7, .int .i64 x288003_17, .int .i64 ((rd_T40 l0 x4_1).f4), .int .i64 ((rd_T40 l0 x4_1).f5), .int .i64 ((rd_T40 l0 x4_1).f6), .int .i64 x6_4] 40 (0, 0)) (by (with_reducible repeat (first | refine blk_drewN ?_ _ | refine blk_drew ?_ | refine blk_alloc ?_ _)); refine blk_put (cs := #[.int .i64 ((rd_T40 l0 x4_1).f0), .int .i64 ((rd_T40 l0 x4_1).f1), .int .i64 x288002_7, .int .i64 x288003_17, .int .i64 ((rd_T40 l0 x4_1).f4), .int .i64 ((rd_T40 l0 x4_1).f5), .int .i64 ((rd_T40 l0 x4_1).f6), .int .i64 ((rd_T40 l0 x4_1).f7)]) ?_ 7 _ rfl; (with_reducible repeat (first | refine blk_drewN ?_ _ | refine blk_drew ?_ | refine blk_alloc ?_ _)); exact BK287.out) hg (Kd.R_away HO_3.out (fun _ hk => hk))); have n1_ := Aside0.mk (hb); have n2_ := Aside0.mk (ho); clear BK287; clear HB; clear HO_3; have BK287 := n0_; have HB := n1_; have HO296 := n2_; clear n0_ n1_ n2_; clear ho hb hg hat))
                              go_roundg k4
                              case measure => have := HK1.out; have := HJ7.out; have := HJ17.out; have := HK4.out; omega
                              case rel => exact ⟨(y294), (wrap64 (x4_1 + 1)), (by first | rfl | (simp; done) | (simp [*]; done)), H', ⟨by have := HK1.out; have := HJ7.out; have := HJ17.out; have := HK4.out; omega⟩, ⟨by (with_reducible repeat (first | apply Kd.R_alloc | apply Kd.R_drewN | apply Kd.R_drew)); exact Kd.R_mono HO296.out (fun _ hk => trivial)⟩, ⟨by repeat (first | (with_reducible first | exact HB.out | apply below_alloc | apply pw_below_drewN | apply below_drew1 | refine below_set ?_ GE287.out) | exact HB.out)⟩⟩
                            · rw [if_neg c35] at H
                              exact absurd H (by simp)
                    · replace c26 := Bool.eq_false_iff.mpr c26
                      subst c26
                      have H1 : (if x3_1.length < 2199023255552 then (selvageref13_Again.l0 kj17 l0 (x3_1 ++ [(⟨((rd_T40 l0 x4_1).f0), ((rd_T40 l0 x4_1).f1), x288002_7, x288003_17, ((rd_T40 l0 x4_1).f4), ((rd_T40 l0 x4_1).f5), ((rd_T40 l0 x4_1).f6), ((rd_T40 l0 x4_1).f7)⟩ : S40)]) (wrap64 (x4_1 + 1))) else (none)) = some r := by rw [if_neg (show ¬ (false = true) by decide)] at H; exact H
                      clear H
                      have H := H1
                      clear H1
                      by_cases c38 : x3_1.length < 2199023255552
                      · rw [if_pos c38] at H
                        have LMc38 := Aside0.mk c38
                        clear c38
                        obtain ⟨y297, hy297⟩ : ∃ y_ : List (S40), y_ = (x3_1 ++ [(⟨((rd_T40 l0 x4_1).f0), ((rd_T40 l0 x4_1).f1), x288002_7, x288003_17, ((rd_T40 l0 x4_1).f4), ((rd_T40 l0 x4_1).f5), ((rd_T40 l0 x4_1).f6), ((rd_T40 l0 x4_1).f7)⟩ : S40)]) := ⟨_, rfl⟩
                        replace H : (selvageref13_Again.l0 kj17 l0 y297 (wrap64 (x4_1 + 1))) = some r := by first | (rw [hy297]; with_reducible exact H) | (have H2_ := (Option.bind_some _ _).symm.trans H; rw [hy297]; with_reducible exact H2_) | (have H2_ := (Option.bind_some _ _).symm.trans H; with_reducible exact H2_) | with_reducible exact H | (rw [hy297]; exact H) | exact H
                        have Ny297 := Aside0.mk hy297
                        clear hy297
                        have H' := Aside0.mk H
                        clear H
                        have hcz39_0 : wc.cell? ⟨gb287, 0, none⟩ = some (.int .i64 ((rd_T40 l0 x4_1).f0)) := (blk_cell BK287.out 0).trans rfl
                        have hcz39_1 : wc.cell? ⟨gb287, 1, none⟩ = some (.int .i64 ((rd_T40 l0 x4_1).f1)) := (blk_cell BK287.out 1).trans rfl
                        have hcz39_2 : wc.cell? ⟨gb287, 2, none⟩ = some (.int .i64 x288002_7) := (blk_cell BK287.out 2).trans rfl
                        have hcz39_3 : wc.cell? ⟨gb287, 3, none⟩ = some (.int .i64 x288003_17) := (blk_cell BK287.out 3).trans rfl
                        have hcz39_4 : wc.cell? ⟨gb287, 4, none⟩ = some (.int .i64 ((rd_T40 l0 x4_1).f4)) := (blk_cell BK287.out 4).trans rfl
                        have hcz39_5 : wc.cell? ⟨gb287, 5, none⟩ = some (.int .i64 ((rd_T40 l0 x4_1).f5)) := (blk_cell BK287.out 5).trans rfl
                        have hcz39_6 : wc.cell? ⟨gb287, 6, none⟩ = some (.int .i64 ((rd_T40 l0 x4_1).f6)) := (blk_cell BK287.out 6).trans rfl
                        have hcz39_7 : wc.cell? ⟨gb287, 7, none⟩ = some (.int .i64 ((rd_T40 l0 x4_1).f7)) := (blk_cell BK287.out 7).trans rfl
                        have hfz39_0 := blk_frozen BK287.out 0
                        have hfz39_1 := blk_frozen BK287.out 1
                        have hfz39_2 := blk_frozen BK287.out 2
                        have hfz39_3 := blk_frozen BK287.out 3
                        have hfz39_4 := blk_frozen BK287.out 4
                        have hfz39_5 := blk_frozen BK287.out 5
                        have hfz39_6 := blk_frozen BK287.out 6
                        have hfz39_7 := blk_frozen BK287.out 7
                        go_wp2_with (first | ((with_reducible refine gate_callee (f := 20) rfl ?_); refine goesL_ (some 39) rfl rfl Try.func20 (by kernel_rfl) rfl #[.int .i64 ((rd_T40 l0 x4_1).f0), .int .u8 116] rfl (by (try simp only [List.map_toArray, List.map_cons, List.map_nil]); first | done | rfl | (simp only [List.length_drop, List.length_take]; rfl)) ?_; (with_reducible refine (selvageref10_Has.calls kj17 ((rd_T40 l0 x4_1).f0) 116 false _ A25.out).mono ?_); rintro e w' ⟨rfl, ⟨nd, rfl⟩⟩; refine ⟨_, rfl, ?_⟩) | ((with_reducible refine gate_builtin (b := .append) (xs := #[.tmp 54, .tmp 56]) rfl ?_); at_builtin; refine Kd.R_append k40 (w0 := w) w.heap.size rfl (.tmp 54) (.tmp 56) 22 40 (.agg #[(.int .i64 0), (.int .i64 0), (.int .i64 0), (.int .i64 0), (.int .i64 0), (.int .i64 0), (.int .i64 0), (.int .i64 0)]) 64 rfl Try.underlying22 info40 rfl (by decide) (by omega) u3 x3_1 (⟨((rd_T40 l0 x4_1).f0), ((rd_T40 l0 x4_1).f1), x288002_7, x288003_17, ((rd_T40 l0 x4_1).f4), ((rd_T40 l0 x4_1).f5), ((rd_T40 l0 x4_1).f6), ((rd_T40 l0 x4_1).f7)⟩ : S40) [.int .i64 ((rd_T40 l0 x4_1).f0), .int .i64 ((rd_T40 l0 x4_1).f1), .int .i64 x288002_7, .int .i64 x288003_17, .int .i64 ((rd_T40 l0 x4_1).f4), .int .i64 ((rd_T40 l0 x4_1).f5), .int .i64 ((rd_T40 l0 x4_1).f6), .int .i64 ((rd_T40 l0 x4_1).f7)] (fun k_ => k_ ≠ gb287) (fun _ => False) rfl rfl ?aP (fun _ hk => hk.elim) ?aF ?aO ?aB ?aS ?aL ?_; (case aP => exact k40_mkM _ _ _ (⟨((rd_T40 l0 x4_1).f0), ((rd_T40 l0 x4_1).f1), x288002_7, x288003_17, ((rd_T40 l0 x4_1).f4), ((rd_T40 l0 x4_1).f5), ((rd_T40 l0 x4_1).f6), ((rd_T40 l0 x4_1).f7)⟩ : S40)); (case aB => exact (by repeat (first | (with_reducible first | exact HB.out | apply below_alloc | apply pw_below_drewN | apply below_drew1 | refine below_set ?_ GE287.out) | exact HB.out))); (case aF => exact (fun k_ hk => Kd.freshB (g := gb287) (o := .cells #[.int .i64 ((rd_T40 l0 x4_1).f0), .int .i64 ((rd_T40 l0 x4_1).f1), .int .i64 x288002_7, .int .i64 x288003_17, .int .i64 ((rd_T40 l0 x4_1).f4), .int .i64 ((rd_T40 l0 x4_1).f5), .int .i64 ((rd_T40 l0 x4_1).f6), .int .i64 ((rd_T40 l0 x4_1).f7)] 40 (0, 0)) (by (with_reducible repeat (first | refine blk_drewN ?_ _ | refine blk_drew ?_ | refine blk_alloc ?_ _)); exact BK287.out) k_ hk)); (case aO => exact (by (with_reducible repeat (first | apply Kd.R_alloc | apply Kd.R_drewN | apply Kd.R_drew)); exact HO_3.out)); (case aS => exact (below_size (by repeat (first | (with_reducible first | exact HB.out | apply below_alloc | apply pw_below_drewN | apply below_drew1 | refine below_set ?_ GE287.out) | exact HB.out)))); (case aL => have := LMc38.out; omega); intro v298 w40 ho hb hg hat; rw [← Ny297.out] at ho; have n0_ := Aside0.mk (blk_grown (g := gb287) (o := .cells #[.int .i64 ((rd_T40 l0 x4_1).f0), .int .i64 ((rd_T40 l0 x4_1).f1), .int .i64 x288002_7, .int .i64 x288003_17, .int .i64 ((rd_T40 l0 x4_1).f4), .int .i64 ((rd_T40 l0 x4_1).f5), .int .i64 ((rd_T40 l0 x4_1).f6), .int .i64 ((rd_T40 l0 x4_1).f7)] 40 (0, 0)) (by (with_reducible repeat (first | refine blk_drewN ?_ _ | refine blk_drew ?_ | refine blk_alloc ?_ _)); exact BK287.out) hg (Kd.R_away HO_3.out (fun _ hk => hk))); have n1_ := Aside0.mk (hb); have n2_ := Aside0.mk (ho); clear BK287; clear HB; clear HO_3; have BK287 := n0_; have HB := n1_; have HO299 := n2_; clear n0_ n1_ n2_; clear ho hb hg hat))
                        go_roundg kj17
                        case measure => have := HK1.out; have := HJ7.out; have := HJ17.out; omega
                        case rel => exact ⟨(y297), (wrap64 (x4_1 + 1)), (by first | rfl | (simp; done) | (simp [*]; done)), H', ⟨by have := HK1.out; have := HJ7.out; have := HJ17.out; omega⟩, ⟨by (with_reducible repeat (first | apply Kd.R_alloc | apply Kd.R_drewN | apply Kd.R_drew)); exact Kd.R_mono HO299.out (fun _ hk => trivial)⟩, ⟨by repeat (first | (with_reducible first | exact HB.out | apply below_alloc | apply pw_below_drewN | apply below_drew1 | refine below_set ?_ GE287.out) | exact HB.out)⟩⟩
                      · rw [if_neg c38] at H
                        exact absurd H (by simp)
          · rw [if_neg c6] at H
            exact absurd H (by simp)
      · rw [if_neg c2] at H
        have c2b0 : decide (x4_1 < (l0.length : Int)) = false := decide_eq_false c2
        clear c2
        obtain rfl := Option.some.inj H
        go_wp2
        go_ret
        exact ⟨_, by first | rfl | (simp [errW_none, errW_some] <;> rfl) | (simp [*, errW_none, errW_some] <;> rfl), by (with_reducible repeat (first | apply Kd.R_alloc | apply Kd.R_drewN | apply Kd.R_drew)); exact HO_3.out, by repeat (first | (with_reducible first | exact HB.out | apply below_alloc | apply pw_below_drewN | apply below_drew1) | exact HB.out)⟩

end Go.Proofs.Ytdmbnlpcfgphpaa.Q
