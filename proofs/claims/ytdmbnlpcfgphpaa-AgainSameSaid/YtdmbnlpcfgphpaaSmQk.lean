/- Several of my texts in one: Qx42, Qx43, Qx44. -/
import Derived.Test.YtdmbnlpcfgphpaaQx0
import Derived.Test.YtdmbnlpcfgphpaaQx21
namespace Go.Proofs.Ytdmbnlpcfgphpaa.Q
open Go.RowKit Go.Proofs.YtdmbnlpcfgphpaaW.PrintWords Go.Proofs.YtdmbnlpcfgphpaaW.PrintLast Go.Proofs.YtdmbnlpcfgphpaaW.PrintMore
attribute [local go_sem] max2_int min2_int max_two min_two max_three min_three max_four min_four   -- for this text's walks alone
set_option linter.unusedVariables false
set_option linter.unusedSimpArgs false

/-! ### selvageref13_atomic: function 51 -/
def selvageref13_atomic.f (a0 : Int) : Option (Bool) := if a0 = 8 then (some true) else (if a0 = 9 then (some true) else (if a0 = 10 then (some true) else (if a0 = 11 then (some true) else (some (a0 == 12)))))
set_option maxHeartbeats 8000000 in
set_option maxRecDepth 100000 in
theorem selvageref13_atomic.calls (a0 : Int) (r : Bool) (w : World) (h : selvageref13_atomic.f a0 = some r) :
    Calls Try.prog 51 #[.int .i64 a0] w fun e w' => e = .returned (.bool r) ∧ Drawn0 w w' := by
  have H : (if a0 = 8 then (some true) else (if a0 = 9 then (some true) else (if a0 = 10 then (some true) else (if a0 = 11 then (some true) else (some (a0 == 12)))))) = some r := h
  clear h
  by_cases c2 : a0 = 8
  · rw [if_pos c2] at H
    have c2b0 : (a0 == 8) = true := beq_iff_eq.mpr c2
    have c2b1 : (a0 != 8) = false := bne_eq_false_iff_eq.mpr c2
    clear c2
    obtain rfl := Option.some.inj H
    go_enter Try.func51, Try.ntmps51
    go_wp2
    go_ret
    exact ⟨by first | rfl | (simp; done) | (simp [*]; done), by repeat (first | exact Drawn0.refl _ | apply Drawn0.step)⟩
  · rw [if_neg c2] at H
    have c2b0 : (a0 == 8) = false := beq_eq_false_iff_ne.mpr c2
    have c2b1 : (a0 != 8) = true := bne_iff_ne.mpr c2
    by_cases c3 : a0 = 9
    · rw [if_pos c3] at H
      have c3b0 : (a0 == 9) = true := beq_iff_eq.mpr c3
      have c3b1 : (a0 != 9) = false := bne_eq_false_iff_eq.mpr c3
      clear c3
      obtain rfl := Option.some.inj H
      go_enter Try.func51, Try.ntmps51
      go_wp2
      go_ret
      exact ⟨by first | rfl | (simp; done) | (simp [*]; done), by repeat (first | exact Drawn0.refl _ | apply Drawn0.step)⟩
    · rw [if_neg c3] at H
      have c3b0 : (a0 == 9) = false := beq_eq_false_iff_ne.mpr c3
      have c3b1 : (a0 != 9) = true := bne_iff_ne.mpr c3
      by_cases c4 : a0 = 10
      · rw [if_pos c4] at H
        have c4b0 : (a0 == 10) = true := beq_iff_eq.mpr c4
        have c4b1 : (a0 != 10) = false := bne_eq_false_iff_eq.mpr c4
        clear c4
        obtain rfl := Option.some.inj H
        go_enter Try.func51, Try.ntmps51
        go_wp2
        go_ret
        exact ⟨by first | rfl | (simp; done) | (simp [*]; done), by repeat (first | exact Drawn0.refl _ | apply Drawn0.step)⟩
      · rw [if_neg c4] at H
        have c4b0 : (a0 == 10) = false := beq_eq_false_iff_ne.mpr c4
        have c4b1 : (a0 != 10) = true := bne_iff_ne.mpr c4
        by_cases c5 : a0 = 11
        · rw [if_pos c5] at H
          have c5b0 : (a0 == 11) = true := beq_iff_eq.mpr c5
          have c5b1 : (a0 != 11) = false := bne_eq_false_iff_eq.mpr c5
          clear c5
          obtain rfl := Option.some.inj H
          go_enter Try.func51, Try.ntmps51
          go_wp2
          go_ret
          exact ⟨by first | rfl | (simp; done) | (simp [*]; done), by repeat (first | exact Drawn0.refl _ | apply Drawn0.step)⟩
        · rw [if_neg c5] at H
          have c5b0 : (a0 == 11) = false := beq_eq_false_iff_ne.mpr c5
          have c5b1 : (a0 != 11) = true := bne_iff_ne.mpr c5
          obtain rfl := Option.some.inj H
          go_enter Try.func51, Try.ntmps51
          go_wp2
          go_ret
          exact ⟨by first | rfl | (simp; done) | (simp [*]; done), by repeat (first | exact Drawn0.refl _ | apply Drawn0.step)⟩

end Go.Proofs.Ytdmbnlpcfgphpaa.Q
namespace Go.Proofs.Ytdmbnlpcfgphpaa.Q
open Go.RowKit Go.Proofs.YtdmbnlpcfgphpaaW.PrintWords Go.Proofs.YtdmbnlpcfgphpaaW.PrintLast Go.Proofs.YtdmbnlpcfgphpaaW.PrintMore
attribute [local go_sem] max2_int min2_int max_two min_two max_three min_three max_four min_four   -- for this text's walks alone
set_option linter.unusedVariables false
set_option linter.unusedSimpArgs false

/-! ### selvageref13_Known: function 44 -/
mutual
def selvageref13_Known.l0 : Nat → List (S40) → Int → Int → Option (Int)
  | 0, _, _, _ => none
  | k + 1, x0, x1, x2 => if x1 > 0 then ((selvageref10_Before.f k x0 x1).bind fun t268 => (if 0 < (t268.length : Int) then (if 0 ≤ (rd t268 0) then (if (rd t268 0) < (x0.length : Int) then (if ((rd_T40 x0 (rd t268 0)).f0) = 6 then (selvageref13_Known.j1 k x0 (rd t268 0) x2 (((rd_T40 x0 (rd t268 0)).f4) == x2) ((rd_T40 x0 (rd t268 0)).f0) ((rd_T40 x0 (rd t268 0)).f1) ((rd_T40 x0 (rd t268 0)).f2) ((rd_T40 x0 (rd t268 0)).f3) ((rd_T40 x0 (rd t268 0)).f4) ((rd_T40 x0 (rd t268 0)).f5) ((rd_T40 x0 (rd t268 0)).f6) ((rd_T40 x0 (rd t268 0)).f7)) else (selvageref13_Known.j1 k x0 (rd t268 0) x2 false ((rd_T40 x0 (rd t268 0)).f0) ((rd_T40 x0 (rd t268 0)).f1) ((rd_T40 x0 (rd t268 0)).f2) ((rd_T40 x0 (rd t268 0)).f3) ((rd_T40 x0 (rd t268 0)).f4) ((rd_T40 x0 (rd t268 0)).f5) ((rd_T40 x0 (rd t268 0)).f6) ((rd_T40 x0 (rd t268 0)).f7))) else (none)) else (none)) else (none))) else (some (-1))
def selvageref13_Known.j1 : Nat → List (S40) → Int → Int → Bool → Int → Int → Int → Int → Int → Int → Int → Int → Option (Int)
  | 0, _, _, _, _, _, _, _, _, _, _, _, _ => none
  | k + 1, x0, x1, x2, x19, x274000, x274001, x274002, x274003, x274004, x274005, x274006, x274007 => if x19 = true then (some x274001) else (if x274000 = 7 then (selvageref13_Known.j2 k x0 x1 x2 (x274004 == x2) x274000 x274001 x274002 x274003 x274004 x274005 x274006 x274007) else (selvageref13_Known.j2 k x0 x1 x2 false x274000 x274001 x274002 x274003 x274004 x274005 x274006 x274007))
def selvageref13_Known.j2 : Nat → List (S40) → Int → Int → Bool → Int → Int → Int → Int → Int → Int → Int → Int → Option (Int)
  | 0, _, _, _, _, _, _, _, _, _, _, _, _ => none
  | k + 1, x0, x1, x2, x31, x274000, x274001, x274002, x274003, x274004, x274005, x274006, x274007 => if x31 = true then (some x274002) else (if x274000 = 14 then (if x2 ≥ x274004 then (selvageref13_Known.j3 k x0 x1 x2 (decide (x2 < (wrap64 (x274004 + x274005)))) x274000 x274001 x274002 x274003 x274004 x274005 x274006 x274007) else (selvageref13_Known.j3 k x0 x1 x2 false x274000 x274001 x274002 x274003 x274004 x274005 x274006 x274007)) else (selvageref13_Known.j3 k x0 x1 x2 false x274000 x274001 x274002 x274003 x274004 x274005 x274006 x274007))
def selvageref13_Known.j3 : Nat → List (S40) → Int → Int → Bool → Int → Int → Int → Int → Int → Int → Int → Int → Option (Int)
  | 0, _, _, _, _, _, _, _, _, _, _, _, _ => none
  | k + 1, x0, x1, x2, x43, x274000, x274001, x274002, x274003, x274004, x274005, x274006, x274007 => if x43 = true then (some (-1)) else ((selvageref13_atomic.f x274000).bind fun t274 => (if t274 = true then (some (-1)) else (selvageref13_Known.l0 k x0 x1 x2)))
end
def selvageref13_Known.f (k : Nat) (l0 : List (S40)) (a1 : Int) (a2 : Int) : Option (Int) := selvageref13_Known.l0 k l0 a1 a2
theorem selvageref13_Known.mono_l : ∀ k, (∀ y0 y1 y2, LeO (selvageref13_Known.l0 k y0 y1 y2) (selvageref13_Known.l0 (k + 1) y0 y1 y2)) ∧ (∀ y0 y1 y2 y3 y4 y5 y6 y7 y8 y9 y10 y11, LeO (selvageref13_Known.j1 k y0 y1 y2 y3 y4 y5 y6 y7 y8 y9 y10 y11) (selvageref13_Known.j1 (k + 1) y0 y1 y2 y3 y4 y5 y6 y7 y8 y9 y10 y11)) ∧ (∀ y0 y1 y2 y3 y4 y5 y6 y7 y8 y9 y10 y11, LeO (selvageref13_Known.j2 k y0 y1 y2 y3 y4 y5 y6 y7 y8 y9 y10 y11) (selvageref13_Known.j2 (k + 1) y0 y1 y2 y3 y4 y5 y6 y7 y8 y9 y10 y11)) ∧ (∀ y0 y1 y2 y3 y4 y5 y6 y7 y8 y9 y10 y11, LeO (selvageref13_Known.j3 k y0 y1 y2 y3 y4 y5 y6 y7 y8 y9 y10 y11) (selvageref13_Known.j3 (k + 1) y0 y1 y2 y3 y4 y5 y6 y7 y8 y9 y10 y11))
  | 0 => ⟨fun _ _ _ r h => by simp [selvageref13_Known.l0] at h, fun _ _ _ _ _ _ _ _ _ _ _ _ r h => by simp [selvageref13_Known.j1] at h, fun _ _ _ _ _ _ _ _ _ _ _ _ r h => by simp [selvageref13_Known.j2] at h, fun _ _ _ _ _ _ _ _ _ _ _ _ r h => by simp [selvageref13_Known.j3] at h⟩
  | k + 1 => by
    obtain ⟨ih0, ih1, ih2, ih3⟩ := selvageref13_Known.mono_l k
    refine ⟨?_, ?_, ?_, ?_⟩
    · intro y0 y1 y2
      unfold selvageref13_Known.l0
      repeat' first
      | (with_reducible exact ih0 _ _ _)
      | (with_reducible exact ih1 _ _ _ _ _ _ _ _ _ _ _ _)
      | (with_reducible exact ih2 _ _ _ _ _ _ _ _ _ _ _ _)
      | (with_reducible exact ih3 _ _ _ _ _ _ _ _ _ _ _ _)
      | (with_reducible exact selvageref10_Before.mono _ _ _)
      | (with_reducible exact LeO.refl _)
      | (with_reducible exact LeO.none _)
      | (with_reducible refine LeO.ite ?_ ?_)
      | (with_reducible refine LeO.bind ?_ (fun _ => ?_))
      | exact ih0 _ _ _
      | exact ih1 _ _ _ _ _ _ _ _ _ _ _ _
      | exact ih2 _ _ _ _ _ _ _ _ _ _ _ _
      | exact ih3 _ _ _ _ _ _ _ _ _ _ _ _
      | exact selvageref10_Before.mono _ _ _
      | exact LeO.none _
      | refine LeO.ite ?_ ?_
      | refine LeO.bind ?_ (fun _ => ?_)
    · intro y0 y1 y2 y3 y4 y5 y6 y7 y8 y9 y10 y11
      unfold selvageref13_Known.j1
      repeat' first
      | (with_reducible exact ih0 _ _ _)
      | (with_reducible exact ih1 _ _ _ _ _ _ _ _ _ _ _ _)
      | (with_reducible exact ih2 _ _ _ _ _ _ _ _ _ _ _ _)
      | (with_reducible exact ih3 _ _ _ _ _ _ _ _ _ _ _ _)
      | (with_reducible exact selvageref10_Before.mono _ _ _)
      | (with_reducible exact LeO.refl _)
      | (with_reducible exact LeO.none _)
      | (with_reducible refine LeO.ite ?_ ?_)
      | (with_reducible refine LeO.bind ?_ (fun _ => ?_))
      | exact ih0 _ _ _
      | exact ih1 _ _ _ _ _ _ _ _ _ _ _ _
      | exact ih2 _ _ _ _ _ _ _ _ _ _ _ _
      | exact ih3 _ _ _ _ _ _ _ _ _ _ _ _
      | exact selvageref10_Before.mono _ _ _
      | exact LeO.none _
      | refine LeO.ite ?_ ?_
      | refine LeO.bind ?_ (fun _ => ?_)
    · intro y0 y1 y2 y3 y4 y5 y6 y7 y8 y9 y10 y11
      unfold selvageref13_Known.j2
      repeat' first
      | (with_reducible exact ih0 _ _ _)
      | (with_reducible exact ih1 _ _ _ _ _ _ _ _ _ _ _ _)
      | (with_reducible exact ih2 _ _ _ _ _ _ _ _ _ _ _ _)
      | (with_reducible exact ih3 _ _ _ _ _ _ _ _ _ _ _ _)
      | (with_reducible exact selvageref10_Before.mono _ _ _)
      | (with_reducible exact LeO.refl _)
      | (with_reducible exact LeO.none _)
      | (with_reducible refine LeO.ite ?_ ?_)
      | (with_reducible refine LeO.bind ?_ (fun _ => ?_))
      | exact ih0 _ _ _
      | exact ih1 _ _ _ _ _ _ _ _ _ _ _ _
      | exact ih2 _ _ _ _ _ _ _ _ _ _ _ _
      | exact ih3 _ _ _ _ _ _ _ _ _ _ _ _
      | exact selvageref10_Before.mono _ _ _
      | exact LeO.none _
      | refine LeO.ite ?_ ?_
      | refine LeO.bind ?_ (fun _ => ?_)
    · intro y0 y1 y2 y3 y4 y5 y6 y7 y8 y9 y10 y11
      unfold selvageref13_Known.j3
      repeat' first
      | (with_reducible exact ih0 _ _ _)
      | (with_reducible exact ih1 _ _ _ _ _ _ _ _ _ _ _ _)
      | (with_reducible exact ih2 _ _ _ _ _ _ _ _ _ _ _ _)
      | (with_reducible exact ih3 _ _ _ _ _ _ _ _ _ _ _ _)
      | (with_reducible exact selvageref10_Before.mono _ _ _)
      | (with_reducible exact LeO.refl _)
      | (with_reducible exact LeO.none _)
      | (with_reducible refine LeO.ite ?_ ?_)
      | (with_reducible refine LeO.bind ?_ (fun _ => ?_))
      | exact ih0 _ _ _
      | exact ih1 _ _ _ _ _ _ _ _ _ _ _ _
      | exact ih2 _ _ _ _ _ _ _ _ _ _ _ _
      | exact ih3 _ _ _ _ _ _ _ _ _ _ _ _
      | exact selvageref10_Before.mono _ _ _
      | exact LeO.none _
      | refine LeO.ite ?_ ?_
      | refine LeO.bind ?_ (fun _ => ?_)
theorem selvageref13_Known.mono : ∀ a0 a1 a2 k, LeO (selvageref13_Known.f k a0 a1 a2) (selvageref13_Known.f (k + 1) a0 a1 a2) := by
  intro a0 a1 a2 k
  obtain ⟨ih0, ih1, ih2, ih3⟩ := selvageref13_Known.mono_l k
  unfold selvageref13_Known.f
  repeat' first
      | (with_reducible exact ih0 _ _ _)
      | (with_reducible exact ih1 _ _ _ _ _ _ _ _ _ _ _ _)
      | (with_reducible exact ih2 _ _ _ _ _ _ _ _ _ _ _ _)
      | (with_reducible exact ih3 _ _ _ _ _ _ _ _ _ _ _ _)
      | (with_reducible exact selvageref10_Before.mono _ _ _)
      | (with_reducible exact LeO.refl _)
      | (with_reducible exact LeO.none _)
      | (with_reducible refine LeO.ite ?_ ?_)
      | (with_reducible refine LeO.bind ?_ (fun _ => ?_))
      | exact ih0 _ _ _
      | exact ih1 _ _ _ _ _ _ _ _ _ _ _ _
      | exact ih2 _ _ _ _ _ _ _ _ _ _ _ _
      | exact ih3 _ _ _ _ _ _ _ _ _ _ _ _
      | exact selvageref10_Before.mono _ _ _
      | exact LeO.none _
      | refine LeO.ite ?_ ?_
      | refine LeO.bind ?_ (fun _ => ?_)
set_option maxHeartbeats 8000000 in
set_option maxRecDepth 100000 in
theorem selvageref13_Known.calls (k : Nat) (A0 : Option Addr) (c0 : Nat) (l0 : List (S40)) (a1 : Int) (a2 : Int) (r : Int) (w : World) (hr0 : Kd.C k40 w A0 l0.length l0) (hc0 : l0.length ≤ c0) (h : selvageref13_Known.f k l0 a1 a2 = some r) :
    Calls Try.prog 44 #[.slice A0 l0.length c0, .int .i64 a1, .int .i64 a2] w fun e w' => e = .returned (.int .i64 r) ∧ Below w.heap.size w w' := by
  have hu40 := Try.underlying40
  have HR0 := Aside0.mk hr0
  have HC0 := Aside0.mk hc0
  clear hr0 hc0
  have HB := Aside0.mk (Below.refl w.heap.size w)
  have H : (selvageref13_Known.l0 k l0 a1 a2) = some r := h
  clear h
  have H' := Aside0.mk H
  clear H
  go_enter Try.func44, Try.ntmps44
  go_wp2
  go_loopg [1] k (fun kq v1 w' => ∃ (x1_1 : Int), v1 = .int .i64 x1_1 ∧ Aside0 (selvageref13_Known.l0 kq l0 x1_1 a2 = some r) ∧ Aside0 (kq ≤ k) ∧ Aside0 (Below w.heap.size w w'))
  case atStart => exact ⟨(a1), (by first | rfl | (simp; done) | (simp [*]; done)), H', ⟨Nat.le_refl _⟩, ⟨by repeat (first | (with_reducible first | exact HB.out | apply below_alloc | apply pw_below_drewN | apply below_drew1) | exact HB.out)⟩⟩
  case round =>
    clear H'
    try clear p2
    obtain ⟨x1_1, rfl, HA, HK1, HB⟩ := hrel
    cases gk with
    | zero => exact absurd HA.out (by simp [selvageref13_Known.l0])
    | succ k1 =>
      have H := HA.out
      clear HA
      simp only [selvageref13_Known.l0] at H
      by_cases c4 : x1_1 > 0
      · rw [if_pos c4] at H
        have c4b0 : decide (0 < x1_1) = true := decide_eq_true c4
        clear c4
        replace H := Option.bind_eq_some_iff.mp H
        obtain ⟨t268, A50, H⟩ := H
        replace H : (if 0 < (t268.length : Int) then (if 0 ≤ (rd t268 0) then (if (rd t268 0) < (l0.length : Int) then (if ((rd_T40 l0 (rd t268 0)).f0) = 6 then (selvageref13_Known.j1 k1 l0 (rd t268 0) a2 (((rd_T40 l0 (rd t268 0)).f4) == a2) ((rd_T40 l0 (rd t268 0)).f0) ((rd_T40 l0 (rd t268 0)).f1) ((rd_T40 l0 (rd t268 0)).f2) ((rd_T40 l0 (rd t268 0)).f3) ((rd_T40 l0 (rd t268 0)).f4) ((rd_T40 l0 (rd t268 0)).f5) ((rd_T40 l0 (rd t268 0)).f6) ((rd_T40 l0 (rd t268 0)).f7)) else (selvageref13_Known.j1 k1 l0 (rd t268 0) a2 false ((rd_T40 l0 (rd t268 0)).f0) ((rd_T40 l0 (rd t268 0)).f1) ((rd_T40 l0 (rd t268 0)).f2) ((rd_T40 l0 (rd t268 0)).f3) ((rd_T40 l0 (rd t268 0)).f4) ((rd_T40 l0 (rd t268 0)).f5) ((rd_T40 l0 (rd t268 0)).f6) ((rd_T40 l0 (rd t268 0)).f7))) else (none)) else (none)) else (none)) = some r := H
        have A5 := Aside0.mk A50
        clear A50
        by_cases c6 : 0 < (t268.length : Int)
        · rw [if_pos c6] at H
          have c6b0 : decide (0 < (t268.length : Int)) = true := decide_eq_true c6
          have c6b1 : decide (0 < t268.length) = true := decide_eq_true (by omega)
          clear c6
          by_cases c7 : 0 ≤ (rd t268 0)
          · rw [if_pos c7] at H
            have c7b0 : decide (0 ≤ (rd t268 0)) = true := decide_eq_true c7
            clear c7
            by_cases c8 : (rd t268 0) < (l0.length : Int)
            · rw [if_pos c8] at H
              have c8b0 : decide ((rd t268 0) < (l0.length : Int)) = true := decide_eq_true c8
              clear c8
              have HC9 := Aside0.mk H
              clear H
              go_upto_region 4 with (first | ((with_reducible refine gate_callee (f := 38) rfl ?_); refine goesL_ (some 12) rfl rfl Try.func38 (by kernel_rfl) rfl #[.slice A0 l0.length c0, .int .i64 x1_1] rfl (by (try simp only [List.map_toArray, List.map_cons, List.map_nil]); first | done | rfl | (simp only [List.length_drop, List.length_take]; rfl)) ?_; (with_reducible refine (selvageref10_Before.calls k1 _ _ l0 x1_1 t268 _ ?side1 ?side2 A5.out).mono ?_); (case side1 => repeat (first | exact (Kd.C_below HR0.out HB.out) | (with_reducible refine Kd.C_alloc ?_ _) | (with_reducible refine Kd.C_drewN ?_ _) | (with_reducible refine Kd.C_drew ?_))); (case side2 => exact HC0.out); rintro e w10 ⟨v269, rfl, ho0, hb⟩; refine ⟨_, rfl, ?_⟩; have n0_ := Aside0.mk (Kd.R_lower ho0 (below_size (by repeat (first | (with_reducible first | exact HB.out | apply below_alloc | apply pw_below_drewN | apply below_drew1) | exact HB.out)))); have n1_ := Aside0.mk (below_step (by repeat (first | (with_reducible first | exact HB.out | apply below_alloc | apply pw_below_drewN | apply below_drew1) | exact HB.out)) hb); clear HB; have HO270 := n0_; have HB := n1_; clear n0_ n1_; (try clear hb); (try clear hb2); (try clear hk); (try clear hi); (try clear ho0); obtain ⟨Ao11, co11, eo11⟩ := Kd.R_slice HO270.out; subst eo11; have p271 : 0 ≤ (0 : Int) := (by omega); have q271 : 0 < (t268.length : Int) := of_decide_eq_true (by first | (with_reducible assumption) | assumption); obtain ⟨ad271, e271, hx271_0⟩ := Kd.at_int (Kd.R_reads' HO270.out).2.2 0 p271 q271; cases e271; have qi271 : (0 < t268.length) = True := eq_true (by omega); (try rw [show ((0 : Int)).toNat = 0 from rfl] at hx271_0); (try rw [Addr.add_zero'] at hx271_0); replace p271 := eq_true p271; replace q271 := eq_true q271; have p272 : 0 ≤ ((rd t268 0) : Int) := of_decide_eq_true (by first | (with_reducible assumption) | assumption); have q272 : (rd t268 0) < (l0.length : Int) := of_decide_eq_true (by first | (with_reducible assumption) | assumption); obtain ⟨ad272, e272, hx272_0, hx272_1, hx272_2, hx272_3, hx272_4, hx272_5, hx272_6, hx272_7⟩ := at_T40 HR0.out (rd t268 0) p272 q272; cases e272; replace hx272_0 := (HB.out.cell (World.block_lt_of_cell? w _ hx272_0)).trans hx272_0; replace hx272_1 := (HB.out.cell (World.block_lt_of_cell? w _ hx272_1)).trans hx272_1; replace hx272_2 := (HB.out.cell (World.block_lt_of_cell? w _ hx272_2)).trans hx272_2; replace hx272_3 := (HB.out.cell (World.block_lt_of_cell? w _ hx272_3)).trans hx272_3; replace hx272_4 := (HB.out.cell (World.block_lt_of_cell? w _ hx272_4)).trans hx272_4; replace hx272_5 := (HB.out.cell (World.block_lt_of_cell? w _ hx272_5)).trans hx272_5; replace hx272_6 := (HB.out.cell (World.block_lt_of_cell? w _ hx272_6)).trans hx272_6; replace hx272_7 := (HB.out.cell (World.block_lt_of_cell? w _ hx272_7)).trans hx272_7; replace p272 := eq_true p272; replace q272 := eq_true q272) | ((with_reducible refine gate_dst (N := 7) rfl ?_); refine box_event ?hg (N := 7) ?hd (cs := #[.int .i64 0, .int .i64 0, .int .i64 0, .int .i64 0, .int .i64 0, .int .i64 0, .int .i64 0, .int .i64 0]) (t := 40) ?hr ?_; (case hd => rfl); (case hg => rfl); (case hr => first | (go_simp; done) | (go_simp; rfl)); intro gb273 hg w12 hbox hb; have n0_ := Aside0.mk (Kd.R_below (by (with_reducible repeat (first | apply Kd.R_alloc | apply Kd.R_drewN | apply Kd.R_drew)); exact HO270.out) hb); have n1_ := Aside0.mk (below_step (by repeat (first | (with_reducible first | exact HB.out | apply below_alloc | apply pw_below_drewN | apply below_drew1) | exact HB.out)) hb); have n2_ := Aside0.mk (hbox); have n3_ := Aside0.mk ((by rw [hg]; exact (below_size (by repeat (first | (with_reducible first | exact HB.out | apply below_alloc | apply pw_below_drewN | apply below_drew1) | exact HB.out))) : w.heap.size ≤ gb273)); have n4_ := Aside0.mk ((by rw [hg]; exact (below_size (by repeat (first | (with_reducible first | exact HB.out | apply below_alloc | apply pw_below_drewN | apply below_drew1) | exact HB.out))) : w.heap.size ≤ gb273)); clear HO270; clear HB; have HO270 := n0_; have HB := n1_; have BK273 := n2_; have GW273 := n3_; have GE273 := n4_; clear n0_ n1_ n2_ n3_ n4_; clear hb hbox hg; have hcz13_0 : w12.cell? ⟨gb273, 0, none⟩ = some (.int .i64 0) := (blk_cell BK273.out 0).trans rfl; have hcz13_1 : w12.cell? ⟨gb273, 1, none⟩ = some (.int .i64 0) := (blk_cell BK273.out 1).trans rfl; have hcz13_2 : w12.cell? ⟨gb273, 2, none⟩ = some (.int .i64 0) := (blk_cell BK273.out 2).trans rfl; have hcz13_3 : w12.cell? ⟨gb273, 3, none⟩ = some (.int .i64 0) := (blk_cell BK273.out 3).trans rfl; have hcz13_4 : w12.cell? ⟨gb273, 4, none⟩ = some (.int .i64 0) := (blk_cell BK273.out 4).trans rfl; have hcz13_5 : w12.cell? ⟨gb273, 5, none⟩ = some (.int .i64 0) := (blk_cell BK273.out 5).trans rfl; have hcz13_6 : w12.cell? ⟨gb273, 6, none⟩ = some (.int .i64 0) := (blk_cell BK273.out 6).trans rfl; have hcz13_7 : w12.cell? ⟨gb273, 7, none⟩ = some (.int .i64 0) := (blk_cell BK273.out 7).trans rfl; have hfz13_0 := blk_frozen BK273.out 0; have hfz13_1 := blk_frozen BK273.out 1; have hfz13_2 := blk_frozen BK273.out 2; have hfz13_3 := blk_frozen BK273.out 3; have hfz13_4 := blk_frozen BK273.out 4; have hfz13_5 := blk_frozen BK273.out 5; have hfz13_6 := blk_frozen BK273.out 6; have hfz13_7 := blk_frozen BK273.out 7))
              (try simp only [Act.put, List.setIfInBounds_toArray, List.set_cons_zero, List.set_cons_succ])
              go_cut [19] (fun v19 wc => ∃ (kq : Nat) (x19_8 : Bool), v19 = .bool x19_8 ∧ Aside0 (selvageref13_Known.j1 kq l0 (rd t268 0) a2 x19_8 ((rd_T40 l0 (rd t268 0)).f0) ((rd_T40 l0 (rd t268 0)).f1) ((rd_T40 l0 (rd t268 0)).f2) ((rd_T40 l0 (rd t268 0)).f3) ((rd_T40 l0 (rd t268 0)).f4) ((rd_T40 l0 (rd t268 0)).f5) ((rd_T40 l0 (rd t268 0)).f6) ((rd_T40 l0 (rd t268 0)).f7) = some r) ∧ Aside0 (kq ≤ k1) ∧ Aside0 (wc.heap[gb273]? = some (.cells #[.int .i64 ((rd_T40 l0 (rd t268 0)).f0), .int .i64 ((rd_T40 l0 (rd t268 0)).f1), .int .i64 ((rd_T40 l0 (rd t268 0)).f2), .int .i64 ((rd_T40 l0 (rd t268 0)).f3), .int .i64 ((rd_T40 l0 (rd t268 0)).f4), .int .i64 ((rd_T40 l0 (rd t268 0)).f5), .int .i64 ((rd_T40 l0 (rd t268 0)).f6), .int .i64 ((rd_T40 l0 (rd t268 0)).f7)] 40 (0, 0))) ∧ Aside0 (Below w.heap.size w wc))
              case first =>
                have H := HC9.out
                clear HC9
                by_cases c14 : ((rd_T40 l0 (rd t268 0)).f0) = 6
                · rw [if_pos c14] at H
                  have c14b0 : (((rd_T40 l0 (rd t268 0)).f0) == 6) = true := beq_iff_eq.mpr c14
                  have c14b1 : (((rd_T40 l0 (rd t268 0)).f0) != 6) = false := bne_eq_false_iff_eq.mpr c14
                  clear c14
                  (first | rw [c14b0] | (simp only [i64_w, i32_w]; rw [c14b0]) | skip)
                  have H' := Aside0.mk H
                  clear H
                  have hcz15_0 : w12.cell? ⟨gb273, 0, none⟩ = some (.int .i64 0) := (blk_cell BK273.out 0).trans rfl
                  have hcz15_1 : w12.cell? ⟨gb273, 1, none⟩ = some (.int .i64 0) := (blk_cell BK273.out 1).trans rfl
                  have hcz15_2 : w12.cell? ⟨gb273, 2, none⟩ = some (.int .i64 0) := (blk_cell BK273.out 2).trans rfl
                  have hcz15_3 : w12.cell? ⟨gb273, 3, none⟩ = some (.int .i64 0) := (blk_cell BK273.out 3).trans rfl
                  have hcz15_4 : w12.cell? ⟨gb273, 4, none⟩ = some (.int .i64 0) := (blk_cell BK273.out 4).trans rfl
                  have hcz15_5 : w12.cell? ⟨gb273, 5, none⟩ = some (.int .i64 0) := (blk_cell BK273.out 5).trans rfl
                  have hcz15_6 : w12.cell? ⟨gb273, 6, none⟩ = some (.int .i64 0) := (blk_cell BK273.out 6).trans rfl
                  have hcz15_7 : w12.cell? ⟨gb273, 7, none⟩ = some (.int .i64 0) := (blk_cell BK273.out 7).trans rfl
                  have hfz15_0 := blk_frozen BK273.out 0
                  have hfz15_1 := blk_frozen BK273.out 1
                  have hfz15_2 := blk_frozen BK273.out 2
                  have hfz15_3 := blk_frozen BK273.out 3
                  have hfz15_4 := blk_frozen BK273.out 4
                  have hfz15_5 := blk_frozen BK273.out 5
                  have hfz15_6 := blk_frozen BK273.out 6
                  have hfz15_7 := blk_frozen BK273.out 7
                  go_wp2
                  go_meet
                  case rel => exact ⟨_, ((((rd_T40 l0 (rd t268 0)).f4) == a2)), (by first | rfl | (simp; done) | (simp [*]; done)), H', ⟨by have := HK1.out; first | omega | exact Nat.le_refl _⟩, ⟨by (with_reducible repeat (first | refine blk_drewN ?_ _ | refine blk_drew ?_ | refine blk_alloc ?_ _)); refine blk_put (cs := #[.int .i64 ((rd_T40 l0 (rd t268 0)).f0), .int .i64 ((rd_T40 l0 (rd t268 0)).f1), .int .i64 ((rd_T40 l0 (rd t268 0)).f2), .int .i64 ((rd_T40 l0 (rd t268 0)).f3), .int .i64 ((rd_T40 l0 (rd t268 0)).f4), .int .i64 ((rd_T40 l0 (rd t268 0)).f5), .int .i64 ((rd_T40 l0 (rd t268 0)).f6), .int .i64 0]) ?_ 7 _ rfl; (with_reducible repeat (first | refine blk_drewN ?_ _ | refine blk_drew ?_ | refine blk_alloc ?_ _)); refine blk_put (cs := #[.int .i64 ((rd_T40 l0 (rd t268 0)).f0), .int .i64 ((rd_T40 l0 (rd t268 0)).f1), .int .i64 ((rd_T40 l0 (rd t268 0)).f2), .int .i64 ((rd_T40 l0 (rd t268 0)).f3), .int .i64 ((rd_T40 l0 (rd t268 0)).f4), .int .i64 ((rd_T40 l0 (rd t268 0)).f5), .int .i64 0, .int .i64 0]) ?_ 6 _ rfl; (with_reducible repeat (first | refine blk_drewN ?_ _ | refine blk_drew ?_ | refine blk_alloc ?_ _)); refine blk_put (cs := #[.int .i64 ((rd_T40 l0 (rd t268 0)).f0), .int .i64 ((rd_T40 l0 (rd t268 0)).f1), .int .i64 ((rd_T40 l0 (rd t268 0)).f2), .int .i64 ((rd_T40 l0 (rd t268 0)).f3), .int .i64 ((rd_T40 l0 (rd t268 0)).f4), .int .i64 0, .int .i64 0, .int .i64 0]) ?_ 5 _ rfl; (with_reducible repeat (first | refine blk_drewN ?_ _ | refine blk_drew ?_ | refine blk_alloc ?_ _)); refine blk_put (cs := #[.int .i64 ((rd_T40 l0 (rd t268 0)).f0), .int .i64 ((rd_T40 l0 (rd t268 0)).f1), .int .i64 ((rd_T40 l0 (rd t268 0)).f2), .int .i64 ((rd_T40 l0 (rd t268 0)).f3), .int .i64 0, .int .i64 0, .int .i64 0, .int .i64 0]) ?_ 4 _ rfl; (with_reducible repeat (first | refine blk_drewN ?_ _ | refine blk_drew ?_ | refine blk_alloc ?_ _)); refine blk_put (cs := #[.int .i64 ((rd_T40 l0 (rd t268 0)).f0), .int .i64 ((rd_T40 l0 (rd t268 0)).f1), .int .i64 ((rd_T40 l0 (rd t268 0)).f2), .int .i64 0, .int .i64 0, .int .i64 0, .int .i64 0, .int .i64 0]) ?_ 3 _ rfl; (with_reducible repeat (first | refine blk_drewN ?_ _ | refine blk_drew ?_ | refine blk_alloc ?_ _)); refine blk_put (cs := #[.int .i64 ((rd_T40 l0 (rd t268 0)).f0), .int .i64 ((rd_T40 l0 (rd t268 0)).f1), .int .i64 0, .int .i64 0, .int .i64 0, .int .i64 0, .int .i64 0, .int .i64 0]) ?_ 2 _ rfl; (with_reducible repeat (first | refine blk_drewN ?_ _ | refine blk_drew ?_ | refine blk_alloc ?_ _)); refine blk_put (cs := #[.int .i64 ((rd_T40 l0 (rd t268 0)).f0), .int .i64 0, .int .i64 0, .int .i64 0, .int .i64 0, .int .i64 0, .int .i64 0, .int .i64 0]) ?_ 1 _ rfl; (with_reducible repeat (first | refine blk_drewN ?_ _ | refine blk_drew ?_ | refine blk_alloc ?_ _)); refine blk_put (cs := #[.int .i64 0, .int .i64 0, .int .i64 0, .int .i64 0, .int .i64 0, .int .i64 0, .int .i64 0, .int .i64 0]) ?_ 0 _ rfl; (with_reducible repeat (first | refine blk_drewN ?_ _ | refine blk_drew ?_ | refine blk_alloc ?_ _)); exact BK273.out⟩, ⟨by repeat (first | (with_reducible first | exact HB.out | apply below_alloc | apply pw_below_drewN | apply below_drew1 | refine below_set ?_ GE273.out) | exact HB.out)⟩⟩
                · rw [if_neg c14] at H
                  have c14b0 : (((rd_T40 l0 (rd t268 0)).f0) == 6) = false := beq_eq_false_iff_ne.mpr c14
                  have c14b1 : (((rd_T40 l0 (rd t268 0)).f0) != 6) = true := bne_iff_ne.mpr c14
                  (first | rw [c14b0] | (simp only [i64_w, i32_w]; rw [c14b0]) | skip)
                  have H' := Aside0.mk H
                  clear H
                  have hcz16_0 : w12.cell? ⟨gb273, 0, none⟩ = some (.int .i64 0) := (blk_cell BK273.out 0).trans rfl
                  have hcz16_1 : w12.cell? ⟨gb273, 1, none⟩ = some (.int .i64 0) := (blk_cell BK273.out 1).trans rfl
                  have hcz16_2 : w12.cell? ⟨gb273, 2, none⟩ = some (.int .i64 0) := (blk_cell BK273.out 2).trans rfl
                  have hcz16_3 : w12.cell? ⟨gb273, 3, none⟩ = some (.int .i64 0) := (blk_cell BK273.out 3).trans rfl
                  have hcz16_4 : w12.cell? ⟨gb273, 4, none⟩ = some (.int .i64 0) := (blk_cell BK273.out 4).trans rfl
                  have hcz16_5 : w12.cell? ⟨gb273, 5, none⟩ = some (.int .i64 0) := (blk_cell BK273.out 5).trans rfl
                  have hcz16_6 : w12.cell? ⟨gb273, 6, none⟩ = some (.int .i64 0) := (blk_cell BK273.out 6).trans rfl
                  have hcz16_7 : w12.cell? ⟨gb273, 7, none⟩ = some (.int .i64 0) := (blk_cell BK273.out 7).trans rfl
                  have hfz16_0 := blk_frozen BK273.out 0
                  have hfz16_1 := blk_frozen BK273.out 1
                  have hfz16_2 := blk_frozen BK273.out 2
                  have hfz16_3 := blk_frozen BK273.out 3
                  have hfz16_4 := blk_frozen BK273.out 4
                  have hfz16_5 := blk_frozen BK273.out 5
                  have hfz16_6 := blk_frozen BK273.out 6
                  have hfz16_7 := blk_frozen BK273.out 7
                  go_wp2
                  go_meet
                  case rel => exact ⟨_, (false), (by first | rfl | (simp; done) | (simp [*]; done)), H', ⟨by have := HK1.out; first | omega | exact Nat.le_refl _⟩, ⟨by (with_reducible repeat (first | refine blk_drewN ?_ _ | refine blk_drew ?_ | refine blk_alloc ?_ _)); refine blk_put (cs := #[.int .i64 ((rd_T40 l0 (rd t268 0)).f0), .int .i64 ((rd_T40 l0 (rd t268 0)).f1), .int .i64 ((rd_T40 l0 (rd t268 0)).f2), .int .i64 ((rd_T40 l0 (rd t268 0)).f3), .int .i64 ((rd_T40 l0 (rd t268 0)).f4), .int .i64 ((rd_T40 l0 (rd t268 0)).f5), .int .i64 ((rd_T40 l0 (rd t268 0)).f6), .int .i64 0]) ?_ 7 _ rfl; (with_reducible repeat (first | refine blk_drewN ?_ _ | refine blk_drew ?_ | refine blk_alloc ?_ _)); refine blk_put (cs := #[.int .i64 ((rd_T40 l0 (rd t268 0)).f0), .int .i64 ((rd_T40 l0 (rd t268 0)).f1), .int .i64 ((rd_T40 l0 (rd t268 0)).f2), .int .i64 ((rd_T40 l0 (rd t268 0)).f3), .int .i64 ((rd_T40 l0 (rd t268 0)).f4), .int .i64 ((rd_T40 l0 (rd t268 0)).f5), .int .i64 0, .int .i64 0]) ?_ 6 _ rfl; (with_reducible repeat (first | refine blk_drewN ?_ _ | refine blk_drew ?_ | refine blk_alloc ?_ _)); refine blk_put (cs := #[.int .i64 ((rd_T40 l0 (rd t268 0)).f0), .int .i64 ((rd_T40 l0 (rd t268 0)).f1), .int .i64 ((rd_T40 l0 (rd t268 0)).f2), .int .i64 ((rd_T40 l0 (rd t268 0)).f3), .int .i64 ((rd_T40 l0 (rd t268 0)).f4), .int .i64 0, .int .i64 0, .int .i64 0]) ?_ 5 _ rfl; (with_reducible repeat (first | refine blk_drewN ?_ _ | refine blk_drew ?_ | refine blk_alloc ?_ _)); refine blk_put (cs := #[.int .i64 ((rd_T40 l0 (rd t268 0)).f0), .int .i64 ((rd_T40 l0 (rd t268 0)).f1), .int .i64 ((rd_T40 l0 (rd t268 0)).f2), .int .i64 ((rd_T40 l0 (rd t268 0)).f3), .int .i64 0, .int .i64 0, .int .i64 0, .int .i64 0]) ?_ 4 _ rfl; (with_reducible repeat (first | refine blk_drewN ?_ _ | refine blk_drew ?_ | refine blk_alloc ?_ _)); refine blk_put (cs := #[.int .i64 ((rd_T40 l0 (rd t268 0)).f0), .int .i64 ((rd_T40 l0 (rd t268 0)).f1), .int .i64 ((rd_T40 l0 (rd t268 0)).f2), .int .i64 0, .int .i64 0, .int .i64 0, .int .i64 0, .int .i64 0]) ?_ 3 _ rfl; (with_reducible repeat (first | refine blk_drewN ?_ _ | refine blk_drew ?_ | refine blk_alloc ?_ _)); refine blk_put (cs := #[.int .i64 ((rd_T40 l0 (rd t268 0)).f0), .int .i64 ((rd_T40 l0 (rd t268 0)).f1), .int .i64 0, .int .i64 0, .int .i64 0, .int .i64 0, .int .i64 0, .int .i64 0]) ?_ 2 _ rfl; (with_reducible repeat (first | refine blk_drewN ?_ _ | refine blk_drew ?_ | refine blk_alloc ?_ _)); refine blk_put (cs := #[.int .i64 ((rd_T40 l0 (rd t268 0)).f0), .int .i64 0, .int .i64 0, .int .i64 0, .int .i64 0, .int .i64 0, .int .i64 0, .int .i64 0]) ?_ 1 _ rfl; (with_reducible repeat (first | refine blk_drewN ?_ _ | refine blk_drew ?_ | refine blk_alloc ?_ _)); refine blk_put (cs := #[.int .i64 0, .int .i64 0, .int .i64 0, .int .i64 0, .int .i64 0, .int .i64 0, .int .i64 0, .int .i64 0]) ?_ 0 _ rfl; (with_reducible repeat (first | refine blk_drewN ?_ _ | refine blk_drew ?_ | refine blk_alloc ?_ _)); exact BK273.out⟩, ⟨by repeat (first | (with_reducible first | exact HB.out | apply below_alloc | apply pw_below_drewN | apply below_drew1 | refine below_set ?_ GE273.out) | exact HB.out)⟩⟩
              case rest =>
                clear HC9
                try clear c1
                try clear p2
                try clear q2
                try clear hx2
                try clear qi2
                try clear c3
                try clear c4
                try clear c4b0
                try clear c6
                try clear c6b0
                try clear c6b1
                try clear c7
                try clear c7b0
                try clear c8
                try clear c8b0
                try clear c14
                try clear c14b0
                try clear c14b1
                try clear hcz13_0
                try clear hcz13_1
                try clear hcz13_2
                try clear hcz13_3
                try clear hcz13_4
                try clear hcz13_5
                try clear hcz13_6
                try clear hcz13_7
                try clear hcz15_0
                try clear hcz15_1
                try clear hcz15_2
                try clear hcz15_3
                try clear hcz15_4
                try clear hcz15_5
                try clear hcz15_6
                try clear hcz15_7
                try clear hcz16_0
                try clear hcz16_1
                try clear hcz16_2
                try clear hcz16_3
                try clear hcz16_4
                try clear hcz16_5
                try clear hcz16_6
                try clear hcz16_7
                try clear hfz13_0
                try clear hfz13_1
                try clear hfz13_2
                try clear hfz13_3
                try clear hfz13_4
                try clear hfz13_5
                try clear hfz13_6
                try clear hfz13_7
                try clear hfz15_0
                try clear hfz15_1
                try clear hfz15_2
                try clear hfz15_3
                try clear hfz15_4
                try clear hfz15_5
                try clear hfz15_6
                try clear hfz15_7
                try clear hfz16_0
                try clear hfz16_1
                try clear hfz16_2
                try clear hfz16_3
                try clear hfz16_4
                try clear hfz16_5
                try clear hfz16_6
                try clear hfz16_7
                try clear hx271_0
                try clear hx272_0
                try clear hx272_1
                try clear hx272_2
                try clear hx272_3
                try clear hx272_4
                try clear hx272_5
                try clear hx272_6
                try clear hx272_7
                try clear p2
                try clear p271
                try clear p272
                try clear q271
                try clear q272
                obtain ⟨kq, x19_8, rfl, HA, HJ8, BK273, HB⟩ := hcut
                cases kq with
                | zero => exact absurd HA.out (by simp [selvageref13_Known.j1])
                | succ kj8 =>
                  have H := HA.out
                  clear HA
                  simp only [selvageref13_Known.j1] at H
                  by_cases c17 : x19_8 = true
                  · subst c17
                    have H1 : (some ((rd_T40 l0 (rd t268 0)).f1)) = some r := by rw [if_pos rfl] at H; exact H
                    clear H
                    have H := H1
                    clear H1
                    obtain rfl := Option.some.inj H
                    have hcz18_0 : wc.cell? ⟨gb273, 0, none⟩ = some (.int .i64 ((rd_T40 l0 (rd t268 0)).f0)) := (blk_cell BK273.out 0).trans rfl
                    have hcz18_1 : wc.cell? ⟨gb273, 1, none⟩ = some (.int .i64 ((rd_T40 l0 (rd t268 0)).f1)) := (blk_cell BK273.out 1).trans rfl
                    have hcz18_2 : wc.cell? ⟨gb273, 2, none⟩ = some (.int .i64 ((rd_T40 l0 (rd t268 0)).f2)) := (blk_cell BK273.out 2).trans rfl
                    have hcz18_3 : wc.cell? ⟨gb273, 3, none⟩ = some (.int .i64 ((rd_T40 l0 (rd t268 0)).f3)) := (blk_cell BK273.out 3).trans rfl
                    have hcz18_4 : wc.cell? ⟨gb273, 4, none⟩ = some (.int .i64 ((rd_T40 l0 (rd t268 0)).f4)) := (blk_cell BK273.out 4).trans rfl
                    have hcz18_5 : wc.cell? ⟨gb273, 5, none⟩ = some (.int .i64 ((rd_T40 l0 (rd t268 0)).f5)) := (blk_cell BK273.out 5).trans rfl
                    have hcz18_6 : wc.cell? ⟨gb273, 6, none⟩ = some (.int .i64 ((rd_T40 l0 (rd t268 0)).f6)) := (blk_cell BK273.out 6).trans rfl
                    have hcz18_7 : wc.cell? ⟨gb273, 7, none⟩ = some (.int .i64 ((rd_T40 l0 (rd t268 0)).f7)) := (blk_cell BK273.out 7).trans rfl
                    have hfz18_0 := blk_frozen BK273.out 0
                    have hfz18_1 := blk_frozen BK273.out 1
                    have hfz18_2 := blk_frozen BK273.out 2
                    have hfz18_3 := blk_frozen BK273.out 3
                    have hfz18_4 := blk_frozen BK273.out 4
                    have hfz18_5 := blk_frozen BK273.out 5
                    have hfz18_6 := blk_frozen BK273.out 6
                    have hfz18_7 := blk_frozen BK273.out 7
                    go_wp2
                    go_ret
                    exact ⟨by first | rfl | (simp [errW_none, errW_some] <;> rfl) | (simp [*, errW_none, errW_some] <;> rfl), by repeat (first | (with_reducible first | exact HB.out | apply below_alloc | apply pw_below_drewN | apply below_drew1 | refine below_set ?_ GE273.out) | exact HB.out)⟩
                  · replace c17 := Bool.eq_false_iff.mpr c17
                    subst c17
                    have H1 : (if ((rd_T40 l0 (rd t268 0)).f0) = 7 then (selvageref13_Known.j2 kj8 l0 (rd t268 0) a2 (((rd_T40 l0 (rd t268 0)).f4) == a2) ((rd_T40 l0 (rd t268 0)).f0) ((rd_T40 l0 (rd t268 0)).f1) ((rd_T40 l0 (rd t268 0)).f2) ((rd_T40 l0 (rd t268 0)).f3) ((rd_T40 l0 (rd t268 0)).f4) ((rd_T40 l0 (rd t268 0)).f5) ((rd_T40 l0 (rd t268 0)).f6) ((rd_T40 l0 (rd t268 0)).f7)) else (selvageref13_Known.j2 kj8 l0 (rd t268 0) a2 false ((rd_T40 l0 (rd t268 0)).f0) ((rd_T40 l0 (rd t268 0)).f1) ((rd_T40 l0 (rd t268 0)).f2) ((rd_T40 l0 (rd t268 0)).f3) ((rd_T40 l0 (rd t268 0)).f4) ((rd_T40 l0 (rd t268 0)).f5) ((rd_T40 l0 (rd t268 0)).f6) ((rd_T40 l0 (rd t268 0)).f7))) = some r := by rw [if_neg (show ¬ (false = true) by decide)] at H; exact H
                    clear H
                    have H := H1
                    clear H1
                    have HC19 := Aside0.mk H
                    clear H
                    go_upto_region 6 with (fail)
                    go_cut [31] (fun v31 wc => ∃ (kq : Nat) (x31_18 : Bool), v31 = .bool x31_18 ∧ Aside0 (selvageref13_Known.j2 kq l0 (rd t268 0) a2 x31_18 ((rd_T40 l0 (rd t268 0)).f0) ((rd_T40 l0 (rd t268 0)).f1) ((rd_T40 l0 (rd t268 0)).f2) ((rd_T40 l0 (rd t268 0)).f3) ((rd_T40 l0 (rd t268 0)).f4) ((rd_T40 l0 (rd t268 0)).f5) ((rd_T40 l0 (rd t268 0)).f6) ((rd_T40 l0 (rd t268 0)).f7) = some r) ∧ Aside0 (kq ≤ kj8) ∧ Aside0 (wc.heap[gb273]? = some (.cells #[.int .i64 ((rd_T40 l0 (rd t268 0)).f0), .int .i64 ((rd_T40 l0 (rd t268 0)).f1), .int .i64 ((rd_T40 l0 (rd t268 0)).f2), .int .i64 ((rd_T40 l0 (rd t268 0)).f3), .int .i64 ((rd_T40 l0 (rd t268 0)).f4), .int .i64 ((rd_T40 l0 (rd t268 0)).f5), .int .i64 ((rd_T40 l0 (rd t268 0)).f6), .int .i64 ((rd_T40 l0 (rd t268 0)).f7)] 40 (0, 0))) ∧ Aside0 (Below w.heap.size w wc))
                    case first =>
                      have H := HC19.out
                      clear HC19
                      by_cases c20 : ((rd_T40 l0 (rd t268 0)).f0) = 7
                      · rw [if_pos c20] at H
                        have c20b0 : (((rd_T40 l0 (rd t268 0)).f0) == 7) = true := beq_iff_eq.mpr c20
                        have c20b1 : (((rd_T40 l0 (rd t268 0)).f0) != 7) = false := bne_eq_false_iff_eq.mpr c20
                        clear c20
                        (first | rw [c20b0] | (simp only [i64_w, i32_w]; rw [c20b0]) | skip)
                        have H' := Aside0.mk H
                        clear H
                        have hcz21_0 : wc.cell? ⟨gb273, 0, none⟩ = some (.int .i64 ((rd_T40 l0 (rd t268 0)).f0)) := (blk_cell BK273.out 0).trans rfl
                        have hcz21_1 : wc.cell? ⟨gb273, 1, none⟩ = some (.int .i64 ((rd_T40 l0 (rd t268 0)).f1)) := (blk_cell BK273.out 1).trans rfl
                        have hcz21_2 : wc.cell? ⟨gb273, 2, none⟩ = some (.int .i64 ((rd_T40 l0 (rd t268 0)).f2)) := (blk_cell BK273.out 2).trans rfl
                        have hcz21_3 : wc.cell? ⟨gb273, 3, none⟩ = some (.int .i64 ((rd_T40 l0 (rd t268 0)).f3)) := (blk_cell BK273.out 3).trans rfl
                        have hcz21_4 : wc.cell? ⟨gb273, 4, none⟩ = some (.int .i64 ((rd_T40 l0 (rd t268 0)).f4)) := (blk_cell BK273.out 4).trans rfl
                        have hcz21_5 : wc.cell? ⟨gb273, 5, none⟩ = some (.int .i64 ((rd_T40 l0 (rd t268 0)).f5)) := (blk_cell BK273.out 5).trans rfl
                        have hcz21_6 : wc.cell? ⟨gb273, 6, none⟩ = some (.int .i64 ((rd_T40 l0 (rd t268 0)).f6)) := (blk_cell BK273.out 6).trans rfl
                        have hcz21_7 : wc.cell? ⟨gb273, 7, none⟩ = some (.int .i64 ((rd_T40 l0 (rd t268 0)).f7)) := (blk_cell BK273.out 7).trans rfl
                        have hfz21_0 := blk_frozen BK273.out 0
                        have hfz21_1 := blk_frozen BK273.out 1
                        have hfz21_2 := blk_frozen BK273.out 2
                        have hfz21_3 := blk_frozen BK273.out 3
                        have hfz21_4 := blk_frozen BK273.out 4
                        have hfz21_5 := blk_frozen BK273.out 5
                        have hfz21_6 := blk_frozen BK273.out 6
                        have hfz21_7 := blk_frozen BK273.out 7
                        go_wp2
                        go_meet
                        case rel => exact ⟨_, ((((rd_T40 l0 (rd t268 0)).f4) == a2)), (by first | rfl | (simp; done) | (simp [*]; done)), H', ⟨by have := HK1.out; have := HJ8.out; first | omega | exact Nat.le_refl _⟩, ⟨by (with_reducible repeat (first | refine blk_drewN ?_ _ | refine blk_drew ?_ | refine blk_alloc ?_ _)); exact BK273.out⟩, ⟨by repeat (first | (with_reducible first | exact HB.out | apply below_alloc | apply pw_below_drewN | apply below_drew1 | refine below_set ?_ GE273.out) | exact HB.out)⟩⟩
                      · rw [if_neg c20] at H
                        have c20b0 : (((rd_T40 l0 (rd t268 0)).f0) == 7) = false := beq_eq_false_iff_ne.mpr c20
                        have c20b1 : (((rd_T40 l0 (rd t268 0)).f0) != 7) = true := bne_iff_ne.mpr c20
                        (first | rw [c20b0] | (simp only [i64_w, i32_w]; rw [c20b0]) | skip)
                        have H' := Aside0.mk H
                        clear H
                        have hcz22_0 : wc.cell? ⟨gb273, 0, none⟩ = some (.int .i64 ((rd_T40 l0 (rd t268 0)).f0)) := (blk_cell BK273.out 0).trans rfl
                        have hcz22_1 : wc.cell? ⟨gb273, 1, none⟩ = some (.int .i64 ((rd_T40 l0 (rd t268 0)).f1)) := (blk_cell BK273.out 1).trans rfl
                        have hcz22_2 : wc.cell? ⟨gb273, 2, none⟩ = some (.int .i64 ((rd_T40 l0 (rd t268 0)).f2)) := (blk_cell BK273.out 2).trans rfl
                        have hcz22_3 : wc.cell? ⟨gb273, 3, none⟩ = some (.int .i64 ((rd_T40 l0 (rd t268 0)).f3)) := (blk_cell BK273.out 3).trans rfl
                        have hcz22_4 : wc.cell? ⟨gb273, 4, none⟩ = some (.int .i64 ((rd_T40 l0 (rd t268 0)).f4)) := (blk_cell BK273.out 4).trans rfl
                        have hcz22_5 : wc.cell? ⟨gb273, 5, none⟩ = some (.int .i64 ((rd_T40 l0 (rd t268 0)).f5)) := (blk_cell BK273.out 5).trans rfl
                        have hcz22_6 : wc.cell? ⟨gb273, 6, none⟩ = some (.int .i64 ((rd_T40 l0 (rd t268 0)).f6)) := (blk_cell BK273.out 6).trans rfl
                        have hcz22_7 : wc.cell? ⟨gb273, 7, none⟩ = some (.int .i64 ((rd_T40 l0 (rd t268 0)).f7)) := (blk_cell BK273.out 7).trans rfl
                        have hfz22_0 := blk_frozen BK273.out 0
                        have hfz22_1 := blk_frozen BK273.out 1
                        have hfz22_2 := blk_frozen BK273.out 2
                        have hfz22_3 := blk_frozen BK273.out 3
                        have hfz22_4 := blk_frozen BK273.out 4
                        have hfz22_5 := blk_frozen BK273.out 5
                        have hfz22_6 := blk_frozen BK273.out 6
                        have hfz22_7 := blk_frozen BK273.out 7
                        go_wp2
                        go_meet
                        case rel => exact ⟨_, (false), (by first | rfl | (simp; done) | (simp [*]; done)), H', ⟨by have := HK1.out; have := HJ8.out; first | omega | exact Nat.le_refl _⟩, ⟨by (with_reducible repeat (first | refine blk_drewN ?_ _ | refine blk_drew ?_ | refine blk_alloc ?_ _)); exact BK273.out⟩, ⟨by repeat (first | (with_reducible first | exact HB.out | apply below_alloc | apply pw_below_drewN | apply below_drew1 | refine below_set ?_ GE273.out) | exact HB.out)⟩⟩
                    case rest =>
                      clear HC19
                      try clear c1
                      try clear c2
                      try clear p2
                      try clear q2
                      try clear hx2
                      try clear qi2
                      try clear c3
                      try clear c4
                      try clear c4b0
                      try clear c6
                      try clear c6b0
                      try clear c6b1
                      try clear c7
                      try clear c7b0
                      try clear c8
                      try clear c8b0
                      try clear c14
                      try clear c14b0
                      try clear c14b1
                      try clear c17
                      try clear c20
                      try clear c20b0
                      try clear c20b1
                      try clear hcz13_0
                      try clear hcz13_1
                      try clear hcz13_2
                      try clear hcz13_3
                      try clear hcz13_4
                      try clear hcz13_5
                      try clear hcz13_6
                      try clear hcz13_7
                      try clear hcz15_0
                      try clear hcz15_1
                      try clear hcz15_2
                      try clear hcz15_3
                      try clear hcz15_4
                      try clear hcz15_5
                      try clear hcz15_6
                      try clear hcz15_7
                      try clear hcz16_0
                      try clear hcz16_1
                      try clear hcz16_2
                      try clear hcz16_3
                      try clear hcz16_4
                      try clear hcz16_5
                      try clear hcz16_6
                      try clear hcz16_7
                      try clear hcz18_0
                      try clear hcz18_1
                      try clear hcz18_2
                      try clear hcz18_3
                      try clear hcz18_4
                      try clear hcz18_5
                      try clear hcz18_6
                      try clear hcz18_7
                      try clear hcz21_0
                      try clear hcz21_1
                      try clear hcz21_2
                      try clear hcz21_3
                      try clear hcz21_4
                      try clear hcz21_5
                      try clear hcz21_6
                      try clear hcz21_7
                      try clear hcz22_0
                      try clear hcz22_1
                      try clear hcz22_2
                      try clear hcz22_3
                      try clear hcz22_4
                      try clear hcz22_5
                      try clear hcz22_6
                      try clear hcz22_7
                      try clear hfz13_0
                      try clear hfz13_1
                      try clear hfz13_2
                      try clear hfz13_3
                      try clear hfz13_4
                      try clear hfz13_5
                      try clear hfz13_6
                      try clear hfz13_7
                      try clear hfz15_0
                      try clear hfz15_1
                      try clear hfz15_2
                      try clear hfz15_3
                      try clear hfz15_4
                      try clear hfz15_5
                      try clear hfz15_6
                      try clear hfz15_7
                      try clear hfz16_0
                      try clear hfz16_1
                      try clear hfz16_2
                      try clear hfz16_3
                      try clear hfz16_4
                      try clear hfz16_5
                      try clear hfz16_6
                      try clear hfz16_7
                      try clear hfz18_0
                      try clear hfz18_1
                      try clear hfz18_2
                      try clear hfz18_3
                      try clear hfz18_4
                      try clear hfz18_5
                      try clear hfz18_6
                      try clear hfz18_7
                      try clear hfz21_0
                      try clear hfz21_1
                      try clear hfz21_2
                      try clear hfz21_3
                      try clear hfz21_4
                      try clear hfz21_5
                      try clear hfz21_6
                      try clear hfz21_7
                      try clear hfz22_0
                      try clear hfz22_1
                      try clear hfz22_2
                      try clear hfz22_3
                      try clear hfz22_4
                      try clear hfz22_5
                      try clear hfz22_6
                      try clear hfz22_7
                      try clear hx271_0
                      try clear hx272_0
                      try clear hx272_1
                      try clear hx272_2
                      try clear hx272_3
                      try clear hx272_4
                      try clear hx272_5
                      try clear hx272_6
                      try clear hx272_7
                      try clear p2
                      try clear p271
                      try clear p272
                      try clear q2
                      try clear q271
                      try clear q272
                      obtain ⟨kq, x31_18, rfl, HA, HJ18, BK273, HB⟩ := hcut
                      cases kq with
                      | zero => exact absurd HA.out (by simp [selvageref13_Known.j2])
                      | succ kj18 =>
                        have H := HA.out
                        clear HA
                        simp only [selvageref13_Known.j2] at H
                        by_cases c23 : x31_18 = true
                        · subst c23
                          have H1 : (some ((rd_T40 l0 (rd t268 0)).f2)) = some r := by rw [if_pos rfl] at H; exact H
                          clear H
                          have H := H1
                          clear H1
                          obtain rfl := Option.some.inj H
                          have hcz24_0 : wc.cell? ⟨gb273, 0, none⟩ = some (.int .i64 ((rd_T40 l0 (rd t268 0)).f0)) := (blk_cell BK273.out 0).trans rfl
                          have hcz24_1 : wc.cell? ⟨gb273, 1, none⟩ = some (.int .i64 ((rd_T40 l0 (rd t268 0)).f1)) := (blk_cell BK273.out 1).trans rfl
                          have hcz24_2 : wc.cell? ⟨gb273, 2, none⟩ = some (.int .i64 ((rd_T40 l0 (rd t268 0)).f2)) := (blk_cell BK273.out 2).trans rfl
                          have hcz24_3 : wc.cell? ⟨gb273, 3, none⟩ = some (.int .i64 ((rd_T40 l0 (rd t268 0)).f3)) := (blk_cell BK273.out 3).trans rfl
                          have hcz24_4 : wc.cell? ⟨gb273, 4, none⟩ = some (.int .i64 ((rd_T40 l0 (rd t268 0)).f4)) := (blk_cell BK273.out 4).trans rfl
                          have hcz24_5 : wc.cell? ⟨gb273, 5, none⟩ = some (.int .i64 ((rd_T40 l0 (rd t268 0)).f5)) := (blk_cell BK273.out 5).trans rfl
                          have hcz24_6 : wc.cell? ⟨gb273, 6, none⟩ = some (.int .i64 ((rd_T40 l0 (rd t268 0)).f6)) := (blk_cell BK273.out 6).trans rfl
                          have hcz24_7 : wc.cell? ⟨gb273, 7, none⟩ = some (.int .i64 ((rd_T40 l0 (rd t268 0)).f7)) := (blk_cell BK273.out 7).trans rfl
                          have hfz24_0 := blk_frozen BK273.out 0
                          have hfz24_1 := blk_frozen BK273.out 1
                          have hfz24_2 := blk_frozen BK273.out 2
                          have hfz24_3 := blk_frozen BK273.out 3
                          have hfz24_4 := blk_frozen BK273.out 4
                          have hfz24_5 := blk_frozen BK273.out 5
                          have hfz24_6 := blk_frozen BK273.out 6
                          have hfz24_7 := blk_frozen BK273.out 7
                          go_wp2
                          go_ret
                          exact ⟨by first | rfl | (simp [errW_none, errW_some] <;> rfl) | (simp [*, errW_none, errW_some] <;> rfl), by repeat (first | (with_reducible first | exact HB.out | apply below_alloc | apply pw_below_drewN | apply below_drew1 | refine below_set ?_ GE273.out) | exact HB.out)⟩
                        · replace c23 := Bool.eq_false_iff.mpr c23
                          subst c23
                          have H1 : (if ((rd_T40 l0 (rd t268 0)).f0) = 14 then (if a2 ≥ ((rd_T40 l0 (rd t268 0)).f4) then (selvageref13_Known.j3 kj18 l0 (rd t268 0) a2 (decide (a2 < (wrap64 (((rd_T40 l0 (rd t268 0)).f4) + ((rd_T40 l0 (rd t268 0)).f5))))) ((rd_T40 l0 (rd t268 0)).f0) ((rd_T40 l0 (rd t268 0)).f1) ((rd_T40 l0 (rd t268 0)).f2) ((rd_T40 l0 (rd t268 0)).f3) ((rd_T40 l0 (rd t268 0)).f4) ((rd_T40 l0 (rd t268 0)).f5) ((rd_T40 l0 (rd t268 0)).f6) ((rd_T40 l0 (rd t268 0)).f7)) else (selvageref13_Known.j3 kj18 l0 (rd t268 0) a2 false ((rd_T40 l0 (rd t268 0)).f0) ((rd_T40 l0 (rd t268 0)).f1) ((rd_T40 l0 (rd t268 0)).f2) ((rd_T40 l0 (rd t268 0)).f3) ((rd_T40 l0 (rd t268 0)).f4) ((rd_T40 l0 (rd t268 0)).f5) ((rd_T40 l0 (rd t268 0)).f6) ((rd_T40 l0 (rd t268 0)).f7))) else (selvageref13_Known.j3 kj18 l0 (rd t268 0) a2 false ((rd_T40 l0 (rd t268 0)).f0) ((rd_T40 l0 (rd t268 0)).f1) ((rd_T40 l0 (rd t268 0)).f2) ((rd_T40 l0 (rd t268 0)).f3) ((rd_T40 l0 (rd t268 0)).f4) ((rd_T40 l0 (rd t268 0)).f5) ((rd_T40 l0 (rd t268 0)).f6) ((rd_T40 l0 (rd t268 0)).f7))) = some r := by rw [if_neg (show ¬ (false = true) by decide)] at H; exact H
                          clear H
                          have H := H1
                          clear H1
                          have HC25 := Aside0.mk H
                          clear H
                          go_upto_region 8 with (fail)
                          go_cut [43] (fun v43 wc => ∃ (kq : Nat) (x43_24 : Bool), v43 = .bool x43_24 ∧ Aside0 (selvageref13_Known.j3 kq l0 (rd t268 0) a2 x43_24 ((rd_T40 l0 (rd t268 0)).f0) ((rd_T40 l0 (rd t268 0)).f1) ((rd_T40 l0 (rd t268 0)).f2) ((rd_T40 l0 (rd t268 0)).f3) ((rd_T40 l0 (rd t268 0)).f4) ((rd_T40 l0 (rd t268 0)).f5) ((rd_T40 l0 (rd t268 0)).f6) ((rd_T40 l0 (rd t268 0)).f7) = some r) ∧ Aside0 (kq ≤ kj18) ∧ Aside0 (wc.heap[gb273]? = some (.cells #[.int .i64 ((rd_T40 l0 (rd t268 0)).f0), .int .i64 ((rd_T40 l0 (rd t268 0)).f1), .int .i64 ((rd_T40 l0 (rd t268 0)).f2), .int .i64 ((rd_T40 l0 (rd t268 0)).f3), .int .i64 ((rd_T40 l0 (rd t268 0)).f4), .int .i64 ((rd_T40 l0 (rd t268 0)).f5), .int .i64 ((rd_T40 l0 (rd t268 0)).f6), .int .i64 ((rd_T40 l0 (rd t268 0)).f7)] 40 (0, 0))) ∧ Aside0 (Below w.heap.size w wc))
                          case first =>
                            have H := HC25.out
                            clear HC25
                            by_cases c26 : ((rd_T40 l0 (rd t268 0)).f0) = 14
                            · rw [if_pos c26] at H
                              have c26b0 : (((rd_T40 l0 (rd t268 0)).f0) == 14) = true := beq_iff_eq.mpr c26
                              have c26b1 : (((rd_T40 l0 (rd t268 0)).f0) != 14) = false := bne_eq_false_iff_eq.mpr c26
                              clear c26
                              (first | rw [c26b0] | (simp only [i64_w, i32_w]; rw [c26b0]) | skip)
                              by_cases c27 : a2 ≥ ((rd_T40 l0 (rd t268 0)).f4)
                              · rw [if_pos c27] at H
                                have c27b0 : decide (((rd_T40 l0 (rd t268 0)).f4) ≤ a2) = true := decide_eq_true c27
                                clear c27
                                have H' := Aside0.mk H
                                clear H
                                have hcz28_0 : wc.cell? ⟨gb273, 0, none⟩ = some (.int .i64 ((rd_T40 l0 (rd t268 0)).f0)) := (blk_cell BK273.out 0).trans rfl
                                have hcz28_1 : wc.cell? ⟨gb273, 1, none⟩ = some (.int .i64 ((rd_T40 l0 (rd t268 0)).f1)) := (blk_cell BK273.out 1).trans rfl
                                have hcz28_2 : wc.cell? ⟨gb273, 2, none⟩ = some (.int .i64 ((rd_T40 l0 (rd t268 0)).f2)) := (blk_cell BK273.out 2).trans rfl
                                have hcz28_3 : wc.cell? ⟨gb273, 3, none⟩ = some (.int .i64 ((rd_T40 l0 (rd t268 0)).f3)) := (blk_cell BK273.out 3).trans rfl
                                have hcz28_4 : wc.cell? ⟨gb273, 4, none⟩ = some (.int .i64 ((rd_T40 l0 (rd t268 0)).f4)) := (blk_cell BK273.out 4).trans rfl
                                have hcz28_5 : wc.cell? ⟨gb273, 5, none⟩ = some (.int .i64 ((rd_T40 l0 (rd t268 0)).f5)) := (blk_cell BK273.out 5).trans rfl
                                have hcz28_6 : wc.cell? ⟨gb273, 6, none⟩ = some (.int .i64 ((rd_T40 l0 (rd t268 0)).f6)) := (blk_cell BK273.out 6).trans rfl
                                have hcz28_7 : wc.cell? ⟨gb273, 7, none⟩ = some (.int .i64 ((rd_T40 l0 (rd t268 0)).f7)) := (blk_cell BK273.out 7).trans rfl
                                have hfz28_0 := blk_frozen BK273.out 0
                                have hfz28_1 := blk_frozen BK273.out 1
                                have hfz28_2 := blk_frozen BK273.out 2
                                have hfz28_3 := blk_frozen BK273.out 3
                                have hfz28_4 := blk_frozen BK273.out 4
                                have hfz28_5 := blk_frozen BK273.out 5
                                have hfz28_6 := blk_frozen BK273.out 6
                                have hfz28_7 := blk_frozen BK273.out 7
                                go_wp2
                                go_meet
                                case rel => exact ⟨_, (decide (a2 < (wrap64 (((rd_T40 l0 (rd t268 0)).f4) + ((rd_T40 l0 (rd t268 0)).f5))))), (by first | rfl | (simp; done) | (simp [*]; done)), H', ⟨by have := HK1.out; have := HJ8.out; have := HJ18.out; first | omega | exact Nat.le_refl _⟩, ⟨by (with_reducible repeat (first | refine blk_drewN ?_ _ | refine blk_drew ?_ | refine blk_alloc ?_ _)); exact BK273.out⟩, ⟨by repeat (first | (with_reducible first | exact HB.out | apply below_alloc | apply pw_below_drewN | apply below_drew1 | refine below_set ?_ GE273.out) | exact HB.out)⟩⟩
                              · rw [if_neg c27] at H
                                have c27b0 : decide (((rd_T40 l0 (rd t268 0)).f4) ≤ a2) = false := decide_eq_false c27
                                clear c27
                                have H' := Aside0.mk H
                                clear H
                                have hcz29_0 : wc.cell? ⟨gb273, 0, none⟩ = some (.int .i64 ((rd_T40 l0 (rd t268 0)).f0)) := (blk_cell BK273.out 0).trans rfl
                                have hcz29_1 : wc.cell? ⟨gb273, 1, none⟩ = some (.int .i64 ((rd_T40 l0 (rd t268 0)).f1)) := (blk_cell BK273.out 1).trans rfl
                                have hcz29_2 : wc.cell? ⟨gb273, 2, none⟩ = some (.int .i64 ((rd_T40 l0 (rd t268 0)).f2)) := (blk_cell BK273.out 2).trans rfl
                                have hcz29_3 : wc.cell? ⟨gb273, 3, none⟩ = some (.int .i64 ((rd_T40 l0 (rd t268 0)).f3)) := (blk_cell BK273.out 3).trans rfl
                                have hcz29_4 : wc.cell? ⟨gb273, 4, none⟩ = some (.int .i64 ((rd_T40 l0 (rd t268 0)).f4)) := (blk_cell BK273.out 4).trans rfl
                                have hcz29_5 : wc.cell? ⟨gb273, 5, none⟩ = some (.int .i64 ((rd_T40 l0 (rd t268 0)).f5)) := (blk_cell BK273.out 5).trans rfl
                                have hcz29_6 : wc.cell? ⟨gb273, 6, none⟩ = some (.int .i64 ((rd_T40 l0 (rd t268 0)).f6)) := (blk_cell BK273.out 6).trans rfl
                                have hcz29_7 : wc.cell? ⟨gb273, 7, none⟩ = some (.int .i64 ((rd_T40 l0 (rd t268 0)).f7)) := (blk_cell BK273.out 7).trans rfl
                                have hfz29_0 := blk_frozen BK273.out 0
                                have hfz29_1 := blk_frozen BK273.out 1
                                have hfz29_2 := blk_frozen BK273.out 2
                                have hfz29_3 := blk_frozen BK273.out 3
                                have hfz29_4 := blk_frozen BK273.out 4
                                have hfz29_5 := blk_frozen BK273.out 5
                                have hfz29_6 := blk_frozen BK273.out 6
                                have hfz29_7 := blk_frozen BK273.out 7
                                go_wp2
                                go_meet
                                case rel => exact ⟨_, (false), (by first | rfl | (simp; done) | (simp [*]; done)), H', ⟨by have := HK1.out; have := HJ8.out; have := HJ18.out; first | omega | exact Nat.le_refl _⟩, ⟨by (with_reducible repeat (first | refine blk_drewN ?_ _ | refine blk_drew ?_ | refine blk_alloc ?_ _)); exact BK273.out⟩, ⟨by repeat (first | (with_reducible first | exact HB.out | apply below_alloc | apply pw_below_drewN | apply below_drew1 | refine below_set ?_ GE273.out) | exact HB.out)⟩⟩
                            · rw [if_neg c26] at H
                              have c26b0 : (((rd_T40 l0 (rd t268 0)).f0) == 14) = false := beq_eq_false_iff_ne.mpr c26
                              have c26b1 : (((rd_T40 l0 (rd t268 0)).f0) != 14) = true := bne_iff_ne.mpr c26
                              (first | rw [c26b0] | (simp only [i64_w, i32_w]; rw [c26b0]) | skip)
                              have H' := Aside0.mk H
                              clear H
                              have hcz30_0 : wc.cell? ⟨gb273, 0, none⟩ = some (.int .i64 ((rd_T40 l0 (rd t268 0)).f0)) := (blk_cell BK273.out 0).trans rfl
                              have hcz30_1 : wc.cell? ⟨gb273, 1, none⟩ = some (.int .i64 ((rd_T40 l0 (rd t268 0)).f1)) := (blk_cell BK273.out 1).trans rfl
                              have hcz30_2 : wc.cell? ⟨gb273, 2, none⟩ = some (.int .i64 ((rd_T40 l0 (rd t268 0)).f2)) := (blk_cell BK273.out 2).trans rfl
                              have hcz30_3 : wc.cell? ⟨gb273, 3, none⟩ = some (.int .i64 ((rd_T40 l0 (rd t268 0)).f3)) := (blk_cell BK273.out 3).trans rfl
                              have hcz30_4 : wc.cell? ⟨gb273, 4, none⟩ = some (.int .i64 ((rd_T40 l0 (rd t268 0)).f4)) := (blk_cell BK273.out 4).trans rfl
                              have hcz30_5 : wc.cell? ⟨gb273, 5, none⟩ = some (.int .i64 ((rd_T40 l0 (rd t268 0)).f5)) := (blk_cell BK273.out 5).trans rfl
                              have hcz30_6 : wc.cell? ⟨gb273, 6, none⟩ = some (.int .i64 ((rd_T40 l0 (rd t268 0)).f6)) := (blk_cell BK273.out 6).trans rfl
                              have hcz30_7 : wc.cell? ⟨gb273, 7, none⟩ = some (.int .i64 ((rd_T40 l0 (rd t268 0)).f7)) := (blk_cell BK273.out 7).trans rfl
                              have hfz30_0 := blk_frozen BK273.out 0
                              have hfz30_1 := blk_frozen BK273.out 1
                              have hfz30_2 := blk_frozen BK273.out 2
                              have hfz30_3 := blk_frozen BK273.out 3
                              have hfz30_4 := blk_frozen BK273.out 4
                              have hfz30_5 := blk_frozen BK273.out 5
                              have hfz30_6 := blk_frozen BK273.out 6
                              have hfz30_7 := blk_frozen BK273.out 7
                              go_wp2
                              go_meet
                              case rel => exact ⟨_, (false), (by first | rfl | (simp; done) | (simp [*]; done)), H', ⟨by have := HK1.out; have := HJ8.out; have := HJ18.out; first | omega | exact Nat.le_refl _⟩, ⟨by (with_reducible repeat (first | refine blk_drewN ?_ _ | refine blk_drew ?_ | refine blk_alloc ?_ _)); exact BK273.out⟩, ⟨by repeat (first | (with_reducible first | exact HB.out | apply below_alloc | apply pw_below_drewN | apply below_drew1 | refine below_set ?_ GE273.out) | exact HB.out)⟩⟩
                          case rest =>
                            clear HC25
                            try clear c1
                            try clear c2
                            try clear p2
                            try clear q2
                            try clear hx2
                            try clear qi2
                            try clear c3
                            try clear c4
                            try clear c4b0
                            try clear c6
                            try clear c6b0
                            try clear c6b1
                            try clear p6
                            try clear c7
                            try clear c7b0
                            try clear c8
                            try clear c8b0
                            try clear c14
                            try clear c14b0
                            try clear c14b1
                            try clear c17
                            try clear c20
                            try clear c20b0
                            try clear c20b1
                            try clear c23
                            try clear c26
                            try clear c26b0
                            try clear c26b1
                            try clear c27
                            try clear c27b0
                            try clear p27
                            try clear q27
                            try clear hx27
                            try clear qi27
                            try clear hcz13_0
                            try clear hcz13_1
                            try clear hcz13_2
                            try clear hcz13_3
                            try clear hcz13_4
                            try clear hcz13_5
                            try clear hcz13_6
                            try clear hcz13_7
                            try clear hcz15_0
                            try clear hcz15_1
                            try clear hcz15_2
                            try clear hcz15_3
                            try clear hcz15_4
                            try clear hcz15_5
                            try clear hcz15_6
                            try clear hcz15_7
                            try clear hcz16_0
                            try clear hcz16_1
                            try clear hcz16_2
                            try clear hcz16_3
                            try clear hcz16_4
                            try clear hcz16_5
                            try clear hcz16_6
                            try clear hcz16_7
                            try clear hcz18_0
                            try clear hcz18_1
                            try clear hcz18_2
                            try clear hcz18_3
                            try clear hcz18_4
                            try clear hcz18_5
                            try clear hcz18_6
                            try clear hcz18_7
                            try clear hcz21_0
                            try clear hcz21_1
                            try clear hcz21_2
                            try clear hcz21_3
                            try clear hcz21_4
                            try clear hcz21_5
                            try clear hcz21_6
                            try clear hcz21_7
                            try clear hcz22_0
                            try clear hcz22_1
                            try clear hcz22_2
                            try clear hcz22_3
                            try clear hcz22_4
                            try clear hcz22_5
                            try clear hcz22_6
                            try clear hcz22_7
                            try clear hcz24_0
                            try clear hcz24_1
                            try clear hcz24_2
                            try clear hcz24_3
                            try clear hcz24_4
                            try clear hcz24_5
                            try clear hcz24_6
                            try clear hcz24_7
                            try clear hcz28_0
                            try clear hcz28_1
                            try clear hcz28_2
                            try clear hcz28_3
                            try clear hcz28_4
                            try clear hcz28_5
                            try clear hcz28_6
                            try clear hcz28_7
                            try clear hcz29_0
                            try clear hcz29_1
                            try clear hcz29_2
                            try clear hcz29_3
                            try clear hcz29_4
                            try clear hcz29_5
                            try clear hcz29_6
                            try clear hcz29_7
                            try clear hcz30_0
                            try clear hcz30_1
                            try clear hcz30_2
                            try clear hcz30_3
                            try clear hcz30_4
                            try clear hcz30_5
                            try clear hcz30_6
                            try clear hcz30_7
                            try clear hfz13_0
                            try clear hfz13_1
                            try clear hfz13_2
                            try clear hfz13_3
                            try clear hfz13_4
                            try clear hfz13_5
                            try clear hfz13_6
                            try clear hfz13_7
                            try clear hfz15_0
                            try clear hfz15_1
                            try clear hfz15_2
                            try clear hfz15_3
                            try clear hfz15_4
                            try clear hfz15_5
                            try clear hfz15_6
                            try clear hfz15_7
                            try clear hfz16_0
                            try clear hfz16_1
                            try clear hfz16_2
                            try clear hfz16_3
                            try clear hfz16_4
                            try clear hfz16_5
                            try clear hfz16_6
                            try clear hfz16_7
                            try clear hfz18_0
                            try clear hfz18_1
                            try clear hfz18_2
                            try clear hfz18_3
                            try clear hfz18_4
                            try clear hfz18_5
                            try clear hfz18_6
                            try clear hfz18_7
                            try clear hfz21_0
                            try clear hfz21_1
                            try clear hfz21_2
                            try clear hfz21_3
                            try clear hfz21_4
                            try clear hfz21_5
                            try clear hfz21_6
                            try clear hfz21_7
                            try clear hfz22_0
                            try clear hfz22_1
                            try clear hfz22_2
                            try clear hfz22_3
                            try clear hfz22_4
                            try clear hfz22_5
                            try clear hfz22_6
                            try clear hfz22_7
                            try clear hfz24_0
                            try clear hfz24_1
                            try clear hfz24_2
                            try clear hfz24_3
                            try clear hfz24_4
                            try clear hfz24_5
                            try clear hfz24_6
                            try clear hfz24_7
                            try clear hfz28_0
                            try clear hfz28_1
                            try clear hfz28_2
                            try clear hfz28_3
                            try clear hfz28_4
                            try clear hfz28_5
                            try clear hfz28_6
                            try clear hfz28_7
                            try clear hfz29_0
                            try clear hfz29_1
                            try clear hfz29_2
                            try clear hfz29_3
                            try clear hfz29_4
                            try clear hfz29_5
                            try clear hfz29_6
                            try clear hfz29_7
                            try clear hfz30_0
                            try clear hfz30_1
                            try clear hfz30_2
                            try clear hfz30_3
                            try clear hfz30_4
                            try clear hfz30_5
                            try clear hfz30_6
                            try clear hfz30_7
                            try clear hx271_0
                            try clear hx272_0
                            try clear hx272_1
                            try clear hx272_2
                            try clear hx272_3
                            try clear hx272_4
                            try clear hx272_5
                            try clear hx272_6
                            try clear hx272_7
                            try clear p2
                            try clear p271
                            try clear p272
                            try clear q2
                            try clear q271
                            try clear q272
                            obtain ⟨kq, x43_24, rfl, HA, HJ24, BK273, HB⟩ := hcut
                            cases kq with
                            | zero => exact absurd HA.out (by simp [selvageref13_Known.j3])
                            | succ kj24 =>
                              have H := HA.out
                              clear HA
                              simp only [selvageref13_Known.j3] at H
                              by_cases c31 : x43_24 = true
                              · subst c31
                                have H1 : (some (-1)) = some r := by rw [if_pos rfl] at H; exact H
                                clear H
                                have H := H1
                                clear H1
                                obtain rfl := Option.some.inj H
                                go_wp2
                                go_ret
                                exact ⟨by first | rfl | (simp [errW_none, errW_some] <;> rfl) | (simp [*, errW_none, errW_some] <;> rfl), by repeat (first | (with_reducible first | exact HB.out | apply below_alloc | apply pw_below_drewN | apply below_drew1 | refine below_set ?_ GE273.out) | exact HB.out)⟩
                              · replace c31 := Bool.eq_false_iff.mpr c31
                                subst c31
                                have H1 : ((selvageref13_atomic.f ((rd_T40 l0 (rd t268 0)).f0)).bind fun t274 => (if t274 = true then (some (-1)) else (selvageref13_Known.l0 kj24 l0 (rd t268 0) a2))) = some r := by rw [if_neg (show ¬ (false = true) by decide)] at H; exact H
                                clear H
                                have H := H1
                                clear H1
                                replace H := Option.bind_eq_some_iff.mp H
                                obtain ⟨t274, A320, H⟩ := H
                                replace H : (if t274 = true then (some (-1)) else (selvageref13_Known.l0 kj24 l0 (rd t268 0) a2)) = some r := H
                                have A32 := Aside0.mk A320
                                clear A320
                                by_cases c33 : t274 = true
                                · subst c33
                                  have H1 : (some (-1)) = some r := by rw [if_pos rfl] at H; exact H
                                  clear H
                                  have H := H1
                                  clear H1
                                  obtain rfl := Option.some.inj H
                                  have hcz34_0 : wc.cell? ⟨gb273, 0, none⟩ = some (.int .i64 ((rd_T40 l0 (rd t268 0)).f0)) := (blk_cell BK273.out 0).trans rfl
                                  have hcz34_1 : wc.cell? ⟨gb273, 1, none⟩ = some (.int .i64 ((rd_T40 l0 (rd t268 0)).f1)) := (blk_cell BK273.out 1).trans rfl
                                  have hcz34_2 : wc.cell? ⟨gb273, 2, none⟩ = some (.int .i64 ((rd_T40 l0 (rd t268 0)).f2)) := (blk_cell BK273.out 2).trans rfl
                                  have hcz34_3 : wc.cell? ⟨gb273, 3, none⟩ = some (.int .i64 ((rd_T40 l0 (rd t268 0)).f3)) := (blk_cell BK273.out 3).trans rfl
                                  have hcz34_4 : wc.cell? ⟨gb273, 4, none⟩ = some (.int .i64 ((rd_T40 l0 (rd t268 0)).f4)) := (blk_cell BK273.out 4).trans rfl
                                  have hcz34_5 : wc.cell? ⟨gb273, 5, none⟩ = some (.int .i64 ((rd_T40 l0 (rd t268 0)).f5)) := (blk_cell BK273.out 5).trans rfl
                                  have hcz34_6 : wc.cell? ⟨gb273, 6, none⟩ = some (.int .i64 ((rd_T40 l0 (rd t268 0)).f6)) := (blk_cell BK273.out 6).trans rfl
                                  have hcz34_7 : wc.cell? ⟨gb273, 7, none⟩ = some (.int .i64 ((rd_T40 l0 (rd t268 0)).f7)) := (blk_cell BK273.out 7).trans rfl
                                  have hfz34_0 := blk_frozen BK273.out 0
                                  have hfz34_1 := blk_frozen BK273.out 1
                                  have hfz34_2 := blk_frozen BK273.out 2
                                  have hfz34_3 := blk_frozen BK273.out 3
                                  have hfz34_4 := blk_frozen BK273.out 4
                                  have hfz34_5 := blk_frozen BK273.out 5
                                  have hfz34_6 := blk_frozen BK273.out 6
                                  have hfz34_7 := blk_frozen BK273.out 7
                                  go_wp2_with (first | ((with_reducible refine gate_callee (f := 51) rfl ?_); refine goesL_ (some 64) rfl rfl Try.func51 (by kernel_rfl) rfl #[.int .i64 ((rd_T40 l0 (rd t268 0)).f0)] rfl (by (try simp only [List.map_toArray, List.map_cons, List.map_nil]); first | done | rfl | (simp only [List.length_drop, List.length_take]; rfl)) ?_; (with_reducible refine (selvageref13_atomic.calls ((rd_T40 l0 (rd t268 0)).f0) true _ A32.out).mono ?_); rintro e w' ⟨rfl, ⟨nd, rfl⟩⟩; refine ⟨_, rfl, ?_⟩))
                                  go_ret
                                  exact ⟨by first | rfl | (simp [errW_none, errW_some] <;> rfl) | (simp [*, errW_none, errW_some] <;> rfl), by repeat (first | (with_reducible first | exact HB.out | apply below_alloc | apply pw_below_drewN | apply below_drew1 | refine below_set ?_ GE273.out) | exact HB.out)⟩
                                · replace c33 := Bool.eq_false_iff.mpr c33
                                  subst c33
                                  have H1 : (selvageref13_Known.l0 kj24 l0 (rd t268 0) a2) = some r := by rw [if_neg (show ¬ (false = true) by decide)] at H; exact H
                                  clear H
                                  have H := H1
                                  clear H1
                                  have H' := Aside0.mk H
                                  clear H
                                  have hcz35_0 : wc.cell? ⟨gb273, 0, none⟩ = some (.int .i64 ((rd_T40 l0 (rd t268 0)).f0)) := (blk_cell BK273.out 0).trans rfl
                                  have hcz35_1 : wc.cell? ⟨gb273, 1, none⟩ = some (.int .i64 ((rd_T40 l0 (rd t268 0)).f1)) := (blk_cell BK273.out 1).trans rfl
                                  have hcz35_2 : wc.cell? ⟨gb273, 2, none⟩ = some (.int .i64 ((rd_T40 l0 (rd t268 0)).f2)) := (blk_cell BK273.out 2).trans rfl
                                  have hcz35_3 : wc.cell? ⟨gb273, 3, none⟩ = some (.int .i64 ((rd_T40 l0 (rd t268 0)).f3)) := (blk_cell BK273.out 3).trans rfl
                                  have hcz35_4 : wc.cell? ⟨gb273, 4, none⟩ = some (.int .i64 ((rd_T40 l0 (rd t268 0)).f4)) := (blk_cell BK273.out 4).trans rfl
                                  have hcz35_5 : wc.cell? ⟨gb273, 5, none⟩ = some (.int .i64 ((rd_T40 l0 (rd t268 0)).f5)) := (blk_cell BK273.out 5).trans rfl
                                  have hcz35_6 : wc.cell? ⟨gb273, 6, none⟩ = some (.int .i64 ((rd_T40 l0 (rd t268 0)).f6)) := (blk_cell BK273.out 6).trans rfl
                                  have hcz35_7 : wc.cell? ⟨gb273, 7, none⟩ = some (.int .i64 ((rd_T40 l0 (rd t268 0)).f7)) := (blk_cell BK273.out 7).trans rfl
                                  have hfz35_0 := blk_frozen BK273.out 0
                                  have hfz35_1 := blk_frozen BK273.out 1
                                  have hfz35_2 := blk_frozen BK273.out 2
                                  have hfz35_3 := blk_frozen BK273.out 3
                                  have hfz35_4 := blk_frozen BK273.out 4
                                  have hfz35_5 := blk_frozen BK273.out 5
                                  have hfz35_6 := blk_frozen BK273.out 6
                                  have hfz35_7 := blk_frozen BK273.out 7
                                  go_wp2_with (first | ((with_reducible refine gate_callee (f := 51) rfl ?_); refine goesL_ (some 64) rfl rfl Try.func51 (by kernel_rfl) rfl #[.int .i64 ((rd_T40 l0 (rd t268 0)).f0)] rfl (by (try simp only [List.map_toArray, List.map_cons, List.map_nil]); first | done | rfl | (simp only [List.length_drop, List.length_take]; rfl)) ?_; (with_reducible refine (selvageref13_atomic.calls ((rd_T40 l0 (rd t268 0)).f0) false _ A32.out).mono ?_); rintro e w' ⟨rfl, ⟨nd, rfl⟩⟩; refine ⟨_, rfl, ?_⟩))
                                  go_roundg kj24
                                  case measure => have := HK1.out; have := HJ8.out; have := HJ18.out; have := HJ24.out; omega
                                  case rel => exact ⟨((rd t268 0)), (by first | rfl | (simp; done) | (simp [*]; done)), H', ⟨by have := HK1.out; have := HJ8.out; have := HJ18.out; have := HJ24.out; omega⟩, ⟨by repeat (first | (with_reducible first | exact HB.out | apply below_alloc | apply pw_below_drewN | apply below_drew1 | refine below_set ?_ GE273.out) | exact HB.out)⟩⟩
            · rw [if_neg c8] at H
              exact absurd H (by simp)
          · rw [if_neg c7] at H
            exact absurd H (by simp)
        · rw [if_neg c6] at H
          exact absurd H (by simp)
      · rw [if_neg c4] at H
        have c4b0 : decide (0 < x1_1) = false := decide_eq_false c4
        clear c4
        obtain rfl := Option.some.inj H
        go_wp2
        go_ret
        exact ⟨by first | rfl | (simp [errW_none, errW_some] <;> rfl) | (simp [*, errW_none, errW_some] <;> rfl), by repeat (first | (with_reducible first | exact HB.out | apply below_alloc | apply pw_below_drewN | apply below_drew1) | exact HB.out)⟩

end Go.Proofs.Ytdmbnlpcfgphpaa.Q
namespace Go.Proofs.Ytdmbnlpcfgphpaa.Q
open Go.RowKit Go.Proofs.YtdmbnlpcfgphpaaW.PrintWords Go.Proofs.YtdmbnlpcfgphpaaW.PrintLast Go.Proofs.YtdmbnlpcfgphpaaW.PrintMore
attribute [local go_sem] max2_int min2_int max_two min_two max_three min_three max_four min_four   -- for this text's walks alone
set_option linter.unusedVariables false
set_option linter.unusedSimpArgs false

/-! ### selvageref13_Spare: function 28 -/
def selvageref13_Spare.f (k : Nat) (l0 : List (S40)) (a1 : Int) : Option (Bool) := if 0 ≤ a1 then (if a1 < (l0.length : Int) then (if ((rd_T40 l0 a1).f0) = 6 then ((selvageref13_Known.f k l0 a1 ((rd_T40 l0 a1).f4)).bind fun t277 => (some (decide (t277 ≥ 0)))) else (some false)) else (none)) else (none)
theorem selvageref13_Spare.mono : ∀ a0 a1 k, LeO (selvageref13_Spare.f k a0 a1) (selvageref13_Spare.f (k + 1) a0 a1) := by
  intro a0 a1 k
  unfold selvageref13_Spare.f
  repeat' first
      | (with_reducible exact selvageref13_Known.mono _ _ _ _)
      | (with_reducible exact LeO.refl _)
      | (with_reducible exact LeO.none _)
      | (with_reducible refine LeO.ite ?_ ?_)
      | (with_reducible refine LeO.bind ?_ (fun _ => ?_))
      | exact selvageref13_Known.mono _ _ _ _
      | exact LeO.none _
      | refine LeO.ite ?_ ?_
      | refine LeO.bind ?_ (fun _ => ?_)
set_option maxHeartbeats 8000000 in
set_option maxRecDepth 100000 in
theorem selvageref13_Spare.calls (k : Nat) (A0 : Option Addr) (c0 : Nat) (l0 : List (S40)) (a1 : Int) (r : Bool) (w : World) (hr0 : Kd.C k40 w A0 l0.length l0) (hc0 : l0.length ≤ c0) (h : selvageref13_Spare.f k l0 a1 = some r) :
    Calls Try.prog 28 #[.slice A0 l0.length c0, .int .i64 a1] w fun e w' => e = .returned (.bool r) ∧ Below w.heap.size w w' := by
  have HR0 := Aside0.mk hr0
  have HC0 := Aside0.mk hc0
  clear hr0 hc0
  have HB := Aside0.mk (Below.refl w.heap.size w)
  have H : (if 0 ≤ a1 then (if a1 < (l0.length : Int) then (if ((rd_T40 l0 a1).f0) = 6 then ((selvageref13_Known.f k l0 a1 ((rd_T40 l0 a1).f4)).bind fun t277 => (some (decide (t277 ≥ 0)))) else (some false)) else (none)) else (none)) = some r := h
  clear h
  by_cases c3 : 0 ≤ a1
  · rw [if_pos c3] at H
    have c3b0 : decide (0 ≤ a1) = true := decide_eq_true c3
    clear c3
    by_cases c4 : a1 < (l0.length : Int)
    · rw [if_pos c4] at H
      have c4b0 : decide (a1 < (l0.length : Int)) = true := decide_eq_true c4
      clear c4
      by_cases c5 : ((rd_T40 l0 a1).f0) = 6
      · rw [if_pos c5] at H
        have c5b0 : (((rd_T40 l0 a1).f0) == 6) = true := beq_iff_eq.mpr c5
        have c5b1 : (((rd_T40 l0 a1).f0) != 6) = false := bne_eq_false_iff_eq.mpr c5
        clear c5
        replace H := Option.bind_eq_some_iff.mp H
        obtain ⟨t277, A60, H⟩ := H
        replace H : (some (decide (t277 ≥ 0))) = some r := H
        have A6 := Aside0.mk A60
        clear A60
        obtain rfl := Option.some.inj H
        have p275 : 0 ≤ (a1 : Int) := of_decide_eq_true (by first | (with_reducible assumption) | assumption)
        have q275 : a1 < (l0.length : Int) := of_decide_eq_true (by first | (with_reducible assumption) | assumption)
        obtain ⟨ad275, e275, hx275_0, hx275_1, hx275_2, hx275_3, hx275_4, hx275_5, hx275_6, hx275_7⟩ := at_T40 HR0.out a1 p275 q275
        cases e275
        replace p275 := eq_true p275
        replace q275 := eq_true q275
        have p276 : 0 ≤ (a1 : Int) := of_decide_eq_true (by first | (with_reducible assumption) | assumption)
        have q276 : a1 < (l0.length : Int) := of_decide_eq_true (by first | (with_reducible assumption) | assumption)
        obtain ⟨ad276, e276, hx276_0, hx276_1, hx276_2, hx276_3, hx276_4, hx276_5, hx276_6, hx276_7⟩ := at_T40 HR0.out a1 p276 q276
        obtain rfl : ad275 = ad276 := (by injection e276)
        replace p276 := eq_true p276
        replace q276 := eq_true q276
        go_enter Try.func28, Try.ntmps28
        go_wp2_with (first | (go_at_call 44; (with_reducible refine (selvageref13_Known.calls k _ _ l0 a1 ((rd_T40 l0 a1).f4) t277 _ ?side1 ?side2 A6.out).mono ?_); (case side1 => repeat (first | exact HR0.out | (with_reducible refine Kd.C_alloc ?_ _) | (with_reducible refine Kd.C_drewN ?_ _) | (with_reducible refine Kd.C_drew ?_))); (case side2 => exact HC0.out); rintro e w7 ⟨rfl, hb⟩; have n0_ := Aside0.mk (below_step (by repeat (first | (with_reducible first | exact HB.out | apply below_alloc | apply pw_below_drewN | apply below_drew1) | exact HB.out)) hb); clear HB; have HB := n0_; clear n0_; (try clear hb); (try clear hb2); (try clear hk); (try clear hi)))
        go_ret
        exact ⟨by first | rfl | (simp [errW_none, errW_some] <;> rfl) | (simp [*, errW_none, errW_some] <;> rfl), by repeat (first | (with_reducible first | exact HB.out | apply below_alloc | apply pw_below_drewN | apply below_drew1) | exact HB.out)⟩
      · rw [if_neg c5] at H
        have c5b0 : (((rd_T40 l0 a1).f0) == 6) = false := beq_eq_false_iff_ne.mpr c5
        have c5b1 : (((rd_T40 l0 a1).f0) != 6) = true := bne_iff_ne.mpr c5
        obtain rfl := Option.some.inj H
        have p275 : 0 ≤ (a1 : Int) := of_decide_eq_true (by first | (with_reducible assumption) | assumption)
        have q275 : a1 < (l0.length : Int) := of_decide_eq_true (by first | (with_reducible assumption) | assumption)
        obtain ⟨ad275, e275, hx275_0, hx275_1, hx275_2, hx275_3, hx275_4, hx275_5, hx275_6, hx275_7⟩ := at_T40 HR0.out a1 p275 q275
        cases e275
        replace p275 := eq_true p275
        replace q275 := eq_true q275
        go_enter Try.func28, Try.ntmps28
        go_wp2
        go_ret
        exact ⟨by first | rfl | (simp [errW_none, errW_some] <;> rfl) | (simp [*, errW_none, errW_some] <;> rfl), by repeat (first | (with_reducible first | exact HB.out | apply below_alloc | apply pw_below_drewN | apply below_drew1) | exact HB.out)⟩
    · rw [if_neg c4] at H
      exact absurd H (by simp)
  · rw [if_neg c3] at H
    exact absurd H (by simp)

end Go.Proofs.Ytdmbnlpcfgphpaa.Q
