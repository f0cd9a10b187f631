-- Printed by qprint.py (a program of this session, round the print): not a text of print.sh. Lean checks it.
import Derived.Test.YtdmbnlpcfgphpaaQx0
import Derived.Test.YtdmbnlpcfgphpaaQx7
import Derived.Test.YtdmbnlpcfgphpaaQx14
import Derived.Test.YtdmbnlpcfgphpaaQx15
import Derived.Test.YtdmbnlpcfgphpaaQx28
import Derived.Test.YtdmbnlpcfgphpaaQx29
import Derived.Test.YtdmbnlpcfgphpaaQx30
namespace Go.Proofs.Ytdmbnlpcfgphpaa.Q
open Go.RowKit Go.Proofs.YtdmbnlpcfgphpaaW.PrintWords Go.Proofs.YtdmbnlpcfgphpaaW.PrintLast Go.Proofs.YtdmbnlpcfgphpaaW.PrintMore
attribute [local go_sem] max2_int min2_int max_two min_two max_three min_three max_four min_four   -- for this text's walks alone
set_option linter.unusedVariables false
set_option linter.unusedSimpArgs false

/-! ### selvagelaw10_TreeEnds: function 6 -/
mutual
def selvagelaw10_TreeEnds.j0 : Nat → List (S40) → List (S80) → List Int → Bool → Option (Bool)
  | 0, _, _, _, _ => none
  | k + 1, x0, x1, x2, x24 => if x24 = true then (some true) else ((tree_Run.f x0 x1 x2).bind fun bt255 => ((tree_Right.f x0 x1).bind fun t260 => (if t260 = true then ((act_Asked.f k bt255.1).bind fun t261 => (if bt255.2 < 1 then (selvagelaw10_TreeEnds.j1 k x1 x2 t261 true bt255.1 bt255.2) else (if bt255.2 > 4 then (selvagelaw10_TreeEnds.j1 k x1 x2 t261 true bt255.1 bt255.2) else (if (bt255.1.length : Int) > (x0.length : Int) then (selvagelaw10_TreeEnds.j1 k x1 x2 t261 true bt255.1 bt255.2) else (if (t261.length : Int) > (x2.length : Int) then (selvagelaw10_TreeEnds.j1 k x1 x2 t261 true bt255.1 bt255.2) else (if 0 ≤ (t261.length : Int) then (if (t261.length : Int) ≤ (x2.length : Int) then ((selvageref08_SameNums.f k t261 (x2.take ((t261.length : Int) : Int).toNat)).bind fun t265 => (selvagelaw10_TreeEnds.j1 k x1 x2 t261 (!t265) bt255.1 bt255.2)) else (none)) else (none))))))) else (if bt255.2 = 0 then (some ((bt255.1.length : Int) == 0)) else (some false)))))
def selvagelaw10_TreeEnds.j1 : Nat → List (S80) → List Int → List Int → Bool → List (S47) → Int → Option (Bool)
  | 0, _, _, _, _, _, _ => none
  | k + 1, x1, x2, x8, x76, x260000, x260001 => if x76 = true then (some false) else (selvagelaw10_TreeEnds.l0 k x1 x2 x8 0 x260000 x260001)
def selvagelaw10_TreeEnds.l0 : Nat → List (S80) → List Int → List Int → Int → List (S47) → Int → Option (Bool)
  | 0, _, _, _, _, _, _ => none
  | k + 1, x1, x2, x8, x9, x260000, x260001 => if x9 < (x260000.length : Int) then (if 0 ≤ x9 then ((act_Right.f ((rd_T47 x260000 x9).f0) ((rd_T47 x260000 x9).f1) ((rd_T47 x260000 x9).f2) ((rd_T47 x260000 x9).f3) x1).bind fun t267 => (if t267 = true then (selvagelaw10_TreeEnds.l0 k x1 x2 x8 (wrap64 (x9 + 1)) x260000 x260001) else (some false))) else (none)) else (if x260001 = 4 then (some ((x8.length : Int) == (x2.length : Int))) else (some true))
end
def selvagelaw10_TreeEnds.f (k : Nat) (l0 : List (S40)) (l1 : List (S80)) (l2 : List Int) : Option (Bool) := (selvagelaw10_awake.f k).bind fun t254 => (if t254 = true then (if (l0.length : Int) > 410 then (selvagelaw10_TreeEnds.j0 k l0 l1 l2 true) else (if (l1.length : Int) > 16 then (selvagelaw10_TreeEnds.j0 k l0 l1 l2 true) else (selvagelaw10_TreeEnds.j0 k l0 l1 l2 (decide ((l2.length : Int) > 400))))) else (some false))
theorem selvagelaw10_TreeEnds.mono_l : ∀ k, (∀ y0 y1 y2 y3, LeO (selvagelaw10_TreeEnds.j0 k y0 y1 y2 y3) (selvagelaw10_TreeEnds.j0 (k + 1) y0 y1 y2 y3)) ∧ (∀ y0 y1 y2 y3 y4 y5, LeO (selvagelaw10_TreeEnds.j1 k y0 y1 y2 y3 y4 y5) (selvagelaw10_TreeEnds.j1 (k + 1) y0 y1 y2 y3 y4 y5)) ∧ (∀ y0 y1 y2 y3 y4 y5, LeO (selvagelaw10_TreeEnds.l0 k y0 y1 y2 y3 y4 y5) (selvagelaw10_TreeEnds.l0 (k + 1) y0 y1 y2 y3 y4 y5))
  | 0 => ⟨fun _ _ _ _ r h => by simp [selvagelaw10_TreeEnds.j0] at h, fun _ _ _ _ _ _ r h => by simp [selvagelaw10_TreeEnds.j1] at h, fun _ _ _ _ _ _ r h => by simp [selvagelaw10_TreeEnds.l0] at h⟩
  | k + 1 => by
    obtain ⟨ih0, ih1, ih2⟩ := selvagelaw10_TreeEnds.mono_l k
    refine ⟨?_, ?_, ?_⟩
    · intro y0 y1 y2 y3
      unfold selvagelaw10_TreeEnds.j0
      repeat' first
      | (with_reducible exact ih0 _ _ _ _)
      | (with_reducible exact ih1 _ _ _ _ _ _)
      | (with_reducible exact ih2 _ _ _ _ _ _)
      | (with_reducible exact act_Asked.mono _ _)
      | (with_reducible exact selvagelaw10_awake.mono _)
      | (with_reducible exact selvageref08_SameNums.mono _ _ _)
      | (with_reducible exact LeO.refl _)
      | (with_reducible exact LeO.none _)
      | (with_reducible refine LeO.ite ?_ ?_)
      | (with_reducible refine LeO.bind ?_ (fun _ => ?_))
      | exact ih0 _ _ _ _
      | exact ih1 _ _ _ _ _ _
      | exact ih2 _ _ _ _ _ _
      | exact act_Asked.mono _ _
      | exact selvagelaw10_awake.mono _
      | exact selvageref08_SameNums.mono _ _ _
      | exact LeO.none _
      | refine LeO.ite ?_ ?_
      | refine LeO.bind ?_ (fun _ => ?_)
    · intro y0 y1 y2 y3 y4 y5
      unfold selvagelaw10_TreeEnds.j1
      repeat' first
      | (with_reducible exact ih0 _ _ _ _)
      | (with_reducible exact ih1 _ _ _ _ _ _)
      | (with_reducible exact ih2 _ _ _ _ _ _)
      | (with_reducible exact act_Asked.mono _ _)
      | (with_reducible exact selvagelaw10_awake.mono _)
      | (with_reducible exact selvageref08_SameNums.mono _ _ _)
      | (with_reducible exact LeO.refl _)
      | (with_reducible exact LeO.none _)
      | (with_reducible refine LeO.ite ?_ ?_)
      | (with_reducible refine LeO.bind ?_ (fun _ => ?_))
      | exact ih0 _ _ _ _
      | exact ih1 _ _ _ _ _ _
      | exact ih2 _ _ _ _ _ _
      | exact act_Asked.mono _ _
      | exact selvagelaw10_awake.mono _
      | exact selvageref08_SameNums.mono _ _ _
      | exact LeO.none _
      | refine LeO.ite ?_ ?_
      | refine LeO.bind ?_ (fun _ => ?_)
    · intro y0 y1 y2 y3 y4 y5
      unfold selvagelaw10_TreeEnds.l0
      repeat' first
      | (with_reducible exact ih0 _ _ _ _)
      | (with_reducible exact ih1 _ _ _ _ _ _)
      | (with_reducible exact ih2 _ _ _ _ _ _)
      | (with_reducible exact act_Asked.mono _ _)
      | (with_reducible exact selvagelaw10_awake.mono _)
      | (with_reducible exact selvageref08_SameNums.mono _ _ _)
      | (with_reducible exact LeO.refl _)
      | (with_reducible exact LeO.none _)
      | (with_reducible refine LeO.ite ?_ ?_)
      | (with_reducible refine LeO.bind ?_ (fun _ => ?_))
      | exact ih0 _ _ _ _
      | exact ih1 _ _ _ _ _ _
      | exact ih2 _ _ _ _ _ _
      | exact act_Asked.mono _ _
      | exact selvagelaw10_awake.mono _
      | exact selvageref08_SameNums.mono _ _ _
      | exact LeO.none _
      | refine LeO.ite ?_ ?_
      | refine LeO.bind ?_ (fun _ => ?_)
theorem selvagelaw10_TreeEnds.mono : ∀ a0 a1 a2 k, LeO (selvagelaw10_TreeEnds.f k a0 a1 a2) (selvagelaw10_TreeEnds.f (k + 1) a0 a1 a2) := by
  intro a0 a1 a2 k
  obtain ⟨ih0, ih1, ih2⟩ := selvagelaw10_TreeEnds.mono_l k
  unfold selvagelaw10_TreeEnds.f
  repeat' first
      | (with_reducible exact ih0 _ _ _ _)
      | (with_reducible exact ih1 _ _ _ _ _ _)
      | (with_reducible exact ih2 _ _ _ _ _ _)
      | (with_reducible exact act_Asked.mono _ _)
      | (with_reducible exact selvagelaw10_awake.mono _)
      | (with_reducible exact selvageref08_SameNums.mono _ _ _)
      | (with_reducible exact LeO.refl _)
      | (with_reducible exact LeO.none _)
      | (with_reducible refine LeO.ite ?_ ?_)
      | (with_reducible refine LeO.bind ?_ (fun _ => ?_))
      | exact ih0 _ _ _ _
      | exact ih1 _ _ _ _ _ _
      | exact ih2 _ _ _ _ _ _
      | exact act_Asked.mono _ _
      | exact selvagelaw10_awake.mono _
      | exact selvageref08_SameNums.mono _ _ _
      | exact LeO.none _
      | refine LeO.ite ?_ ?_
      | refine LeO.bind ?_ (fun _ => ?_)
set_option maxHeartbeats 8000000 in
set_option maxRecDepth 100000 in
theorem selvagelaw10_TreeEnds.calls (k : Nat) (A0 : Option Addr) (c0 : Nat) (l0 : List (S40)) (A1 : Option Addr) (c1 : Nat) (l1 : List (S80)) (A2 : Option Addr) (c2 : Nat) (l2 : List Int) (r : Bool) (w : World) (hr0 : Kd.C k40 w A0 l0.length l0) (hc0 : l0.length ≤ c0) (hr1 : Kd.C k80 w A1 l1.length l1) (hc1 : l1.length ≤ c1) (hr2 : Kd.C (Kd.int .i64) w A2 l2.length l2) (hc2 : l2.length ≤ c2) (h : selvagelaw10_TreeEnds.f k l0 l1 l2 = some r) :
    Calls Try.prog 6 #[.slice A0 l0.length c0, .slice A1 l1.length c1, .slice A2 l2.length c2] w fun e w' => e = .returned (.bool r) ∧ Below w.heap.size w w' := by
  have hu31 := Try.underlying31
  have hu47 := Try.underlying47
  have HR0 := Aside0.mk hr0
  have HC0 := Aside0.mk hc0
  clear hr0 hc0
  have HR1 := Aside0.mk hr1
  have HC1 := Aside0.mk hc1
  clear hr1 hc1
  have HR2 := Aside0.mk hr2
  have HC2 := Aside0.mk hc2
  clear hr2 hc2
  have HB := Aside0.mk (Below.refl w.heap.size w)
  have H : ((selvagelaw10_awake.f k).bind fun t254 => (if t254 = true then (if (l0.length : Int) > 410 then (selvagelaw10_TreeEnds.j0 k l0 l1 l2 true) else (if (l1.length : Int) > 16 then (selvagelaw10_TreeEnds.j0 k l0 l1 l2 true) else (selvagelaw10_TreeEnds.j0 k l0 l1 l2 (decide ((l2.length : Int) > 400))))) else (some false))) = some r := h
  clear h
  replace H := Option.bind_eq_some_iff.mp H
  obtain ⟨t254, A40, H⟩ := H
  replace H : (if t254 = true then (if (l0.length : Int) > 410 then (selvagelaw10_TreeEnds.j0 k l0 l1 l2 true) else (if (l1.length : Int) > 16 then (selvagelaw10_TreeEnds.j0 k l0 l1 l2 true) else (selvagelaw10_TreeEnds.j0 k l0 l1 l2 (decide ((l2.length : Int) > 400))))) else (some false)) = some r := H
  have A4 := Aside0.mk A40
  clear A40
  by_cases c5 : t254 = true
  · subst c5
    have H1 : (if (l0.length : Int) > 410 then (selvagelaw10_TreeEnds.j0 k l0 l1 l2 true) else (if (l1.length : Int) > 16 then (selvagelaw10_TreeEnds.j0 k l0 l1 l2 true) else (selvagelaw10_TreeEnds.j0 k l0 l1 l2 (decide ((l2.length : Int) > 400))))) = some r := by rw [if_pos rfl] at H; exact H
    clear H
    have H := H1
    clear H1
    have HC6 := Aside0.mk H
    clear H
    go_enter Try.func6, Try.ntmps6
    go_upto_region 3 with (first | ((with_reducible refine gate_callee (f := 11) rfl ?_); refine goesL_ (some 10) rfl rfl Try.func11 (by kernel_rfl) rfl #[] rfl (by (try simp only [List.map_toArray, List.map_cons, List.map_nil]); first | done | rfl | (simp only [List.length_drop, List.length_take]; rfl)) ?_; (with_reducible refine (selvagelaw10_awake.calls k  true _ A4.out).mono ?_); rintro e w7 ⟨rfl, hb⟩; refine ⟨_, rfl, ?_⟩; have n0_ := Aside0.mk (below_step (by repeat (first | (with_reducible first | exact HB.out | apply below_alloc | apply pw_below_drewN | apply below_drew1) | exact HB.out)) hb); clear HB; have HB := n0_; clear n0_; (try clear hb); (try clear hb2); (try clear hk); (try clear hi)))
    (try simp only [Act.put, List.setIfInBounds_toArray, List.set_cons_zero, List.set_cons_succ])
    go_cut [24] (fun v24 wc => ∃ (kq : Nat) (x24_5 : Bool), v24 = .bool x24_5 ∧ Aside0 (selvagelaw10_TreeEnds.j0 kq l0 l1 l2 x24_5 = some r) ∧ Aside0 (kq ≤ k) ∧ Aside0 (Below w.heap.size w wc))
    case first =>
      have H := HC6.out
      clear HC6
      by_cases c8 : (l0.length : Int) > 410
      · rw [if_pos c8] at H
        have c8b0 : decide (410 < (l0.length : Int)) = true := decide_eq_true c8
        have c8b1 : decide (410 < l0.length) = true := decide_eq_true (by omega)
        clear c8
        (first | rw [c8b0] | (simp only [i64_w, i32_w]; rw [c8b0]) | skip)
        have H' := Aside0.mk H
        clear H
        go_wp2
        go_meet
        case rel => exact ⟨_, (true), (by first | rfl | (simp; done) | (simp [*]; done)), H', ⟨by first | omega | exact Nat.le_refl _⟩, ⟨by repeat (first | (with_reducible first | exact HB.out | apply below_alloc | apply pw_below_drewN | apply below_drew1) | exact HB.out)⟩⟩
      · rw [if_neg c8] at H
        have c8b0 : decide (410 < (l0.length : Int)) = false := decide_eq_false c8
        have c8b1 : decide (410 < l0.length) = false := decide_eq_false (by omega)
        clear c8
        (first | rw [c8b0] | (simp only [i64_w, i32_w]; rw [c8b0]) | skip)
        by_cases c9 : (l1.length : Int) > 16
        · rw [if_pos c9] at H
          have c9b0 : decide (16 < (l1.length : Int)) = true := decide_eq_true c9
          have c9b1 : decide (16 < l1.length) = true := decide_eq_true (by omega)
          clear c9
          have H' := Aside0.mk H
          clear H
          go_wp2
          go_meet
          case rel => exact ⟨_, (true), (by first | rfl | (simp; done) | (simp [*]; done)), H', ⟨by first | omega | exact Nat.le_refl _⟩, ⟨by repeat (first | (with_reducible first | exact HB.out | apply below_alloc | apply pw_below_drewN | apply below_drew1) | exact HB.out)⟩⟩
        · rw [if_neg c9] at H
          have c9b0 : decide (16 < (l1.length : Int)) = false := decide_eq_false c9
          have c9b1 : decide (16 < l1.length) = false := decide_eq_false (by omega)
          clear c9
          have H' := Aside0.mk H
          clear H
          go_wp2
          go_meet
          case rel => exact ⟨_, (decide ((l2.length : Int) > 400)), (by first | rfl | (simp; done) | (simp [*]; done)), H', ⟨by first | omega | exact Nat.le_refl _⟩, ⟨by repeat (first | (with_reducible first | exact HB.out | apply below_alloc | apply pw_below_drewN | apply below_drew1) | exact HB.out)⟩⟩
    case rest =>
      clear HC6
      try clear c1
      try clear c2
      try clear p2
      try clear c5
      try clear c6
      try clear c8
      try clear c8b0
      try clear c8b1
      try clear c9
      try clear c9b0
      try clear c9b1
      obtain ⟨kq, x24_5, rfl, HA, HJ5, HB⟩ := hcut
      cases kq with
      | zero => exact absurd HA.out (by simp [selvagelaw10_TreeEnds.j0])
      | succ kj5 =>
        have H := HA.out
        clear HA
        simp only [selvagelaw10_TreeEnds.j0] at H
        by_cases c10 : x24_5 = true
        · subst c10
          have H1 : (some true) = some r := by rw [if_pos rfl] at H; exact H
          clear H
          have H := H1
          clear H1
          obtain rfl := Option.some.inj H
          go_wp2
          go_ret
          exact ⟨by first | rfl | (simp [errW_none, errW_some] <;> rfl) | (simp [*, errW_none, errW_some] <;> rfl), by repeat (first | (with_reducible first | exact HB.out | apply below_alloc | apply pw_below_drewN | apply below_drew1) | exact HB.out)⟩
        · replace c10 := Bool.eq_false_iff.mpr c10
          subst c10
          have H1 : ((tree_Run.f l0 l1 l2).bind fun bt255 => ((tree_Right.f l0 l1).bind fun t260 => (if t260 = true then ((act_Asked.f kj5 bt255.1).bind fun t261 => (if bt255.2 < 1 then (selvagelaw10_TreeEnds.j1 kj5 l1 l2 t261 true bt255.1 bt255.2) else (if bt255.2 > 4 then (selvagelaw10_TreeEnds.j1 kj5 l1 l2 t261 true bt255.1 bt255.2) else (if (bt255.1.length : Int) > (l0.length : Int) then (selvagelaw10_TreeEnds.j1 kj5 l1 l2 t261 true bt255.1 bt255.2) else (if (t261.length : Int) > (l2.length : Int) then (selvagelaw10_TreeEnds.j1 kj5 l1 l2 t261 true bt255.1 bt255.2) else (if 0 ≤ (t261.length : Int) then (if (t261.length : Int) ≤ (l2.length : Int) then ((selvageref08_SameNums.f kj5 t261 (l2.take ((t261.length : Int) : Int).toNat)).bind fun t265 => (selvagelaw10_TreeEnds.j1 kj5 l1 l2 t261 (!t265) bt255.1 bt255.2)) else (none)) else (none))))))) else (if bt255.2 = 0 then (some ((bt255.1.length : Int) == 0)) else (some false))))) = some r := by rw [if_neg (show ¬ (false = true) by decide)] at H; exact H
          clear H
          have H := H1
          clear H1
          replace H := Option.bind_eq_some_iff.mp H
          obtain ⟨⟨t255, t258⟩, A110, H⟩ := H
          replace H : ((tree_Right.f l0 l1).bind fun t260 => (if t260 = true then ((act_Asked.f kj5 t255).bind fun t261 => (if t258 < 1 then (selvagelaw10_TreeEnds.j1 kj5 l1 l2 t261 true t255 t258) else (if t258 > 4 then (selvagelaw10_TreeEnds.j1 kj5 l1 l2 t261 true t255 t258) else (if (t255.length : Int) > (l0.length : Int) then (selvagelaw10_TreeEnds.j1 kj5 l1 l2 t261 true t255 t258) else (if (t261.length : Int) > (l2.length : Int) then (selvagelaw10_TreeEnds.j1 kj5 l1 l2 t261 true t255 t258) else (if 0 ≤ (t261.length : Int) then (if (t261.length : Int) ≤ (l2.length : Int) then ((selvageref08_SameNums.f kj5 t261 (l2.take ((t261.length : Int) : Int).toNat)).bind fun t265 => (selvagelaw10_TreeEnds.j1 kj5 l1 l2 t261 (!t265) t255 t258)) else (none)) else (none))))))) else (if t258 = 0 then (some ((t255.length : Int) == 0)) else (some false)))) = some r := H
          have A11 := Aside0.mk A110
          clear A110
          replace H := Option.bind_eq_some_iff.mp H
          obtain ⟨t260, A120, H⟩ := H
          replace H : (if t260 = true then ((act_Asked.f kj5 t255).bind fun t261 => (if t258 < 1 then (selvagelaw10_TreeEnds.j1 kj5 l1 l2 t261 true t255 t258) else (if t258 > 4 then (selvagelaw10_TreeEnds.j1 kj5 l1 l2 t261 true t255 t258) else (if (t255.length : Int) > (l0.length : Int) then (selvagelaw10_TreeEnds.j1 kj5 l1 l2 t261 true t255 t258) else (if (t261.length : Int) > (l2.length : Int) then (selvagelaw10_TreeEnds.j1 kj5 l1 l2 t261 true t255 t258) else (if 0 ≤ (t261.length : Int) then (if (t261.length : Int) ≤ (l2.length : Int) then ((selvageref08_SameNums.f kj5 t261 (l2.take ((t261.length : Int) : Int).toNat)).bind fun t265 => (selvagelaw10_TreeEnds.j1 kj5 l1 l2 t261 (!t265) t255 t258)) else (none)) else (none))))))) else (if t258 = 0 then (some ((t255.length : Int) == 0)) else (some false))) = some r := H
          have A12 := Aside0.mk A120
          clear A120
          by_cases c13 : t260 = true
          · subst c13
            have H1 : ((act_Asked.f kj5 t255).bind fun t261 => (if t258 < 1 then (selvagelaw10_TreeEnds.j1 kj5 l1 l2 t261 true t255 t258) else (if t258 > 4 then (selvagelaw10_TreeEnds.j1 kj5 l1 l2 t261 true t255 t258) else (if (t255.length : Int) > (l0.length : Int) then (selvagelaw10_TreeEnds.j1 kj5 l1 l2 t261 true t255 t258) else (if (t261.length : Int) > (l2.length : Int) then (selvagelaw10_TreeEnds.j1 kj5 l1 l2 t261 true t255 t258) else (if 0 ≤ (t261.length : Int) then (if (t261.length : Int) ≤ (l2.length : Int) then ((selvageref08_SameNums.f kj5 t261 (l2.take ((t261.length : Int) : Int).toNat)).bind fun t265 => (selvagelaw10_TreeEnds.j1 kj5 l1 l2 t261 (!t265) t255 t258)) else (none)) else (none))))))) = some r := by rw [if_pos rfl] at H; exact H
            clear H
            have H := H1
            clear H1
            replace H := Option.bind_eq_some_iff.mp H
            obtain ⟨t261, A140, H⟩ := H
            replace H : (if t258 < 1 then (selvagelaw10_TreeEnds.j1 kj5 l1 l2 t261 true t255 t258) else (if t258 > 4 then (selvagelaw10_TreeEnds.j1 kj5 l1 l2 t261 true t255 t258) else (if (t255.length : Int) > (l0.length : Int) then (selvagelaw10_TreeEnds.j1 kj5 l1 l2 t261 true t255 t258) else (if (t261.length : Int) > (l2.length : Int) then (selvagelaw10_TreeEnds.j1 kj5 l1 l2 t261 true t255 t258) else (if 0 ≤ (t261.length : Int) then (if (t261.length : Int) ≤ (l2.length : Int) then ((selvageref08_SameNums.f kj5 t261 (l2.take ((t261.length : Int) : Int).toNat)).bind fun t265 => (selvagelaw10_TreeEnds.j1 kj5 l1 l2 t261 (!t265) t255 t258)) else (none)) else (none)))))) = some r := H
            have A14 := Aside0.mk A140
            clear A140
            have HC15 := Aside0.mk H
            clear H
            go_upto_region 9 with (first | ((with_reducible refine gate_callee (f := 16) rfl ?_); refine goesL_ (some 28) rfl rfl Try.func16 (by kernel_rfl) rfl #[.slice A0 l0.length c0, .slice A1 l1.length c1, .slice A2 l2.length c2] rfl (by (try simp only [List.map_toArray, List.map_cons, List.map_nil]); first | done | rfl | (simp only [List.length_drop, List.length_take]; rfl)) ?_; (with_reducible refine (tree_Run.calls _ _ l0 _ _ l1 _ _ l2 t255 t258 _ ?side1 ?side2 ?side3 ?side4 ?side5 ?side6 A11.out).mono ?_); (case side1 => repeat (first | exact (Kd.C_below HR0.out HB.out) | (with_reducible refine Kd.C_alloc ?_ _) | (with_reducible refine Kd.C_drewN ?_ _) | (with_reducible refine Kd.C_drew ?_))); (case side2 => exact HC0.out); (case side3 => repeat (first | exact (Kd.C_below HR1.out HB.out) | (with_reducible refine Kd.C_alloc ?_ _) | (with_reducible refine Kd.C_drewN ?_ _) | (with_reducible refine Kd.C_drew ?_))); (case side4 => exact HC1.out); (case side5 => repeat (first | exact (Kd.C_below HR2.out HB.out) | (with_reducible refine Kd.C_alloc ?_ _) | (with_reducible refine Kd.C_drewN ?_ _) | (with_reducible refine Kd.C_drew ?_))); (case side6 => exact HC2.out); rintro e w16 ⟨v256, rfl, ho0, hb⟩; refine ⟨_, rfl, ?_⟩; have n0_ := Aside0.mk (Kd.R_lower ho0 (below_size (by repeat (first | (with_reducible first | exact HB.out | apply below_alloc | apply pw_below_drewN | apply below_drew1) | exact HB.out)))); have n1_ := Aside0.mk (below_step (by repeat (first | (with_reducible first | exact HB.out | apply below_alloc | apply pw_below_drewN | apply below_drew1) | exact HB.out)) hb); clear HB; have HO257 := n0_; have HB := n1_; clear n0_ n1_; (try clear hb); (try clear hb2); (try clear hk); (try clear hi); (try clear ho0)) | ((with_reducible refine gate_dst (N := 7) rfl ?_); (try (refine gate_guard (by rfl) ?_; dsimp only)); refine box_event ?hg (N := 7) ?hd (cs := #[.slice none 0 0, .int .i64 0]) (t := 31) ?hr ?_; (case hd => rfl); (case hg => rfl); (case hr => first | (go_simp; done) | (go_simp; rfl)); intro gb259 hg w17 hbox hb; have n0_ := Aside0.mk (Kd.R_below (by (with_reducible repeat (first | apply Kd.R_alloc | apply Kd.R_drewN | apply Kd.R_drew)); exact HO257.out) hb); have n1_ := Aside0.mk (below_step (by repeat (first | (with_reducible first | exact HB.out | apply below_alloc | apply pw_below_drewN | apply below_drew1) | exact HB.out)) hb); have n2_ := Aside0.mk (hbox); have n3_ := Aside0.mk ((by rw [hg]; exact (below_size (by repeat (first | (with_reducible first | exact HB.out | apply below_alloc | apply pw_below_drewN | apply below_drew1) | exact HB.out))) : w.heap.size ≤ gb259)); have n4_ := Aside0.mk ((by rw [hg]; exact (below_size (by repeat (first | (with_reducible first | exact HB.out | apply below_alloc | apply pw_below_drewN | apply below_drew1) | exact HB.out))) : w.heap.size ≤ gb259)); clear HO257; clear HB; have HO257 := n0_; have HB := n1_; have BK259 := n2_; have GW259 := n3_; have GE259 := n4_; clear n0_ n1_ n2_ n3_ n4_; clear hb hbox hg; obtain ⟨Ao18, co18, eo18⟩ := Kd.R_slice HO257.out; subst eo18; have hcz19_0 : w17.cell? ⟨gb259, 0, none⟩ = some (.slice none 0 0) := (blk_cell BK259.out 0).trans rfl; have hcz19_1 : w17.cell? ⟨gb259, 1, none⟩ = some (.int .i64 0) := (blk_cell BK259.out 1).trans rfl; have hfz19_0 := blk_frozen BK259.out 0; have hfz19_1 := blk_frozen BK259.out 1) | ((with_reducible refine gate_callee (f := 13) rfl ?_); refine goesL_ (some 31) rfl rfl Try.func13 (by kernel_rfl) rfl #[.slice A0 l0.length c0, .slice A1 l1.length c1] rfl (by (try simp only [List.map_toArray, List.map_cons, List.map_nil]); first | done | rfl | (simp only [List.length_drop, List.length_take]; rfl)) ?_; (with_reducible refine (tree_Right.calls _ _ l0 _ _ l1 true _ ?side1 ?side2 ?side3 ?side4 A12.out).mono ?_); (case side1 => exact Kd.C_below HR0.out (by repeat (first | (with_reducible first | exact HB.out | apply below_alloc | apply pw_below_drewN | apply below_drew1 | refine below_set ?_ GE259.out) | exact HB.out))); (case side2 => exact HC0.out); (case side3 => exact Kd.C_below HR1.out (by repeat (first | (with_reducible first | exact HB.out | apply below_alloc | apply pw_below_drewN | apply below_drew1 | refine below_set ?_ GE259.out) | exact HB.out))); (case side4 => exact HC1.out); rintro e w20 ⟨rfl, hb⟩; refine ⟨_, rfl, ?_⟩; have n0_ := Aside0.mk (Kd.R_below (by (with_reducible repeat (first | apply Kd.R_alloc | apply Kd.R_drewN | apply Kd.R_drew)); exact (Kd.R_mono (Kd.R_far (p := ⟨gb259, 1, none⟩) (Kd.R_far (p := ⟨gb259, 0, none⟩) (Kd.R_types HO257.out BK259.out (by decide)) (fun _ hk => hk.2) (.slice Ao18 t255.length co18)) (fun _ hk => hk.2) (.int .i64 t258)) (fun _ h_ => h_.1))) hb); have n1_ := Aside0.mk (blk_below (g := gb259) (o := .cells #[.slice Ao18 t255.length co18, .int .i64 t258] 31 (0, 0)) (by (with_reducible repeat (first | refine blk_drewN ?_ _ | refine blk_drew ?_ | refine blk_alloc ?_ _)); refine blk_put (cs := #[.slice Ao18 t255.length co18, .int .i64 0]) ?_ 1 _ rfl; (with_reducible repeat (first | refine blk_drewN ?_ _ | refine blk_drew ?_ | refine blk_alloc ?_ _)); refine blk_put (cs := #[.slice none 0 0, .int .i64 0]) ?_ 0 _ rfl; (with_reducible repeat (first | refine blk_drewN ?_ _ | refine blk_drew ?_ | refine blk_alloc ?_ _)); exact BK259.out) hb); have n2_ := Aside0.mk (below_step (by repeat (first | (with_reducible first | exact HB.out | apply below_alloc | apply pw_below_drewN | apply below_drew1 | refine below_set ?_ GE259.out) | exact HB.out)) hb); clear HO257; clear BK259; clear HB; have HO257 := n0_; have BK259 := n1_; have HB := n2_; clear n0_ n1_ n2_; (try clear hb); (try clear hb2); (try clear hk); (try clear hi); have hcz21_0 : w20.cell? ⟨gb259, 0, none⟩ = some (.slice Ao18 t255.length co18) := (blk_cell BK259.out 0).trans rfl; have hcz21_1 : w20.cell? ⟨gb259, 1, none⟩ = some (.int .i64 t258) := (blk_cell BK259.out 1).trans rfl; have hfz21_0 := blk_frozen BK259.out 0; have hfz21_1 := blk_frozen BK259.out 1) | ((with_reducible refine gate_callee (f := 21) rfl ?_); refine goesL_ (some 44) rfl rfl Try.func21 (by kernel_rfl) rfl #[.slice Ao18 t255.length co18] rfl (by (try simp only [List.map_toArray, List.map_cons, List.map_nil]); first | done | rfl | (simp only [List.length_drop, List.length_take]; rfl)) ?_; (with_reducible refine (act_Asked.calls kj5 _ _ t255 t261 _ ?side1 ?side2 A14.out).mono ?_); (case side1 => repeat (first | exact (Kd.R_reads' HO257.out).2.2 | (with_reducible refine Kd.C_alloc ?_ _) | (with_reducible refine Kd.C_drewN ?_ _) | (with_reducible refine Kd.C_drew ?_))); (case side2 => exact (Kd.R_reads' HO257.out).2.1); rintro e w22 ⟨v262, rfl, ho0, hb⟩; refine ⟨_, rfl, ?_⟩; have n0_ := Aside0.mk (Kd.R_below (by (with_reducible repeat (first | apply Kd.R_alloc | apply Kd.R_drewN | apply Kd.R_drew)); exact HO257.out) hb); have n1_ := Aside0.mk (Kd.R_lower ho0 (below_size (by repeat (first | (with_reducible first | exact HB.out | apply below_alloc | apply pw_below_drewN | apply below_drew1 | refine below_set ?_ GE259.out) | exact HB.out)))); have n2_ := Aside0.mk (blk_below (g := gb259) (o := .cells #[.slice Ao18 t255.length co18, .int .i64 t258] 31 (0, 0)) (by (with_reducible repeat (first | refine blk_drewN ?_ _ | refine blk_drew ?_ | refine blk_alloc ?_ _)); exact BK259.out) hb); have n3_ := Aside0.mk (below_step (by repeat (first | (with_reducible first | exact HB.out | apply below_alloc | apply pw_below_drewN | apply below_drew1 | refine below_set ?_ GE259.out) | exact HB.out)) hb); clear HO257; clear BK259; clear HB; have HO257 := n0_; have HO263 := n1_; have BK259 := n2_; have HB := n3_; clear n0_ n1_ n2_ n3_; (try clear hb); (try clear hb2); (try clear hk); (try clear hi); (try clear ho0)))
            (try simp only [Act.put, List.setIfInBounds_toArray, List.set_cons_zero, List.set_cons_succ])
            go_cut [76] (fun v76 wc => ∃ (kq : Nat) (x76_14 : Bool), v76 = .bool x76_14 ∧ Aside0 (selvagelaw10_TreeEnds.j1 kq l1 l2 t261 x76_14 t255 t258 = some r) ∧ Aside0 (kq ≤ kj5) ∧ Aside0 (Kd.R (Kd.int .i64) 2 wc w.heap.size (fun _ => True) v262 t261) ∧ Aside0 (Kd.R k47 47 wc w.heap.size (fun _ => True) (.slice Ao18 t255.length co18) t255) ∧ Aside0 (wc.heap[gb259]? = some (.cells #[(.slice Ao18 t255.length co18), .int .i64 t258] 31 (0, 0))) ∧ Aside0 (Below w.heap.size w wc))
            case first =>
              have H := HC15.out
              clear HC15
              by_cases c23 : t258 < 1
              · rw [if_pos c23] at H
                have c23b0 : decide (t258 < 1) = true := decide_eq_true c23
                clear c23
                (first | rw [c23b0] | (simp only [i64_w, i32_w]; rw [c23b0]) | skip)
                have H' := Aside0.mk H
                clear H
                have hcz24_0 : w22.cell? ⟨gb259, 0, none⟩ = some (.slice Ao18 t255.length co18) := (blk_cell BK259.out 0).trans rfl
                have hcz24_1 : w22.cell? ⟨gb259, 1, none⟩ = some (.int .i64 t258) := (blk_cell BK259.out 1).trans rfl
                have hfz24_0 := blk_frozen BK259.out 0
                have hfz24_1 := blk_frozen BK259.out 1
                go_wp2
                go_meet
                case rel => exact ⟨_, (true), (by first | rfl | (simp; done) | (simp [*]; done)), H', ⟨by have := HJ5.out; first | omega | exact Nat.le_refl _⟩, ⟨by (with_reducible repeat (first | apply Kd.R_alloc | apply Kd.R_drewN | apply Kd.R_drew)); exact HO263.out⟩, ⟨by (with_reducible repeat (first | apply Kd.R_alloc | apply Kd.R_drewN | apply Kd.R_drew)); exact HO257.out⟩, ⟨by (with_reducible repeat (first | refine blk_drewN ?_ _ | refine blk_drew ?_ | refine blk_alloc ?_ _)); exact BK259.out⟩, ⟨by repeat (first | (with_reducible first | exact HB.out | apply below_alloc | apply pw_below_drewN | apply below_drew1 | refine below_set ?_ GE259.out) | exact HB.out)⟩⟩
              · rw [if_neg c23] at H
                have c23b0 : decide (t258 < 1) = false := decide_eq_false c23
                clear c23
                (first | rw [c23b0] | (simp only [i64_w, i32_w]; rw [c23b0]) | skip)
                by_cases c25 : t258 > 4
                · rw [if_pos c25] at H
                  have c25b0 : decide (4 < t258) = true := decide_eq_true c25
                  clear c25
                  have H' := Aside0.mk H
                  clear H
                  have hcz26_0 : w22.cell? ⟨gb259, 0, none⟩ = some (.slice Ao18 t255.length co18) := (blk_cell BK259.out 0).trans rfl
                  have hcz26_1 : w22.cell? ⟨gb259, 1, none⟩ = some (.int .i64 t258) := (blk_cell BK259.out 1).trans rfl
                  have hfz26_0 := blk_frozen BK259.out 0
                  have hfz26_1 := blk_frozen BK259.out 1
                  go_wp2
                  go_meet
                  case rel => exact ⟨_, (true), (by first | rfl | (simp; done) | (simp [*]; done)), H', ⟨by have := HJ5.out; first | omega | exact Nat.le_refl _⟩, ⟨by (with_reducible repeat (first | apply Kd.R_alloc | apply Kd.R_drewN | apply Kd.R_drew)); exact HO263.out⟩, ⟨by (with_reducible repeat (first | apply Kd.R_alloc | apply Kd.R_drewN | apply Kd.R_drew)); exact HO257.out⟩, ⟨by (with_reducible repeat (first | refine blk_drewN ?_ _ | refine blk_drew ?_ | refine blk_alloc ?_ _)); exact BK259.out⟩, ⟨by repeat (first | (with_reducible first | exact HB.out | apply below_alloc | apply pw_below_drewN | apply below_drew1 | refine below_set ?_ GE259.out) | exact HB.out)⟩⟩
                · rw [if_neg c25] at H
                  have c25b0 : decide (4 < t258) = false := decide_eq_false c25
                  clear c25
                  by_cases c27 : (t255.length : Int) > (l0.length : Int)
                  · rw [if_pos c27] at H
                    have c27b0 : decide ((l0.length : Int) < (t255.length : Int)) = true := decide_eq_true c27
                    have c27b1 : decide (l0.length < t255.length) = true := decide_eq_true (Int.ofNat_lt.mp c27)
                    clear c27
                    have H' := Aside0.mk H
                    clear H
                    have hcz28_0 : w22.cell? ⟨gb259, 0, none⟩ = some (.slice Ao18 t255.length co18) := (blk_cell BK259.out 0).trans rfl
                    have hcz28_1 : w22.cell? ⟨gb259, 1, none⟩ = some (.int .i64 t258) := (blk_cell BK259.out 1).trans rfl
                    have hfz28_0 := blk_frozen BK259.out 0
                    have hfz28_1 := blk_frozen BK259.out 1
                    go_wp2
                    go_meet
                    case rel => exact ⟨_, (true), (by first | rfl | (simp; done) | (simp [*]; done)), H', ⟨by have := HJ5.out; first | omega | exact Nat.le_refl _⟩, ⟨by (with_reducible repeat (first | apply Kd.R_alloc | apply Kd.R_drewN | apply Kd.R_drew)); exact HO263.out⟩, ⟨by (with_reducible repeat (first | apply Kd.R_alloc | apply Kd.R_drewN | apply Kd.R_drew)); exact HO257.out⟩, ⟨by (with_reducible repeat (first | refine blk_drewN ?_ _ | refine blk_drew ?_ | refine blk_alloc ?_ _)); exact BK259.out⟩, ⟨by repeat (first | (with_reducible first | exact HB.out | apply below_alloc | apply pw_below_drewN | apply below_drew1 | refine below_set ?_ GE259.out) | exact HB.out)⟩⟩
                  · rw [if_neg c27] at H
                    have c27b0 : decide ((l0.length : Int) < (t255.length : Int)) = false := decide_eq_false c27
                    have c27b1 : decide (l0.length < t255.length) = false := decide_eq_false (fun h => c27 (Int.ofNat_lt.mpr h))
                    clear c27
                    by_cases c29 : (t261.length : Int) > (l2.length : Int)
                    · rw [if_pos c29] at H
                      have c29b0 : decide ((l2.length : Int) < (t261.length : Int)) = true := decide_eq_true c29
                      have c29b1 : decide (l2.length < t261.length) = true := decide_eq_true (Int.ofNat_lt.mp c29)
                      clear c29
                      have H' := Aside0.mk H
                      clear H
                      have hcz30_0 : w22.cell? ⟨gb259, 0, none⟩ = some (.slice Ao18 t255.length co18) := (blk_cell BK259.out 0).trans rfl
                      have hcz30_1 : w22.cell? ⟨gb259, 1, none⟩ = some (.int .i64 t258) := (blk_cell BK259.out 1).trans rfl
                      have hfz30_0 := blk_frozen BK259.out 0
                      have hfz30_1 := blk_frozen BK259.out 1
                      obtain ⟨Ao31, co31, eo31⟩ := Kd.R_slice HO263.out
                      subst eo31
                      go_wp2
                      go_meet
                      case rel => exact ⟨_, (true), (by first | rfl | (simp; done) | (simp [*]; done)), H', ⟨by have := HJ5.out; first | omega | exact Nat.le_refl _⟩, ⟨by (with_reducible repeat (first | apply Kd.R_alloc | apply Kd.R_drewN | apply Kd.R_drew)); exact HO263.out⟩, ⟨by (with_reducible repeat (first | apply Kd.R_alloc | apply Kd.R_drewN | apply Kd.R_drew)); exact HO257.out⟩, ⟨by (with_reducible repeat (first | refine blk_drewN ?_ _ | refine blk_drew ?_ | refine blk_alloc ?_ _)); exact BK259.out⟩, ⟨by repeat (first | (with_reducible first | exact HB.out | apply below_alloc | apply pw_below_drewN | apply below_drew1 | refine below_set ?_ GE259.out) | exact HB.out)⟩⟩
                    · rw [if_neg c29] at H
                      have c29b0 : decide ((l2.length : Int) < (t261.length : Int)) = false := decide_eq_false c29
                      have c29b1 : decide (l2.length < t261.length) = false := decide_eq_false (fun h => c29 (Int.ofNat_lt.mpr h))
                      clear c29
                      by_cases c32 : 0 ≤ (t261.length : Int)
                      · rw [if_pos c32] at H
                        have c32b0 := eq_true c32
                        have c32b1 : decide (0 ≤ (t261.length : Int)) = true := decide_eq_true c32
                        clear c32
                        by_cases c33 : (t261.length : Int) ≤ (l2.length : Int)
                        · rw [if_pos c33] at H
                          have c33b0 := eq_true c33
                          have c33b1 : decide ((t261.length : Int) ≤ (l2.length : Int)) = true := decide_eq_true c33
                          clear c33
                          replace H := Option.bind_eq_some_iff.mp H
                          obtain ⟨t265, A340, H⟩ := H
                          replace H : (selvagelaw10_TreeEnds.j1 kj5 l1 l2 t261 (!t265) t255 t258) = some r := H
                          have A34 := Aside0.mk A340
                          clear A340
                          have H' := Aside0.mk H
                          clear H
                          have hcz35_0 : w22.cell? ⟨gb259, 0, none⟩ = some (.slice Ao18 t255.length co18) := (blk_cell BK259.out 0).trans rfl
                          have hcz35_1 : w22.cell? ⟨gb259, 1, none⟩ = some (.int .i64 t258) := (blk_cell BK259.out 1).trans rfl
                          have hfz35_0 := blk_frozen BK259.out 0
                          have hfz35_1 := blk_frozen BK259.out 1
                          obtain ⟨Ao36, co36, eo36⟩ := Kd.R_slice HO263.out
                          subst eo36
                          obtain ⟨i037, hi037, _, hsz37, _⟩ := info_parts info2
                          obtain ⟨hcut37, hA37, hC37⟩ := print_take_of (P := Try.prog) (Value.int .i64) 0 24 2 .i64 Try.underlying24 hi037 hsz37 A2 c2 l2 (t261.length : Int) (of_decide_eq_true (by first | (with_reducible assumption) | assumption)) (of_decide_eq_true (by first | (with_reducible assumption) | assumption)) HC2.out
                          generalize l2.take ((t261.length : Int) : Int).toNat = L37 at hcut37 hA37 hC37 A34
                          have HR264 := Aside0.mk (Kd.C_of_reads (h1 := fun _ => rfl) (hA37 _ (Kd.reads_of_C HR2.out)))
                          have HC264 := Aside0.mk hC37
                          clear hA37 hC37 hi037 hsz37
                          go_wp2_with (first | (go_at_call 22; (with_reducible refine (selvageref08_SameNums.calls kj5 _ _ t261 _ _ L37 t265 _ ?side1 ?side2 ?side3 ?side4 A34.out).mono ?_); (case side1 => repeat (first | exact (Kd.R_reads' HO263.out).2.2 | (with_reducible refine Kd.C_alloc ?_ _) | (with_reducible refine Kd.C_drewN ?_ _) | (with_reducible refine Kd.C_drew ?_))); (case side2 => exact (Kd.R_reads' HO263.out).2.1); (case side3 => repeat (first | exact (Kd.C_below HR264.out HB.out) | (with_reducible refine Kd.C_alloc ?_ _) | (with_reducible refine Kd.C_drewN ?_ _) | (with_reducible refine Kd.C_drew ?_))); (case side4 => exact HC264.out); rintro e w' ⟨rfl, ⟨nd, rfl⟩⟩))
                          go_meet
                          case rel => exact ⟨_, (!t265), (by first | rfl | (simp; done) | (simp [*]; done)), H', ⟨by have := HJ5.out; first | omega | exact Nat.le_refl _⟩, ⟨by (with_reducible repeat (first | apply Kd.R_alloc | apply Kd.R_drewN | apply Kd.R_drew)); exact HO263.out⟩, ⟨by (with_reducible repeat (first | apply Kd.R_alloc | apply Kd.R_drewN | apply Kd.R_drew)); exact HO257.out⟩, ⟨by (with_reducible repeat (first | refine blk_drewN ?_ _ | refine blk_drew ?_ | refine blk_alloc ?_ _)); exact BK259.out⟩, ⟨by repeat (first | (with_reducible first | exact HB.out | apply below_alloc | apply pw_below_drewN | apply below_drew1 | refine below_set ?_ GE259.out) | exact HB.out)⟩⟩
                        · rw [if_neg c33] at H
                          exact absurd H (by simp)
                      · rw [if_neg c32] at H
                        exact absurd H (by simp)
            case rest =>
              clear HC15
              try clear c1
              try clear c2
              try clear p2
              try clear c3
              try clear c5
              try clear c6
              try clear c8
              try clear c8b0
              try clear c8b1
              try clear c9
              try clear c9b0
              try clear c9b1
              try clear c10
              try clear c11
              try clear c13
              try clear c16
              try clear c21
              try clear c23
              try clear c23b0
              try clear c25
              try clear c25b0
              try clear c27
              try clear c27b0
              try clear c27b1
              try clear c29
              try clear c29b0
              try clear c29b1
              try clear c32
              try clear c32b0
              try clear c32b1
              try clear c33
              try clear c33b0
              try clear c33b1
              try clear hcz19_0
              try clear hcz19_1
              try clear hcz21_0
              try clear hcz21_1
              try clear hcz24_0
              try clear hcz24_1
              try clear hcz26_0
              try clear hcz26_1
              try clear hcz28_0
              try clear hcz28_1
              try clear hcz30_0
              try clear hcz30_1
              try clear hcz35_0
              try clear hcz35_1
              try clear hfz19_0
              try clear hfz19_1
              try clear hfz21_0
              try clear hfz21_1
              try clear hfz24_0
              try clear hfz24_1
              try clear hfz26_0
              try clear hfz26_1
              try clear hfz28_0
              try clear hfz28_1
              try clear hfz30_0
              try clear hfz30_1
              try clear hfz35_0
              try clear hfz35_1
              try clear p2
              obtain ⟨kq, x76_14, rfl, HA, HJ14, HO_8, HO_260000, BK259, HB⟩ := hcut
              cases kq with
              | zero => exact absurd HA.out (by simp [selvagelaw10_TreeEnds.j1])
              | succ kj14 =>
                have H := HA.out
                clear HA
                simp only [selvagelaw10_TreeEnds.j1] at H
                by_cases c38 : x76_14 = true
                · subst c38
                  have H1 : (some false) = some r := by rw [if_pos rfl] at H; exact H
                  clear H
                  have H := H1
                  clear H1
                  obtain rfl := Option.some.inj H
                  go_wp2
                  go_ret
                  exact ⟨by first | rfl | (simp [errW_none, errW_some] <;> rfl) | (simp [*, errW_none, errW_some] <;> rfl), by repeat (first | (with_reducible first | exact HB.out | apply below_alloc | apply pw_below_drewN | apply below_drew1 | refine below_set ?_ GE259.out) | exact HB.out)⟩
                · replace c38 := Bool.eq_false_iff.mpr c38
                  subst c38
                  have H1 : (selvagelaw10_TreeEnds.l0 kj14 l1 l2 t261 0 t255 t258) = some r := by rw [if_neg (show ¬ (false = true) by decide)] at H; exact H
                  clear H
                  have H := H1
                  clear H1
                  have H' := Aside0.mk H
                  clear H
                  go_wp2
                  go_loopg [9] kj14 (fun kq v9 w' => ∃ (x9_3 : Int), v9 = .int .i64 x9_3 ∧ Aside0 (selvagelaw10_TreeEnds.l0 kq l1 l2 t261 x9_3 t255 t258 = some r) ∧ Aside0 (kq ≤ kj14) ∧ Aside0 (Kd.R (Kd.int .i64) 2 w' w.heap.size (fun _ => True) v262 t261) ∧ Aside0 (Kd.R k47 47 w' w.heap.size (fun _ => True) (.slice Ao18 t255.length co18) t255) ∧ Aside0 (w'.heap[gb259]? = some (.cells #[(.slice Ao18 t255.length co18), .int .i64 t258] 31 (0, 0))) ∧ Aside0 (Below w.heap.size w w'))
                  case atStart => exact ⟨(0), (by first | rfl | (simp; done) | (simp [*]; done)), H', ⟨Nat.le_refl _⟩, ⟨by (with_reducible repeat (first | apply Kd.R_alloc | apply Kd.R_drewN | apply Kd.R_drew)); exact HO_8.out⟩, ⟨by (with_reducible repeat (first | apply Kd.R_alloc | apply Kd.R_drewN | apply Kd.R_drew)); exact HO_260000.out⟩, ⟨by (with_reducible repeat (first | refine blk_drewN ?_ _ | refine blk_drew ?_ | refine blk_alloc ?_ _)); exact BK259.out⟩, ⟨by repeat (first | (with_reducible first | exact HB.out | apply below_alloc | apply pw_below_drewN | apply below_drew1 | refine below_set ?_ GE259.out) | exact HB.out)⟩⟩
                  case round =>
                    clear H'
                    try clear c1
                    try clear c2
                    try clear p2
                    try clear c3
                    try clear c5
                    try clear c6
                    try clear c8
                    try clear c8b0
                    try clear c8b1
                    try clear c9
                    try clear c9b0
                    try clear c9b1
                    try clear c10
                    try clear c11
                    try clear c13
                    try clear c16
                    try clear c21
                    try clear c23
                    try clear c23b0
                    try clear c25
                    try clear c25b0
                    try clear c27
                    try clear c27b0
                    try clear c27b1
                    try clear c29
                    try clear c29b0
                    try clear c29b1
                    try clear c32
                    try clear c32b0
                    try clear c32b1
                    try clear c33
                    try clear c33b0
                    try clear c33b1
                    try clear c38
                    try clear hcz19_0
                    try clear hcz19_1
                    try clear hcz21_0
                    try clear hcz21_1
                    try clear hcz24_0
                    try clear hcz24_1
                    try clear hcz26_0
                    try clear hcz26_1
                    try clear hcz28_0
                    try clear hcz28_1
                    try clear hcz30_0
                    try clear hcz30_1
                    try clear hcz35_0
                    try clear hcz35_1
                    try clear hfz19_0
                    try clear hfz19_1
                    try clear hfz21_0
                    try clear hfz21_1
                    try clear hfz24_0
                    try clear hfz24_1
                    try clear hfz26_0
                    try clear hfz26_1
                    try clear hfz28_0
                    try clear hfz28_1
                    try clear hfz30_0
                    try clear hfz30_1
                    try clear hfz35_0
                    try clear hfz35_1
                    try clear p2
                    obtain ⟨x9_3, rfl, HA, HK3, HO_8, HO_260000, BK259, HB⟩ := hrel
                    cases gk with
                    | zero => exact absurd HA.out (by simp [selvagelaw10_TreeEnds.l0])
                    | succ k3 =>
                      have H := HA.out
                      clear HA
                      simp only [selvagelaw10_TreeEnds.l0] at H
                      by_cases c39 : x9_3 < (t255.length : Int)
                      · rw [if_pos c39] at H
                        have c39b0 : decide (x9_3 < (t255.length : Int)) = true := decide_eq_true c39
                        clear c39
                        by_cases c40 : 0 ≤ x9_3
                        · rw [if_pos c40] at H
                          have c40b0 : decide (0 ≤ x9_3) = true := decide_eq_true c40
                          clear c40
                          replace H := Option.bind_eq_some_iff.mp H
                          obtain ⟨t267, A410, H⟩ := H
                          replace H : (if t267 = true then (selvagelaw10_TreeEnds.l0 k3 l1 l2 t261 (wrap64 (x9_3 + 1)) t255 t258) else (some false)) = some r := H
                          have A41 := Aside0.mk A410
                          clear A410
                          by_cases c42 : t267 = true
                          · subst c42
                            have H1 : (selvagelaw10_TreeEnds.l0 k3 l1 l2 t261 (wrap64 (x9_3 + 1)) t255 t258) = some r := by rw [if_pos rfl] at H; exact H
                            clear H
                            have H := H1
                            clear H1
                            have H' := Aside0.mk H
                            clear H
                            have hcz43_0 : wr.cell? ⟨gb259, 0, none⟩ = some (.slice Ao18 t255.length co18) := (blk_cell BK259.out 0).trans rfl
                            have hcz43_1 : wr.cell? ⟨gb259, 1, none⟩ = some (.int .i64 t258) := (blk_cell BK259.out 1).trans rfl
                            have hfz43_0 := blk_frozen BK259.out 0
                            have hfz43_1 := blk_frozen BK259.out 1
                            have p266 : 0 ≤ (x9_3 : Int) := of_decide_eq_true (by first | (with_reducible assumption) | assumption)
                            have q266 : x9_3 < (t255.length : Int) := of_decide_eq_true (by first | (with_reducible assumption) | assumption)
                            obtain ⟨ad266, e266, hx266_0, hx266_1, hx266_2, hx266_3⟩ := at_T47 (Kd.R_reads' HO_260000.out).2.2 x9_3 p266 q266
                            cases e266
                            replace p266 := eq_true p266
                            replace q266 := eq_true q266
                            go_wp2_with (first | ((with_reducible refine gate_callee (f := 23) rfl ?_); refine goesL_ (some 90) rfl rfl Try.func23 (by kernel_rfl) rfl #[.agg #[.int .i64 ((rd_T47 t255 x9_3).f0), .int .i64 ((rd_T47 t255 x9_3).f1), .int .i64 ((rd_T47 t255 x9_3).f2), .int .i64 ((rd_T47 t255 x9_3).f3)], .slice A1 l1.length c1] rfl (by (try simp only [List.map_toArray, List.map_cons, List.map_nil]); first | done | rfl | (simp only [List.length_drop, List.length_take]; rfl)) ?_; (with_reducible refine (act_Right.calls ((rd_T47 t255 x9_3).f0) ((rd_T47 t255 x9_3).f1) ((rd_T47 t255 x9_3).f2) ((rd_T47 t255 x9_3).f3) _ _ l1 true _ ?side1 ?side2 A41.out).mono ?_); (case side1 => repeat (first | exact (Kd.C_below HR1.out HB.out) | (with_reducible refine Kd.C_alloc ?_ _) | (with_reducible refine Kd.C_drewN ?_ _) | (with_reducible refine Kd.C_drew ?_))); (case side2 => exact HC1.out); rintro e w44 ⟨rfl, hb⟩; refine ⟨_, rfl, ?_⟩; have n0_ := Aside0.mk (Kd.R_below (by (with_reducible repeat (first | apply Kd.R_alloc | apply Kd.R_drewN | apply Kd.R_drew)); exact HO_8.out) hb); have n1_ := Aside0.mk (Kd.R_below (by (with_reducible repeat (first | apply Kd.R_alloc | apply Kd.R_drewN | apply Kd.R_drew)); exact HO_260000.out) hb); have n2_ := Aside0.mk (blk_below (g := gb259) (o := .cells #[.slice (some ad266) t255.length co18, .int .i64 t258] 31 (0, 0)) (by (with_reducible repeat (first | refine blk_drewN ?_ _ | refine blk_drew ?_ | refine blk_alloc ?_ _)); exact BK259.out) hb); have n3_ := Aside0.mk (below_step (by repeat (first | (with_reducible first | exact HB.out | apply below_alloc | apply pw_below_drewN | apply below_drew1 | refine below_set ?_ GE259.out) | exact HB.out)) hb); clear HO_8; clear HO_260000; clear BK259; clear HB; have HO_8 := n0_; have HO_260000 := n1_; have BK259 := n2_; have HB := n3_; clear n0_ n1_ n2_ n3_; (try clear hb); (try clear hb2); (try clear hk); (try clear hi)))
                            go_roundg k3
                            case measure => have := HJ5.out; have := HJ14.out; have := HK3.out; omega
                            case rel => exact ⟨(wrap64 (x9_3 + 1)), (by first | rfl | (simp; done) | (simp [*]; done)), H', ⟨by have := HJ5.out; have := HJ14.out; have := HK3.out; omega⟩, ⟨by (with_reducible repeat (first | apply Kd.R_alloc | apply Kd.R_drewN | apply Kd.R_drew)); exact HO_8.out⟩, ⟨by (with_reducible repeat (first | apply Kd.R_alloc | apply Kd.R_drewN | apply Kd.R_drew)); exact HO_260000.out⟩, ⟨by (with_reducible repeat (first | refine blk_drewN ?_ _ | refine blk_drew ?_ | refine blk_alloc ?_ _)); exact BK259.out⟩, ⟨by repeat (first | (with_reducible first | exact HB.out | apply below_alloc | apply pw_below_drewN | apply below_drew1 | refine below_set ?_ GE259.out) | exact HB.out)⟩⟩
                          · replace c42 := Bool.eq_false_iff.mpr c42
                            subst c42
                            have H1 : (some false) = some r := by rw [if_neg (show ¬ (false = true) by decide)] at H; exact H
                            clear H
                            have H := H1
                            clear H1
                            obtain rfl := Option.some.inj H
                            have hcz45_0 : wr.cell? ⟨gb259, 0, none⟩ = some (.slice Ao18 t255.length co18) := (blk_cell BK259.out 0).trans rfl
                            have hcz45_1 : wr.cell? ⟨gb259, 1, none⟩ = some (.int .i64 t258) := (blk_cell BK259.out 1).trans rfl
                            have hfz45_0 := blk_frozen BK259.out 0
                            have hfz45_1 := blk_frozen BK259.out 1
                            have p266 : 0 ≤ (x9_3 : Int) := of_decide_eq_true (by first | (with_reducible assumption) | assumption)
                            have q266 : x9_3 < (t255.length : Int) := of_decide_eq_true (by first | (with_reducible assumption) | assumption)
                            obtain ⟨ad266, e266, hx266_0, hx266_1, hx266_2, hx266_3⟩ := at_T47 (Kd.R_reads' HO_260000.out).2.2 x9_3 p266 q266
                            cases e266
                            replace p266 := eq_true p266
                            replace q266 := eq_true q266
                            go_wp2_with (first | ((with_reducible refine gate_callee (f := 23) rfl ?_); refine goesL_ (some 90) rfl rfl Try.func23 (by kernel_rfl) rfl #[.agg #[.int .i64 ((rd_T47 t255 x9_3).f0), .int .i64 ((rd_T47 t255 x9_3).f1), .int .i64 ((rd_T47 t255 x9_3).f2), .int .i64 ((rd_T47 t255 x9_3).f3)], .slice A1 l1.length c1] rfl (by (try simp only [List.map_toArray, List.map_cons, List.map_nil]); first | done | rfl | (simp only [List.length_drop, List.length_take]; rfl)) ?_; (with_reducible refine (act_Right.calls ((rd_T47 t255 x9_3).f0) ((rd_T47 t255 x9_3).f1) ((rd_T47 t255 x9_3).f2) ((rd_T47 t255 x9_3).f3) _ _ l1 false _ ?side1 ?side2 A41.out).mono ?_); (case side1 => repeat (first | exact (Kd.C_below HR1.out HB.out) | (with_reducible refine Kd.C_alloc ?_ _) | (with_reducible refine Kd.C_drewN ?_ _) | (with_reducible refine Kd.C_drew ?_))); (case side2 => exact HC1.out); rintro e w46 ⟨rfl, hb⟩; refine ⟨_, rfl, ?_⟩; have n0_ := Aside0.mk (Kd.R_below (by (with_reducible repeat (first | apply Kd.R_alloc | apply Kd.R_drewN | apply Kd.R_drew)); exact HO_8.out) hb); have n1_ := Aside0.mk (Kd.R_below (by (with_reducible repeat (first | apply Kd.R_alloc | apply Kd.R_drewN | apply Kd.R_drew)); exact HO_260000.out) hb); have n2_ := Aside0.mk (blk_below (g := gb259) (o := .cells #[.slice (some ad266) t255.length co18, .int .i64 t258] 31 (0, 0)) (by (with_reducible repeat (first | refine blk_drewN ?_ _ | refine blk_drew ?_ | refine blk_alloc ?_ _)); exact BK259.out) hb); have n3_ := Aside0.mk (below_step (by repeat (first | (with_reducible first | exact HB.out | apply below_alloc | apply pw_below_drewN | apply below_drew1 | refine below_set ?_ GE259.out) | exact HB.out)) hb); clear HO_8; clear HO_260000; clear BK259; clear HB; have HO_8 := n0_; have HO_260000 := n1_; have BK259 := n2_; have HB := n3_; clear n0_ n1_ n2_ n3_; (try clear hb); (try clear hb2); (try clear hk); (try clear hi)))
                            go_ret
                            exact ⟨by first | rfl | (simp [errW_none, errW_some] <;> rfl) | (simp [*, errW_none, errW_some] <;> rfl), by repeat (first | (with_reducible first | exact HB.out | apply below_alloc | apply pw_below_drewN | apply below_drew1 | refine below_set ?_ GE259.out) | exact HB.out)⟩
                        · rw [if_neg c40] at H
                          exact absurd H (by simp)
                      · rw [if_neg c39] at H
                        have c39b0 : decide (x9_3 < (t255.length : Int)) = false := decide_eq_false c39
                        clear c39
                        by_cases c47 : t258 = 4
                        · rw [if_pos c47] at H
                          have c47b0 : (t258 == 4) = true := beq_iff_eq.mpr c47
                          have c47b1 : (t258 != 4) = false := bne_eq_false_iff_eq.mpr c47
                          clear c47
                          obtain rfl := Option.some.inj H
                          have hcz48_0 : wr.cell? ⟨gb259, 0, none⟩ = some (.slice Ao18 t255.length co18) := (blk_cell BK259.out 0).trans rfl
                          have hcz48_1 : wr.cell? ⟨gb259, 1, none⟩ = some (.int .i64 t258) := (blk_cell BK259.out 1).trans rfl
                          have hfz48_0 := blk_frozen BK259.out 0
                          have hfz48_1 := blk_frozen BK259.out 1
                          obtain ⟨Ao49, co49, eo49⟩ := Kd.R_slice HO_8.out
                          subst eo49
                          go_wp2
                          go_ret
                          exact ⟨by first | rfl | (simp [errW_none, errW_some] <;> rfl) | (simp [*, errW_none, errW_some] <;> rfl), by repeat (first | (with_reducible first | exact HB.out | apply below_alloc | apply pw_below_drewN | apply below_drew1 | refine below_set ?_ GE259.out) | exact HB.out)⟩
                        · rw [if_neg c47] at H
                          have c47b0 : (t258 == 4) = false := beq_eq_false_iff_ne.mpr c47
                          have c47b1 : (t258 != 4) = true := bne_iff_ne.mpr c47
                          obtain rfl := Option.some.inj H
                          have hcz50_0 : wr.cell? ⟨gb259, 0, none⟩ = some (.slice Ao18 t255.length co18) := (blk_cell BK259.out 0).trans rfl
                          have hcz50_1 : wr.cell? ⟨gb259, 1, none⟩ = some (.int .i64 t258) := (blk_cell BK259.out 1).trans rfl
                          have hfz50_0 := blk_frozen BK259.out 0
                          have hfz50_1 := blk_frozen BK259.out 1
                          go_wp2
                          go_ret
                          exact ⟨by first | rfl | (simp [errW_none, errW_some] <;> rfl) | (simp [*, errW_none, errW_some] <;> rfl), by repeat (first | (with_reducible first | exact HB.out | apply below_alloc | apply pw_below_drewN | apply below_drew1 | refine below_set ?_ GE259.out) | exact HB.out)⟩
          · replace c13 := Bool.eq_false_iff.mpr c13
            subst c13
            have H1 : (if t258 = 0 then (some ((t255.length : Int) == 0)) else (some false)) = some r := by rw [if_neg (show ¬ (false = true) by decide)] at H; exact H
            clear H
            have H := H1
            clear H1
            by_cases c51 : t258 = 0
            · rw [if_pos c51] at H
              have c51b0 : (t258 == 0) = true := beq_iff_eq.mpr c51
              have c51b1 : (t258 != 0) = false := bne_eq_false_iff_eq.mpr c51
              clear c51
              obtain rfl := Option.some.inj H
              go_wp2_with (first | ((with_reducible refine gate_callee (f := 16) rfl ?_); refine goesL_ (some 28) rfl rfl Try.func16 (by kernel_rfl) rfl #[.slice A0 l0.length c0, .slice A1 l1.length c1, .slice A2 l2.length c2] rfl (by (try simp only [List.map_toArray, List.map_cons, List.map_nil]); first | done | rfl | (simp only [List.length_drop, List.length_take]; rfl)) ?_; (with_reducible refine (tree_Run.calls _ _ l0 _ _ l1 _ _ l2 t255 t258 _ ?side1 ?side2 ?side3 ?side4 ?side5 ?side6 A11.out).mono ?_); (case side1 => repeat (first | exact (Kd.C_below HR0.out HB.out) | (with_reducible refine Kd.C_alloc ?_ _) | (with_reducible refine Kd.C_drewN ?_ _) | (with_reducible refine Kd.C_drew ?_))); (case side2 => exact HC0.out); (case side3 => repeat (first | exact (Kd.C_below HR1.out HB.out) | (with_reducible refine Kd.C_alloc ?_ _) | (with_reducible refine Kd.C_drewN ?_ _) | (with_reducible refine Kd.C_drew ?_))); (case side4 => exact HC1.out); (case side5 => repeat (first | exact (Kd.C_below HR2.out HB.out) | (with_reducible refine Kd.C_alloc ?_ _) | (with_reducible refine Kd.C_drewN ?_ _) | (with_reducible refine Kd.C_drew ?_))); (case side6 => exact HC2.out); rintro e w52 ⟨v256, rfl, ho0, hb⟩; refine ⟨_, rfl, ?_⟩; have n0_ := Aside0.mk (Kd.R_lower ho0 (below_size (by repeat (first | (with_reducible first | exact HB.out | apply below_alloc | apply pw_below_drewN | apply below_drew1) | exact HB.out)))); have n1_ := Aside0.mk (below_step (by repeat (first | (with_reducible first | exact HB.out | apply below_alloc | apply pw_below_drewN | apply below_drew1) | exact HB.out)) hb); clear HB; have HO257 := n0_; have HB := n1_; clear n0_ n1_; (try clear hb); (try clear hb2); (try clear hk); (try clear hi); (try clear ho0)) | ((with_reducible refine gate_dst (N := 7) rfl ?_); (try (refine gate_guard (by rfl) ?_; dsimp only)); refine box_event ?hg (N := 7) ?hd (cs := #[.slice none 0 0, .int .i64 0]) (t := 31) ?hr ?_; (case hd => rfl); (case hg => rfl); (case hr => first | (go_simp; done) | (go_simp; rfl)); intro gb259 hg w53 hbox hb; have n0_ := Aside0.mk (Kd.R_below (by (with_reducible repeat (first | apply Kd.R_alloc | apply Kd.R_drewN | apply Kd.R_drew)); exact HO257.out) hb); have n1_ := Aside0.mk (below_step (by repeat (first | (with_reducible first | exact HB.out | apply below_alloc | apply pw_below_drewN | apply below_drew1) | exact HB.out)) hb); have n2_ := Aside0.mk (hbox); have n3_ := Aside0.mk ((by rw [hg]; exact (below_size (by repeat (first | (with_reducible first | exact HB.out | apply below_alloc | apply pw_below_drewN | apply below_drew1) | exact HB.out))) : w.heap.size ≤ gb259)); have n4_ := Aside0.mk ((by rw [hg]; exact (below_size (by repeat (first | (with_reducible first | exact HB.out | apply below_alloc | apply pw_below_drewN | apply below_drew1) | exact HB.out))) : w.heap.size ≤ gb259)); clear HO257; clear HB; have HO257 := n0_; have HB := n1_; have BK259 := n2_; have GW259 := n3_; have GE259 := n4_; clear n0_ n1_ n2_ n3_ n4_; clear hb hbox hg; obtain ⟨Ao54, co54, eo54⟩ := Kd.R_slice HO257.out; subst eo54; have hcz55_0 : w53.cell? ⟨gb259, 0, none⟩ = some (.slice none 0 0) := (blk_cell BK259.out 0).trans rfl; have hcz55_1 : w53.cell? ⟨gb259, 1, none⟩ = some (.int .i64 0) := (blk_cell BK259.out 1).trans rfl; have hfz55_0 := blk_frozen BK259.out 0; have hfz55_1 := blk_frozen BK259.out 1) | ((with_reducible refine gate_callee (f := 13) rfl ?_); refine goesL_ (some 31) rfl rfl Try.func13 (by kernel_rfl) rfl #[.slice A0 l0.length c0, .slice A1 l1.length c1] rfl (by (try simp only [List.map_toArray, List.map_cons, List.map_nil]); first | done | rfl | (simp only [List.length_drop, List.length_take]; rfl)) ?_; (with_reducible refine (tree_Right.calls _ _ l0 _ _ l1 false _ ?side1 ?side2 ?side3 ?side4 A12.out).mono ?_); (case side1 => exact Kd.C_below HR0.out (by repeat (first | (with_reducible first | exact HB.out | apply below_alloc | apply pw_below_drewN | apply below_drew1 | refine below_set ?_ GE259.out) | exact HB.out))); (case side2 => exact HC0.out); (case side3 => exact Kd.C_below HR1.out (by repeat (first | (with_reducible first | exact HB.out | apply below_alloc | apply pw_below_drewN | apply below_drew1 | refine below_set ?_ GE259.out) | exact HB.out))); (case side4 => exact HC1.out); rintro e w56 ⟨rfl, hb⟩; refine ⟨_, rfl, ?_⟩; have n0_ := Aside0.mk (Kd.R_below (by (with_reducible repeat (first | apply Kd.R_alloc | apply Kd.R_drewN | apply Kd.R_drew)); exact (Kd.R_mono (Kd.R_far (p := ⟨gb259, 1, none⟩) (Kd.R_far (p := ⟨gb259, 0, none⟩) (Kd.R_types HO257.out BK259.out (by decide)) (fun _ hk => hk.2) (.slice Ao54 t255.length co54)) (fun _ hk => hk.2) (.int .i64 t258)) (fun _ h_ => h_.1))) hb); have n1_ := Aside0.mk (blk_below (g := gb259) (o := .cells #[.slice Ao54 t255.length co54, .int .i64 t258] 31 (0, 0)) (by (with_reducible repeat (first | refine blk_drewN ?_ _ | refine blk_drew ?_ | refine blk_alloc ?_ _)); refine blk_put (cs := #[.slice Ao54 t255.length co54, .int .i64 0]) ?_ 1 _ rfl; (with_reducible repeat (first | refine blk_drewN ?_ _ | refine blk_drew ?_ | refine blk_alloc ?_ _)); refine blk_put (cs := #[.slice none 0 0, .int .i64 0]) ?_ 0 _ rfl; (with_reducible repeat (first | refine blk_drewN ?_ _ | refine blk_drew ?_ | refine blk_alloc ?_ _)); exact BK259.out) hb); have n2_ := Aside0.mk (below_step (by repeat (first | (with_reducible first | exact HB.out | apply below_alloc | apply pw_below_drewN | apply below_drew1 | refine below_set ?_ GE259.out) | exact HB.out)) hb); clear HO257; clear BK259; clear HB; have HO257 := n0_; have BK259 := n1_; have HB := n2_; clear n0_ n1_ n2_; (try clear hb); (try clear hb2); (try clear hk); (try clear hi); have hcz57_0 : w56.cell? ⟨gb259, 0, none⟩ = some (.slice Ao54 t255.length co54) := (blk_cell BK259.out 0).trans rfl; have hcz57_1 : w56.cell? ⟨gb259, 1, none⟩ = some (.int .i64 t258) := (blk_cell BK259.out 1).trans rfl; have hfz57_0 := blk_frozen BK259.out 0; have hfz57_1 := blk_frozen BK259.out 1))
              go_ret
              exact ⟨by first | rfl | (simp [errW_none, errW_some] <;> rfl) | (simp [*, errW_none, errW_some] <;> rfl), by repeat (first | (with_reducible first | exact HB.out | apply below_alloc | apply pw_below_drewN | apply below_drew1 | refine below_set ?_ GE259.out) | exact HB.out)⟩
            · rw [if_neg c51] at H
              have c51b0 : (t258 == 0) = false := beq_eq_false_iff_ne.mpr c51
              have c51b1 : (t258 != 0) = true := bne_iff_ne.mpr c51
              obtain rfl := Option.some.inj H
              go_wp2_with (first | ((with_reducible refine gate_callee (f := 16) rfl ?_); refine goesL_ (some 28) rfl rfl Try.func16 (by kernel_rfl) rfl #[.slice A0 l0.length c0, .slice A1 l1.length c1, .slice A2 l2.length c2] rfl (by (try simp only [List.map_toArray, List.map_cons, List.map_nil]); first | done | rfl | (simp only [List.length_drop, List.length_take]; rfl)) ?_; (with_reducible refine (tree_Run.calls _ _ l0 _ _ l1 _ _ l2 t255 t258 _ ?side1 ?side2 ?side3 ?side4 ?side5 ?side6 A11.out).mono ?_); (case side1 => repeat (first | exact (Kd.C_below HR0.out HB.out) | (with_reducible refine Kd.C_alloc ?_ _) | (with_reducible refine Kd.C_drewN ?_ _) | (with_reducible refine Kd.C_drew ?_))); (case side2 => exact HC0.out); (case side3 => repeat (first | exact (Kd.C_below HR1.out HB.out) | (with_reducible refine Kd.C_alloc ?_ _) | (with_reducible refine Kd.C_drewN ?_ _) | (with_reducible refine Kd.C_drew ?_))); (case side4 => exact HC1.out); (case side5 => repeat (first | exact (Kd.C_below HR2.out HB.out) | (with_reducible refine Kd.C_alloc ?_ _) | (with_reducible refine Kd.C_drewN ?_ _) | (with_reducible refine Kd.C_drew ?_))); (case side6 => exact HC2.out); rintro e w58 ⟨v256, rfl, ho0, hb⟩; refine ⟨_, rfl, ?_⟩; have n0_ := Aside0.mk (Kd.R_lower ho0 (below_size (by repeat (first | (with_reducible first | exact HB.out | apply below_alloc | apply pw_below_drewN | apply below_drew1) | exact HB.out)))); have n1_ := Aside0.mk (below_step (by repeat (first | (with_reducible first | exact HB.out | apply below_alloc | apply pw_below_drewN | apply below_drew1) | exact HB.out)) hb); clear HB; have HO257 := n0_; have HB := n1_; clear n0_ n1_; (try clear hb); (try clear hb2); (try clear hk); (try clear hi); (try clear ho0)) | ((with_reducible refine gate_dst (N := 7) rfl ?_); (try (refine gate_guard (by rfl) ?_; dsimp only)); refine box_event ?hg (N := 7) ?hd (cs := #[.slice none 0 0, .int .i64 0]) (t := 31) ?hr ?_; (case hd => rfl); (case hg => rfl); (case hr => first | (go_simp; done) | (go_simp; rfl)); intro gb259 hg w59 hbox hb; have n0_ := Aside0.mk (Kd.R_below (by (with_reducible repeat (first | apply Kd.R_alloc | apply Kd.R_drewN | apply Kd.R_drew)); exact HO257.out) hb); have n1_ := Aside0.mk (below_step (by repeat (first | (with_reducible first | exact HB.out | apply below_alloc | apply pw_below_drewN | apply below_drew1) | exact HB.out)) hb); have n2_ := Aside0.mk (hbox); have n3_ := Aside0.mk ((by rw [hg]; exact (below_size (by repeat (first | (with_reducible first | exact HB.out | apply below_alloc | apply pw_below_drewN | apply below_drew1) | exact HB.out))) : w.heap.size ≤ gb259)); have n4_ := Aside0.mk ((by rw [hg]; exact (below_size (by repeat (first | (with_reducible first | exact HB.out | apply below_alloc | apply pw_below_drewN | apply below_drew1) | exact HB.out))) : w.heap.size ≤ gb259)); clear HO257; clear HB; have HO257 := n0_; have HB := n1_; have BK259 := n2_; have GW259 := n3_; have GE259 := n4_; clear n0_ n1_ n2_ n3_ n4_; clear hb hbox hg; obtain ⟨Ao60, co60, eo60⟩ := Kd.R_slice HO257.out; subst eo60; have hcz61_0 : w59.cell? ⟨gb259, 0, none⟩ = some (.slice none 0 0) := (blk_cell BK259.out 0).trans rfl; have hcz61_1 : w59.cell? ⟨gb259, 1, none⟩ = some (.int .i64 0) := (blk_cell BK259.out 1).trans rfl; have hfz61_0 := blk_frozen BK259.out 0; have hfz61_1 := blk_frozen BK259.out 1) | ((with_reducible refine gate_callee (f := 13) rfl ?_); refine goesL_ (some 31) rfl rfl Try.func13 (by kernel_rfl) rfl #[.slice A0 l0.length c0, .slice A1 l1.length c1] rfl (by (try simp only [List.map_toArray, List.map_cons, List.map_nil]); first | done | rfl | (simp only [List.length_drop, List.length_take]; rfl)) ?_; (with_reducible refine (tree_Right.calls _ _ l0 _ _ l1 false _ ?side1 ?side2 ?side3 ?side4 A12.out).mono ?_); (case side1 => exact Kd.C_below HR0.out (by repeat (first | (with_reducible first | exact HB.out | apply below_alloc | apply pw_below_drewN | apply below_drew1 | refine below_set ?_ GE259.out) | exact HB.out))); (case side2 => exact HC0.out); (case side3 => exact Kd.C_below HR1.out (by repeat (first | (with_reducible first | exact HB.out | apply below_alloc | apply pw_below_drewN | apply below_drew1 | refine below_set ?_ GE259.out) | exact HB.out))); (case side4 => exact HC1.out); rintro e w62 ⟨rfl, hb⟩; refine ⟨_, rfl, ?_⟩; have n0_ := Aside0.mk (Kd.R_below (by (with_reducible repeat (first | apply Kd.R_alloc | apply Kd.R_drewN | apply Kd.R_drew)); exact (Kd.R_mono (Kd.R_far (p := ⟨gb259, 1, none⟩) (Kd.R_far (p := ⟨gb259, 0, none⟩) (Kd.R_types HO257.out BK259.out (by decide)) (fun _ hk => hk.2) (.slice Ao60 t255.length co60)) (fun _ hk => hk.2) (.int .i64 t258)) (fun _ h_ => h_.1))) hb); have n1_ := Aside0.mk (blk_below (g := gb259) (o := .cells #[.slice Ao60 t255.length co60, .int .i64 t258] 31 (0, 0)) (by (with_reducible repeat (first | refine blk_drewN ?_ _ | refine blk_drew ?_ | refine blk_alloc ?_ _)); refine blk_put (cs := #[.slice Ao60 t255.length co60, .int .i64 0]) ?_ 1 _ rfl; (with_reducible repeat (first | refine blk_drewN ?_ _ | refine blk_drew ?_ | refine blk_alloc ?_ _)); refine blk_put (cs := #[.slice none 0 0, .int .i64 0]) ?_ 0 _ rfl; (with_reducible repeat (first | refine blk_drewN ?_ _ | refine blk_drew ?_ | refine blk_alloc ?_ _)); exact BK259.out) hb); have n2_ := Aside0.mk (below_step (by repeat (first | (with_reducible first | exact HB.out | apply below_alloc | apply pw_below_drewN | apply below_drew1 | refine below_set ?_ GE259.out) | exact HB.out)) hb); clear HO257; clear BK259; clear HB; have HO257 := n0_; have BK259 := n1_; have HB := n2_; clear n0_ n1_ n2_; (try clear hb); (try clear hb2); (try clear hk); (try clear hi); have hcz63_0 : w62.cell? ⟨gb259, 0, none⟩ = some (.slice Ao60 t255.length co60) := (blk_cell BK259.out 0).trans rfl; have hcz63_1 : w62.cell? ⟨gb259, 1, none⟩ = some (.int .i64 t258) := (blk_cell BK259.out 1).trans rfl; have hfz63_0 := blk_frozen BK259.out 0; have hfz63_1 := blk_frozen BK259.out 1))
              go_ret
              exact ⟨by first | rfl | (simp [errW_none, errW_some] <;> rfl) | (simp [*, errW_none, errW_some] <;> rfl), by repeat (first | (with_reducible first | exact HB.out | apply below_alloc | apply pw_below_drewN | apply below_drew1 | refine below_set ?_ GE259.out) | exact HB.out)⟩
  · replace c5 := Bool.eq_false_iff.mpr c5
    subst c5
    have H1 : (some false) = some r := by rw [if_neg (show ¬ (false = true) by decide)] at H; exact H
    clear H
    have H := H1
    clear H1
    obtain rfl := Option.some.inj H
    go_enter Try.func6, Try.ntmps6
    go_wp2_with (first | ((with_reducible refine gate_callee (f := 11) rfl ?_); refine goesL_ (some 10) rfl rfl Try.func11 (by kernel_rfl) rfl #[] rfl (by (try simp only [List.map_toArray, List.map_cons, List.map_nil]); first | done | rfl | (simp only [List.length_drop, List.length_take]; rfl)) ?_; (with_reducible refine (selvagelaw10_awake.calls k  false _ A4.out).mono ?_); rintro e w64 ⟨rfl, hb⟩; refine ⟨_, rfl, ?_⟩; have n0_ := Aside0.mk (below_step (by repeat (first | (with_reducible first | exact HB.out | apply below_alloc | apply pw_below_drewN | apply below_drew1) | exact HB.out)) hb); clear HB; have HB := n0_; clear n0_; (try clear hb); (try clear hb2); (try clear hk); (try clear hi)))
    go_ret
    exact ⟨by first | rfl | (simp [errW_none, errW_some] <;> rfl) | (simp [*, errW_none, errW_some] <;> rfl), by repeat (first | (with_reducible first | exact HB.out | apply below_alloc | apply pw_below_drewN | apply below_drew1) | exact HB.out)⟩

end Go.Proofs.Ytdmbnlpcfgphpaa.Q
