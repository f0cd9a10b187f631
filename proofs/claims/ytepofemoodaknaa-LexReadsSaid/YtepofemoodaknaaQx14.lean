-- Printed by qprint.py (a program of this session, round the print): not a text of print.sh. Lean checks it.
import Derived.Test.YtepofemoodaknaaQx0
import Derived.Test.YtepofemoodaknaaQx12
import Derived.Test.YtepofemoodaknaaQx13
namespace Go.Proofs.Ytepofemoodaknaa.Q
open Go.RowKit Go.Proofs.YtepofemoodaknaaW.PrintWords Go.Proofs.YtepofemoodaknaaW.PrintLast Go.Proofs.YtepofemoodaknaaW.PrintMore
attribute [local go_sem] max2_int min2_int max_two min_two max_three min_three max_four min_four   -- for this text's walks alone
set_option linter.unusedVariables false
set_option linter.unusedSimpArgs false

/-! ### selvagelaw04_awake: function 8 -/
def selvagelaw04_awake.f (k : Nat)  : Option (Bool) := (lex_Tokens.f (⟨#[120, 58, 61, 49]⟩ : ByteArray)).bind fun bt113 => (if bt113.2.1 = 0 then (if (bt113.1.length : Int) = 3 then (if 1 < (bt113.1.length : Int) then (if ((rd_T32 bt113.1 1).f1).toList = ([58, 61] : List UInt8) then (if 2 < (bt113.1.length : Int) then (if ((rd_T32 bt113.1 2).f2) = 1 then ((lex_IsName.f k (⟨#[120]⟩ : ByteArray)).bind fun t120 => (some t120)) else (some false)) else (none)) else (some false)) else (none)) else (some false)) else (some false))
theorem selvagelaw04_awake.mono : ∀ k, LeO (selvagelaw04_awake.f k ) (selvagelaw04_awake.f (k + 1) ) := by
  intro  k
  unfold selvagelaw04_awake.f
  repeat' first
      | (with_reducible exact lex_IsName.mono _ _)
      | (with_reducible exact LeO.refl _)
      | (with_reducible exact LeO.none _)
      | (with_reducible refine LeO.ite ?_ ?_)
      | (with_reducible refine LeO.bind ?_ (fun _ => ?_))
      | exact lex_IsName.mono _ _
      | exact LeO.none _
      | refine LeO.ite ?_ ?_
      | refine LeO.bind ?_ (fun _ => ?_)
set_option maxHeartbeats 8000000 in
set_option maxRecDepth 100000 in
theorem selvagelaw04_awake.calls (k : Nat)  (r : Bool) (w : World) (h : selvagelaw04_awake.f k  = some r) :
    Calls Try.prog 8 #[] w fun e w' => e = .returned (.bool r) ∧ Below w.heap.size w w' := by
  have HB := Aside0.mk (Below.refl w.heap.size w)
  have H : ((lex_Tokens.f (⟨#[120, 58, 61, 49]⟩ : ByteArray)).bind fun bt113 => (if bt113.2.1 = 0 then (if (bt113.1.length : Int) = 3 then (if 1 < (bt113.1.length : Int) then (if ((rd_T32 bt113.1 1).f1).toList = ([58, 61] : List UInt8) then (if 2 < (bt113.1.length : Int) then (if ((rd_T32 bt113.1 2).f2) = 1 then ((lex_IsName.f k (⟨#[120]⟩ : ByteArray)).bind fun t120 => (some t120)) else (some false)) else (none)) else (some false)) else (none)) else (some false)) else (some false))) = some r := h
  clear h
  replace H := Option.bind_eq_some_iff.mp H
  obtain ⟨⟨t113, t114, t115⟩, A10, H⟩ := H
  replace H : (if t114 = 0 then (if (t113.length : Int) = 3 then (if 1 < (t113.length : Int) then (if ((rd_T32 t113 1).f1).toList = ([58, 61] : List UInt8) then (if 2 < (t113.length : Int) then (if ((rd_T32 t113 2).f2) = 1 then ((lex_IsName.f k (⟨#[120]⟩ : ByteArray)).bind fun t120 => (some t120)) else (some false)) else (none)) else (some false)) else (none)) else (some false)) else (some false)) = some r := H
  have A1 := Aside0.mk A10
  clear A10
  by_cases c2 : t114 = 0
  · rw [if_pos c2] at H
    have c2b0 : (t114 == 0) = true := beq_iff_eq.mpr c2
    have c2b1 : (t114 != 0) = false := bne_eq_false_iff_eq.mpr c2
    clear c2
    by_cases c3 : (t113.length : Int) = 3
    · rw [if_pos c3] at H
      have c3b0 : ((t113.length : Int) == 3) = true := beq_iff_eq.mpr c3
      have c3b1 : ((t113.length : Int) != 3) = false := bne_eq_false_iff_eq.mpr c3
      clear c3
      by_cases c4 : 1 < (t113.length : Int)
      · rw [if_pos c4] at H
        have c4b0 : decide (1 < (t113.length : Int)) = true := decide_eq_true c4
        have c4b1 : decide (1 < t113.length) = true := decide_eq_true (by omega)
        clear c4
        by_cases c5 : ((rd_T32 t113 1).f1).toList = ([58, 61] : List UInt8)
        · rw [if_pos c5] at H
          have c5b0 : (((rd_T32 t113 1).f1).toList == ([58, 61] : List UInt8)) = true := beq_iff_eq.mpr c5
          have c5b1 : (((rd_T32 t113 1).f1).toList != ([58, 61] : List UInt8)) = false := bne_eq_false_iff_eq.mpr c5
          clear c5
          by_cases c6 : 2 < (t113.length : Int)
          · rw [if_pos c6] at H
            have c6b0 : decide (2 < (t113.length : Int)) = true := decide_eq_true c6
            have c6b1 : decide (2 < t113.length) = true := decide_eq_true (by omega)
            clear c6
            by_cases c7 : ((rd_T32 t113 2).f2) = 1
            · rw [if_pos c7] at H
              have c7b0 : (((rd_T32 t113 2).f2) == 1) = true := beq_iff_eq.mpr c7
              have c7b1 : (((rd_T32 t113 2).f2) != 1) = false := bne_eq_false_iff_eq.mpr c7
              clear c7
              replace H := Option.bind_eq_some_iff.mp H
              obtain ⟨t120, A80, H⟩ := H
              replace H : (some t120) = some r := H
              have A8 := Aside0.mk A80
              clear A80
              obtain rfl := Option.some.inj H
              go_enter Try.func8, Try.ntmps8
              go_wp2_with (first | ((with_reducible refine gate_callee (f := 9) rfl ?_); refine goesL_ (some 5) rfl rfl Try.func9 (by kernel_rfl) rfl #[.string (⟨#[120, 58, 61, 49]⟩ : ByteArray)] rfl (by (try simp only [List.map_toArray, List.map_cons, List.map_nil]); first | done | rfl | (simp only [List.length_drop, List.length_take]; rfl)) ?_; (with_reducible refine (lex_Tokens.calls (⟨#[120, 58, 61, 49]⟩ : ByteArray) t113 t114 t115 _ A1.out).mono ?_); rintro e w9 ⟨v116, rfl, ho0, hb⟩; refine ⟨_, rfl, ?_⟩; have n0_ := Aside0.mk (Kd.R_lower ho0 (below_size (by repeat (first | (with_reducible first | exact HB.out | apply below_alloc | apply pw_below_drewN | apply below_drew1) | exact HB.out)))); have n1_ := Aside0.mk (below_step (by repeat (first | (with_reducible first | exact HB.out | apply below_alloc | apply pw_below_drewN | apply below_drew1) | exact HB.out)) hb); clear HB; have HO117 := n0_; have HB := n1_; clear n0_ n1_; (try clear hb); (try clear hb2); (try clear hk); (try clear hi); (try clear ho0); obtain ⟨Ao10, co10, eo10⟩ := Kd.R_slice HO117.out; subst eo10; have p118 : 0 ≤ (1 : Int) := (by omega); have q118 : 1 < (t113.length : Int) := of_decide_eq_true (by first | (with_reducible assumption) | assumption); obtain ⟨ad118, e118, hx118_0, hx118_1, hx118_2, hx118_3⟩ := at_T32 (Kd.R_reads' HO117.out).2.2 1 p118 q118; cases e118; (try simp only [show (1 : Int).toNat = 1 from rfl, Nat.reduceMul, Nat.reduceEqDiff, Go.Addr.add, ↓reduceIte] at hx118_0); (try simp only [show (1 : Int).toNat = 1 from rfl, Nat.reduceMul, Nat.reduceEqDiff, Go.Addr.add, ↓reduceIte] at hx118_1); (try simp only [show (1 : Int).toNat = 1 from rfl, Nat.reduceMul, Nat.reduceEqDiff, Go.Addr.add, ↓reduceIte] at hx118_2); (try simp only [show (1 : Int).toNat = 1 from rfl, Nat.reduceMul, Nat.reduceEqDiff, Go.Addr.add, ↓reduceIte] at hx118_3); have qi118 : (1 < t113.length) = True := eq_true (by omega); (try rw [show ((1 : Int)).toNat = 1 from rfl] at hx118_0); (try rw [show 1 * 4 = 4 from rfl] at hx118_0); (try rw [show ((1 : Int)).toNat = 1 from rfl] at hx118_1); (try rw [show 1 * 4 = 4 from rfl] at hx118_1); (try rw [show ((1 : Int)).toNat = 1 from rfl] at hx118_2); (try rw [show 1 * 4 = 4 from rfl] at hx118_2); (try rw [show ((1 : Int)).toNat = 1 from rfl] at hx118_3); (try rw [show 1 * 4 = 4 from rfl] at hx118_3); replace p118 := eq_true p118; replace q118 := eq_true q118; have p119 : 0 ≤ (2 : Int) := (by omega); have q119 : 2 < (t113.length : Int) := of_decide_eq_true (by first | (with_reducible assumption) | assumption); obtain ⟨ad119, e119, hx119_0, hx119_1, hx119_2, hx119_3⟩ := at_T32 (Kd.R_reads' HO117.out).2.2 2 p119 q119; obtain rfl : ad118 = ad119 := (by injection e119); (try simp only [show (2 : Int).toNat = 2 from rfl, Nat.reduceMul, Nat.reduceEqDiff, Go.Addr.add, ↓reduceIte] at hx119_0); (try simp only [show (2 : Int).toNat = 2 from rfl, Nat.reduceMul, Nat.reduceEqDiff, Go.Addr.add, ↓reduceIte] at hx119_1); (try simp only [show (2 : Int).toNat = 2 from rfl, Nat.reduceMul, Nat.reduceEqDiff, Go.Addr.add, ↓reduceIte] at hx119_2); (try simp only [show (2 : Int).toNat = 2 from rfl, Nat.reduceMul, Nat.reduceEqDiff, Go.Addr.add, ↓reduceIte] at hx119_3); have qi119 : (2 < t113.length) = True := eq_true (by omega); (try rw [show ((2 : Int)).toNat = 2 from rfl] at hx119_0); (try rw [show 2 * 4 = 8 from rfl] at hx119_0); (try rw [show ((2 : Int)).toNat = 2 from rfl] at hx119_1); (try rw [show 2 * 4 = 8 from rfl] at hx119_1); (try rw [show ((2 : Int)).toNat = 2 from rfl] at hx119_2); (try rw [show 2 * 4 = 8 from rfl] at hx119_2); (try rw [show ((2 : Int)).toNat = 2 from rfl] at hx119_3); (try rw [show 2 * 4 = 8 from rfl] at hx119_3); replace p119 := eq_true p119; replace q119 := eq_true q119) | (go_at_call 12; (with_reducible refine (lex_IsName.calls k (⟨#[120]⟩ : ByteArray) t120 _ A8.out).mono ?_); rintro e w' ⟨rfl, ⟨nd, rfl⟩⟩))
              go_ret
              exact ⟨by first | rfl | (simp [errW_none, errW_some] <;> rfl) | (simp [*, errW_none, errW_some] <;> rfl), by repeat (first | (with_reducible first | exact HB.out | apply below_alloc | apply pw_below_drewN | apply below_drew1) | exact HB.out)⟩
            · rw [if_neg c7] at H
              have c7b0 : (((rd_T32 t113 2).f2) == 1) = false := beq_eq_false_iff_ne.mpr c7
              have c7b1 : (((rd_T32 t113 2).f2) != 1) = true := bne_iff_ne.mpr c7
              obtain rfl := Option.some.inj H
              go_enter Try.func8, Try.ntmps8
              go_wp2_with (first | ((with_reducible refine gate_callee (f := 9) rfl ?_); refine goesL_ (some 5) rfl rfl Try.func9 (by kernel_rfl) rfl #[.string (⟨#[120, 58, 61, 49]⟩ : ByteArray)] rfl (by (try simp only [List.map_toArray, List.map_cons, List.map_nil]); first | done | rfl | (simp only [List.length_drop, List.length_take]; rfl)) ?_; (with_reducible refine (lex_Tokens.calls (⟨#[120, 58, 61, 49]⟩ : ByteArray) t113 t114 t115 _ A1.out).mono ?_); rintro e w11 ⟨v116, rfl, ho0, hb⟩; refine ⟨_, rfl, ?_⟩; have n0_ := Aside0.mk (Kd.R_lower ho0 (below_size (by repeat (first | (with_reducible first | exact HB.out | apply below_alloc | apply pw_below_drewN | apply below_drew1) | exact HB.out)))); have n1_ := Aside0.mk (below_step (by repeat (first | (with_reducible first | exact HB.out | apply below_alloc | apply pw_below_drewN | apply below_drew1) | exact HB.out)) hb); clear HB; have HO117 := n0_; have HB := n1_; clear n0_ n1_; (try clear hb); (try clear hb2); (try clear hk); (try clear hi); (try clear ho0); obtain ⟨Ao12, co12, eo12⟩ := Kd.R_slice HO117.out; subst eo12; have p118 : 0 ≤ (1 : Int) := (by omega); have q118 : 1 < (t113.length : Int) := of_decide_eq_true (by first | (with_reducible assumption) | assumption); obtain ⟨ad118, e118, hx118_0, hx118_1, hx118_2, hx118_3⟩ := at_T32 (Kd.R_reads' HO117.out).2.2 1 p118 q118; cases e118; (try simp only [show (1 : Int).toNat = 1 from rfl, Nat.reduceMul, Nat.reduceEqDiff, Go.Addr.add, ↓reduceIte] at hx118_0); (try simp only [show (1 : Int).toNat = 1 from rfl, Nat.reduceMul, Nat.reduceEqDiff, Go.Addr.add, ↓reduceIte] at hx118_1); (try simp only [show (1 : Int).toNat = 1 from rfl, Nat.reduceMul, Nat.reduceEqDiff, Go.Addr.add, ↓reduceIte] at hx118_2); (try simp only [show (1 : Int).toNat = 1 from rfl, Nat.reduceMul, Nat.reduceEqDiff, Go.Addr.add, ↓reduceIte] at hx118_3); have qi118 : (1 < t113.length) = True := eq_true (by omega); (try rw [show ((1 : Int)).toNat = 1 from rfl] at hx118_0); (try rw [show 1 * 4 = 4 from rfl] at hx118_0); (try rw [show ((1 : Int)).toNat = 1 from rfl] at hx118_1); (try rw [show 1 * 4 = 4 from rfl] at hx118_1); (try rw [show ((1 : Int)).toNat = 1 from rfl] at hx118_2); (try rw [show 1 * 4 = 4 from rfl] at hx118_2); (try rw [show ((1 : Int)).toNat = 1 from rfl] at hx118_3); (try rw [show 1 * 4 = 4 from rfl] at hx118_3); replace p118 := eq_true p118; replace q118 := eq_true q118; have p119 : 0 ≤ (2 : Int) := (by omega); have q119 : 2 < (t113.length : Int) := of_decide_eq_true (by first | (with_reducible assumption) | assumption); obtain ⟨ad119, e119, hx119_0, hx119_1, hx119_2, hx119_3⟩ := at_T32 (Kd.R_reads' HO117.out).2.2 2 p119 q119; obtain rfl : ad118 = ad119 := (by injection e119); (try simp only [show (2 : Int).toNat = 2 from rfl, Nat.reduceMul, Nat.reduceEqDiff, Go.Addr.add, ↓reduceIte] at hx119_0); (try simp only [show (2 : Int).toNat = 2 from rfl, Nat.reduceMul, Nat.reduceEqDiff, Go.Addr.add, ↓reduceIte] at hx119_1); (try simp only [show (2 : Int).toNat = 2 from rfl, Nat.reduceMul, Nat.reduceEqDiff, Go.Addr.add, ↓reduceIte] at hx119_2); (try simp only [show (2 : Int).toNat = 2 from rfl, Nat.reduceMul, Nat.reduceEqDiff, Go.Addr.add, ↓reduceIte] at hx119_3); have qi119 : (2 < t113.length) = True := eq_true (by omega); (try rw [show ((2 : Int)).toNat = 2 from rfl] at hx119_0); (try rw [show 2 * 4 = 8 from rfl] at hx119_0); (try rw [show ((2 : Int)).toNat = 2 from rfl] at hx119_1); (try rw [show 2 * 4 = 8 from rfl] at hx119_1); (try rw [show ((2 : Int)).toNat = 2 from rfl] at hx119_2); (try rw [show 2 * 4 = 8 from rfl] at hx119_2); (try rw [show ((2 : Int)).toNat = 2 from rfl] at hx119_3); (try rw [show 2 * 4 = 8 from rfl] at hx119_3); replace p119 := eq_true p119; replace q119 := eq_true q119))
              go_ret
              exact ⟨by first | rfl | (simp [errW_none, errW_some] <;> rfl) | (simp [*, errW_none, errW_some] <;> rfl), by repeat (first | (with_reducible first | exact HB.out | apply below_alloc | apply pw_below_drewN | apply below_drew1) | exact HB.out)⟩
          · rw [if_neg c6] at H
            exact absurd H (by simp)
        · rw [if_neg c5] at H
          have c5b0 : (((rd_T32 t113 1).f1).toList == ([58, 61] : List UInt8)) = false := beq_eq_false_iff_ne.mpr c5
          have c5b1 : (((rd_T32 t113 1).f1).toList != ([58, 61] : List UInt8)) = true := bne_iff_ne.mpr c5
          obtain rfl := Option.some.inj H
          go_enter Try.func8, Try.ntmps8
          go_wp2_with (first | ((with_reducible refine gate_callee (f := 9) rfl ?_); refine goesL_ (some 5) rfl rfl Try.func9 (by kernel_rfl) rfl #[.string (⟨#[120, 58, 61, 49]⟩ : ByteArray)] rfl (by (try simp only [List.map_toArray, List.map_cons, List.map_nil]); first | done | rfl | (simp only [List.length_drop, List.length_take]; rfl)) ?_; (with_reducible refine (lex_Tokens.calls (⟨#[120, 58, 61, 49]⟩ : ByteArray) t113 t114 t115 _ A1.out).mono ?_); rintro e w13 ⟨v116, rfl, ho0, hb⟩; refine ⟨_, rfl, ?_⟩; have n0_ := Aside0.mk (Kd.R_lower ho0 (below_size (by repeat (first | (with_reducible first | exact HB.out | apply below_alloc | apply pw_below_drewN | apply below_drew1) | exact HB.out)))); have n1_ := Aside0.mk (below_step (by repeat (first | (with_reducible first | exact HB.out | apply below_alloc | apply pw_below_drewN | apply below_drew1) | exact HB.out)) hb); clear HB; have HO117 := n0_; have HB := n1_; clear n0_ n1_; (try clear hb); (try clear hb2); (try clear hk); (try clear hi); (try clear ho0); obtain ⟨Ao14, co14, eo14⟩ := Kd.R_slice HO117.out; subst eo14; have p118 : 0 ≤ (1 : Int) := (by omega); have q118 : 1 < (t113.length : Int) := of_decide_eq_true (by first | (with_reducible assumption) | assumption); obtain ⟨ad118, e118, hx118_0, hx118_1, hx118_2, hx118_3⟩ := at_T32 (Kd.R_reads' HO117.out).2.2 1 p118 q118; cases e118; (try simp only [show (1 : Int).toNat = 1 from rfl, Nat.reduceMul, Nat.reduceEqDiff, Go.Addr.add, ↓reduceIte] at hx118_0); (try simp only [show (1 : Int).toNat = 1 from rfl, Nat.reduceMul, Nat.reduceEqDiff, Go.Addr.add, ↓reduceIte] at hx118_1); (try simp only [show (1 : Int).toNat = 1 from rfl, Nat.reduceMul, Nat.reduceEqDiff, Go.Addr.add, ↓reduceIte] at hx118_2); (try simp only [show (1 : Int).toNat = 1 from rfl, Nat.reduceMul, Nat.reduceEqDiff, Go.Addr.add, ↓reduceIte] at hx118_3); have qi118 : (1 < t113.length) = True := eq_true (by omega); (try rw [show ((1 : Int)).toNat = 1 from rfl] at hx118_0); (try rw [show 1 * 4 = 4 from rfl] at hx118_0); (try rw [show ((1 : Int)).toNat = 1 from rfl] at hx118_1); (try rw [show 1 * 4 = 4 from rfl] at hx118_1); (try rw [show ((1 : Int)).toNat = 1 from rfl] at hx118_2); (try rw [show 1 * 4 = 4 from rfl] at hx118_2); (try rw [show ((1 : Int)).toNat = 1 from rfl] at hx118_3); (try rw [show 1 * 4 = 4 from rfl] at hx118_3); replace p118 := eq_true p118; replace q118 := eq_true q118))
          go_ret
          exact ⟨by first | rfl | (simp [errW_none, errW_some] <;> rfl) | (simp [*, errW_none, errW_some] <;> rfl), by repeat (first | (with_reducible first | exact HB.out | apply below_alloc | apply pw_below_drewN | apply below_drew1) | exact HB.out)⟩
      · rw [if_neg c4] at H
        exact absurd H (by simp)
    · rw [if_neg c3] at H
      have c3b0 : ((t113.length : Int) == 3) = false := beq_eq_false_iff_ne.mpr c3
      have c3b1 : ((t113.length : Int) != 3) = true := bne_iff_ne.mpr c3
      obtain rfl := Option.some.inj H
      go_enter Try.func8, Try.ntmps8
      go_wp2_with (first | ((with_reducible refine gate_callee (f := 9) rfl ?_); refine goesL_ (some 5) rfl rfl Try.func9 (by kernel_rfl) rfl #[.string (⟨#[120, 58, 61, 49]⟩ : ByteArray)] rfl (by (try simp only [List.map_toArray, List.map_cons, List.map_nil]); first | done | rfl | (simp only [List.length_drop, List.length_take]; rfl)) ?_; (with_reducible refine (lex_Tokens.calls (⟨#[120, 58, 61, 49]⟩ : ByteArray) t113 t114 t115 _ A1.out).mono ?_); rintro e w15 ⟨v116, rfl, ho0, hb⟩; refine ⟨_, rfl, ?_⟩; have n0_ := Aside0.mk (Kd.R_lower ho0 (below_size (by repeat (first | (with_reducible first | exact HB.out | apply below_alloc | apply pw_below_drewN | apply below_drew1) | exact HB.out)))); have n1_ := Aside0.mk (below_step (by repeat (first | (with_reducible first | exact HB.out | apply below_alloc | apply pw_below_drewN | apply below_drew1) | exact HB.out)) hb); clear HB; have HO117 := n0_; have HB := n1_; clear n0_ n1_; (try clear hb); (try clear hb2); (try clear hk); (try clear hi); (try clear ho0); obtain ⟨Ao16, co16, eo16⟩ := Kd.R_slice HO117.out; subst eo16))
      go_ret
      exact ⟨by first | rfl | (simp [errW_none, errW_some] <;> rfl) | (simp [*, errW_none, errW_some] <;> rfl), by repeat (first | (with_reducible first | exact HB.out | apply below_alloc | apply pw_below_drewN | apply below_drew1) | exact HB.out)⟩
  · rw [if_neg c2] at H
    have c2b0 : (t114 == 0) = false := beq_eq_false_iff_ne.mpr c2
    have c2b1 : (t114 != 0) = true := bne_iff_ne.mpr c2
    obtain rfl := Option.some.inj H
    go_enter Try.func8, Try.ntmps8
    go_wp2_with (first | ((with_reducible refine gate_callee (f := 9) rfl ?_); refine goesL_ (some 5) rfl rfl Try.func9 (by kernel_rfl) rfl #[.string (⟨#[120, 58, 61, 49]⟩ : ByteArray)] rfl (by (try simp only [List.map_toArray, List.map_cons, List.map_nil]); first | done | rfl | (simp only [List.length_drop, List.length_take]; rfl)) ?_; (with_reducible refine (lex_Tokens.calls (⟨#[120, 58, 61, 49]⟩ : ByteArray) t113 t114 t115 _ A1.out).mono ?_); rintro e w17 ⟨v116, rfl, ho0, hb⟩; refine ⟨_, rfl, ?_⟩; have n0_ := Aside0.mk (Kd.R_lower ho0 (below_size (by repeat (first | (with_reducible first | exact HB.out | apply below_alloc | apply pw_below_drewN | apply below_drew1) | exact HB.out)))); have n1_ := Aside0.mk (below_step (by repeat (first | (with_reducible first | exact HB.out | apply below_alloc | apply pw_below_drewN | apply below_drew1) | exact HB.out)) hb); clear HB; have HO117 := n0_; have HB := n1_; clear n0_ n1_; (try clear hb); (try clear hb2); (try clear hk); (try clear hi); (try clear ho0)))
    go_ret
    exact ⟨by first | rfl | (simp [errW_none, errW_some] <;> rfl) | (simp [*, errW_none, errW_some] <;> rfl), by repeat (first | (with_reducible first | exact HB.out | apply below_alloc | apply pw_below_drewN | apply below_drew1) | exact HB.out)⟩

end Go.Proofs.Ytepofemoodaknaa.Q
