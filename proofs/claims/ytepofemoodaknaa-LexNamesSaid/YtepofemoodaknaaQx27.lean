-- Printed by qprint.py (a program of this session, round the print): not a text of print.sh. Lean checks it.
import Derived.Test.YtepofemoodaknaaQx0
import Derived.Test.YtepofemoodaknaaQx1
import Derived.Test.YtepofemoodaknaaQx12
import Derived.Test.YtepofemoodaknaaQx13
import Derived.Test.YtepofemoodaknaaQx14
namespace Go.Proofs.Ytepofemoodaknaa.Q
open Go.RowKit Go.Proofs.YtepofemoodaknaaW.PrintWords Go.Proofs.YtepofemoodaknaaW.PrintLast Go.Proofs.YtepofemoodaknaaW.PrintMore
attribute [local go_sem] max2_int min2_int max_two min_two max_three min_three max_four min_four   -- for this text's walks alone
set_option linter.unusedVariables false
set_option linter.unusedSimpArgs false

attribute [local go_sem high] eqA32
/-! ### selvagelaw04_LexNames: function 7 -/
def selvagelaw04_LexNames.f (k : Nat) (a0 : ByteArray) : Option (Bool) := (selvagelaw04_awake.f k).bind fun t215 => (if t215 = true then ((lex_Tokens.f a0).bind fun bt216 => (if bt216.2.1 = 0 then (if (bt216.1.length : Int) = 1 then (if 0 < (bt216.1.length : Int) then ((lex_IsName.f k a0).bind fun t222 => (some (t222 == (((rd_T32 bt216.1 0).f0) == 1 && ((((rd_T32 bt216.1 0).f1).toList) == a0.toList && (((rd_T32 bt216.1 0).f2) == 0 && (((rd_T32 bt216.1 0).f3) == 0))))))) else (none)) else ((lex_IsName.f k a0).bind fun t223 => (some (t223 == false)))) else ((lex_IsName.f k a0).bind fun t224 => (some (t224 == false))))) else (some false))
theorem selvagelaw04_LexNames.mono : ∀ a0 k, LeO (selvagelaw04_LexNames.f k a0) (selvagelaw04_LexNames.f (k + 1) a0) := by
  intro a0 k
  unfold selvagelaw04_LexNames.f
  repeat' first
      | (with_reducible exact lex_IsName.mono _ _)
      | (with_reducible exact selvagelaw04_awake.mono _)
      | (with_reducible exact LeO.refl _)
      | (with_reducible exact LeO.none _)
      | (with_reducible refine LeO.ite ?_ ?_)
      | (with_reducible refine LeO.bind ?_ (fun _ => ?_))
      | exact lex_IsName.mono _ _
      | exact selvagelaw04_awake.mono _
      | exact LeO.none _
      | refine LeO.ite ?_ ?_
      | refine LeO.bind ?_ (fun _ => ?_)
set_option maxHeartbeats 8000000 in
set_option maxRecDepth 100000 in
theorem selvagelaw04_LexNames.calls (k : Nat) (a0 : ByteArray) (r : Bool) (w : World) (h : selvagelaw04_LexNames.f k a0 = some r) :
    Calls Try.prog 7 #[.string a0] w fun e w' => e = .returned (.bool r) ∧ Below w.heap.size w w' := by
  have hu32 := Try.underlying32
  have HB := Aside0.mk (Below.refl w.heap.size w)
  have H : ((selvagelaw04_awake.f k).bind fun t215 => (if t215 = true then ((lex_Tokens.f a0).bind fun bt216 => (if bt216.2.1 = 0 then (if (bt216.1.length : Int) = 1 then (if 0 < (bt216.1.length : Int) then ((lex_IsName.f k a0).bind fun t222 => (some (t222 == (((rd_T32 bt216.1 0).f0) == 1 && ((((rd_T32 bt216.1 0).f1).toList) == a0.toList && (((rd_T32 bt216.1 0).f2) == 0 && (((rd_T32 bt216.1 0).f3) == 0))))))) else (none)) else ((lex_IsName.f k a0).bind fun t223 => (some (t223 == false)))) else ((lex_IsName.f k a0).bind fun t224 => (some (t224 == false))))) else (some false))) = some r := h
  clear h
  replace H := Option.bind_eq_some_iff.mp H
  obtain ⟨t215, A20, H⟩ := H
  replace H : (if t215 = true then ((lex_Tokens.f a0).bind fun bt216 => (if bt216.2.1 = 0 then (if (bt216.1.length : Int) = 1 then (if 0 < (bt216.1.length : Int) then ((lex_IsName.f k a0).bind fun t222 => (some (t222 == (((rd_T32 bt216.1 0).f0) == 1 && ((((rd_T32 bt216.1 0).f1).toList) == a0.toList && (((rd_T32 bt216.1 0).f2) == 0 && (((rd_T32 bt216.1 0).f3) == 0))))))) else (none)) else ((lex_IsName.f k a0).bind fun t223 => (some (t223 == false)))) else ((lex_IsName.f k a0).bind fun t224 => (some (t224 == false))))) else (some false)) = some r := H
  have A2 := Aside0.mk A20
  clear A20
  by_cases c3 : t215 = true
  · subst c3
    have H1 : ((lex_Tokens.f a0).bind fun bt216 => (if bt216.2.1 = 0 then (if (bt216.1.length : Int) = 1 then (if 0 < (bt216.1.length : Int) then ((lex_IsName.f k a0).bind fun t222 => (some (t222 == (((rd_T32 bt216.1 0).f0) == 1 && ((((rd_T32 bt216.1 0).f1).toList) == a0.toList && (((rd_T32 bt216.1 0).f2) == 0 && (((rd_T32 bt216.1 0).f3) == 0))))))) else (none)) else ((lex_IsName.f k a0).bind fun t223 => (some (t223 == false)))) else ((lex_IsName.f k a0).bind fun t224 => (some (t224 == false))))) = some r := by rw [if_pos rfl] at H; exact H
    clear H
    have H := H1
    clear H1
    replace H := Option.bind_eq_some_iff.mp H
    obtain ⟨⟨t216, t217, t218⟩, A40, H⟩ := H
    replace H : (if t217 = 0 then (if (t216.length : Int) = 1 then (if 0 < (t216.length : Int) then ((lex_IsName.f k a0).bind fun t222 => (some (t222 == (((rd_T32 t216 0).f0) == 1 && ((((rd_T32 t216 0).f1).toList) == a0.toList && (((rd_T32 t216 0).f2) == 0 && (((rd_T32 t216 0).f3) == 0))))))) else (none)) else ((lex_IsName.f k a0).bind fun t223 => (some (t223 == false)))) else ((lex_IsName.f k a0).bind fun t224 => (some (t224 == false)))) = some r := H
    have A4 := Aside0.mk A40
    clear A40
    by_cases c5 : t217 = 0
    · rw [if_pos c5] at H
      have c5b0 : (t217 == 0) = true := beq_iff_eq.mpr c5
      have c5b1 : (t217 != 0) = false := bne_eq_false_iff_eq.mpr c5
      clear c5
      by_cases c6 : (t216.length : Int) = 1
      · rw [if_pos c6] at H
        have c6b0 : ((t216.length : Int) == 1) = true := beq_iff_eq.mpr c6
        have c6b1 : ((t216.length : Int) != 1) = false := bne_eq_false_iff_eq.mpr c6
        clear c6
        by_cases c7 : 0 < (t216.length : Int)
        · rw [if_pos c7] at H
          have c7b0 : decide (0 < (t216.length : Int)) = true := decide_eq_true c7
          have c7b1 : decide (0 < t216.length) = true := decide_eq_true (by omega)
          clear c7
          replace H := Option.bind_eq_some_iff.mp H
          obtain ⟨t222, A80, H⟩ := H
          replace H : (some (t222 == (((rd_T32 t216 0).f0) == 1 && ((((rd_T32 t216 0).f1).toList) == a0.toList && (((rd_T32 t216 0).f2) == 0 && (((rd_T32 t216 0).f3) == 0)))))) = some r := H
          have A8 := Aside0.mk A80
          clear A80
          obtain rfl := Option.some.inj H
          go_enter Try.func7, Try.ntmps7
          go_wp2_with (first | ((with_reducible refine gate_callee (f := 8) rfl ?_); refine goesL_ (some 7) rfl rfl Try.func8 (by kernel_rfl) rfl #[] rfl (by (try simp only [List.map_toArray, List.map_cons, List.map_nil]); first | done | rfl | (simp only [List.length_drop, List.length_take]; rfl)) ?_; (with_reducible refine (selvagelaw04_awake.calls k  true _ A2.out).mono ?_); rintro e w9 ⟨rfl, hb⟩; refine ⟨_, rfl, ?_⟩; have n0_ := Aside0.mk (below_step (by repeat (first | (with_reducible first | exact HB.out | apply below_alloc | apply pw_below_drewN | apply below_drew1) | exact HB.out)) hb); clear HB; have HB := n0_; clear n0_; (try clear hb); (try clear hb2); (try clear hk); (try clear hi)) | ((with_reducible refine gate_callee (f := 9) rfl ?_); refine goesL_ (some 11) rfl rfl Try.func9 (by kernel_rfl) rfl #[.string a0] rfl (by (try simp only [List.map_toArray, List.map_cons, List.map_nil]); first | done | rfl | (simp only [List.length_drop, List.length_take]; rfl)) ?_; (with_reducible refine (lex_Tokens.calls a0 t216 t217 t218 _ A4.out).mono ?_); rintro e w10 ⟨v219, rfl, ho0, hb⟩; refine ⟨_, rfl, ?_⟩; have n0_ := Aside0.mk (Kd.R_lower ho0 (below_size (by repeat (first | (with_reducible first | exact HB.out | apply below_alloc | apply pw_below_drewN | apply below_drew1) | exact HB.out)))); have n1_ := Aside0.mk (below_step (by repeat (first | (with_reducible first | exact HB.out | apply below_alloc | apply pw_below_drewN | apply below_drew1) | exact HB.out)) hb); clear HB; have HO220 := n0_; have HB := n1_; clear n0_ n1_; (try clear hb); (try clear hb2); (try clear hk); (try clear hi); (try clear ho0); obtain ⟨Ao11, co11, eo11⟩ := Kd.R_slice HO220.out; subst eo11; have p221 : 0 ≤ (0 : Int) := (by omega); have q221 : 0 < (t216.length : Int) := of_decide_eq_true (by first | (with_reducible assumption) | assumption); obtain ⟨ad221, e221, hx221_0, hx221_1, hx221_2, hx221_3⟩ := at_T32 (Kd.R_reads' HO220.out).2.2 0 p221 q221; cases e221; have qi221 : (0 < t216.length) = True := eq_true (by omega); (try rw [show ((0 : Int)).toNat = 0 from rfl] at hx221_0); (try rw [show 0 * 4 = 0 from rfl] at hx221_0); (try rw [Addr.add_zero'] at hx221_0); (try rw [show ((0 : Int)).toNat = 0 from rfl] at hx221_1); (try rw [show 0 * 4 = 0 from rfl] at hx221_1); (try rw [Addr.add_zero'] at hx221_1); (try rw [show ((0 : Int)).toNat = 0 from rfl] at hx221_2); (try rw [show 0 * 4 = 0 from rfl] at hx221_2); (try rw [Addr.add_zero'] at hx221_2); (try rw [show ((0 : Int)).toNat = 0 from rfl] at hx221_3); (try rw [show 0 * 4 = 0 from rfl] at hx221_3); (try rw [Addr.add_zero'] at hx221_3); replace p221 := eq_true p221; replace q221 := eq_true q221) | ((with_reducible refine gate_callee (f := 12) rfl ?_); refine goesL_ (some 31) rfl rfl Try.func12 (by kernel_rfl) rfl #[.string a0] rfl (by (try simp only [List.map_toArray, List.map_cons, List.map_nil]); first | done | rfl | (simp only [List.length_drop, List.length_take]; rfl)) ?_; (with_reducible refine (lex_IsName.calls k a0 t222 _ A8.out).mono ?_); rintro e w' ⟨rfl, ⟨nd, rfl⟩⟩; refine ⟨_, rfl, ?_⟩))
          go_ret
          exact ⟨by first | rfl | (simp [errW_none, errW_some] <;> rfl) | (simp [*, errW_none, errW_some] <;> rfl), by repeat (first | (with_reducible first | exact HB.out | apply below_alloc | apply pw_below_drewN | apply below_drew1) | exact HB.out)⟩
        · rw [if_neg c7] at H
          exact absurd H (by simp)
      · rw [if_neg c6] at H
        have c6b0 : ((t216.length : Int) == 1) = false := beq_eq_false_iff_ne.mpr c6
        have c6b1 : ((t216.length : Int) != 1) = true := bne_iff_ne.mpr c6
        replace H := Option.bind_eq_some_iff.mp H
        obtain ⟨t223, A120, H⟩ := H
        replace H : (some (t223 == false)) = some r := H
        have A12 := Aside0.mk A120
        clear A120
        obtain rfl := Option.some.inj H
        go_enter Try.func7, Try.ntmps7
        go_wp2_with (first | ((with_reducible refine gate_callee (f := 8) rfl ?_); refine goesL_ (some 7) rfl rfl Try.func8 (by kernel_rfl) rfl #[] rfl (by (try simp only [List.map_toArray, List.map_cons, List.map_nil]); first | done | rfl | (simp only [List.length_drop, List.length_take]; rfl)) ?_; (with_reducible refine (selvagelaw04_awake.calls k  true _ A2.out).mono ?_); rintro e w13 ⟨rfl, hb⟩; refine ⟨_, rfl, ?_⟩; have n0_ := Aside0.mk (below_step (by repeat (first | (with_reducible first | exact HB.out | apply below_alloc | apply pw_below_drewN | apply below_drew1) | exact HB.out)) hb); clear HB; have HB := n0_; clear n0_; (try clear hb); (try clear hb2); (try clear hk); (try clear hi)) | ((with_reducible refine gate_callee (f := 9) rfl ?_); refine goesL_ (some 11) rfl rfl Try.func9 (by kernel_rfl) rfl #[.string a0] rfl (by (try simp only [List.map_toArray, List.map_cons, List.map_nil]); first | done | rfl | (simp only [List.length_drop, List.length_take]; rfl)) ?_; (with_reducible refine (lex_Tokens.calls a0 t216 t217 t218 _ A4.out).mono ?_); rintro e w14 ⟨v219, rfl, ho0, hb⟩; refine ⟨_, rfl, ?_⟩; have n0_ := Aside0.mk (Kd.R_lower ho0 (below_size (by repeat (first | (with_reducible first | exact HB.out | apply below_alloc | apply pw_below_drewN | apply below_drew1) | exact HB.out)))); have n1_ := Aside0.mk (below_step (by repeat (first | (with_reducible first | exact HB.out | apply below_alloc | apply pw_below_drewN | apply below_drew1) | exact HB.out)) hb); clear HB; have HO220 := n0_; have HB := n1_; clear n0_ n1_; (try clear hb); (try clear hb2); (try clear hk); (try clear hi); (try clear ho0); obtain ⟨Ao15, co15, eo15⟩ := Kd.R_slice HO220.out; subst eo15) | ((with_reducible refine gate_callee (f := 12) rfl ?_); refine goesL_ (some 31) rfl rfl Try.func12 (by kernel_rfl) rfl #[.string a0] rfl (by (try simp only [List.map_toArray, List.map_cons, List.map_nil]); first | done | rfl | (simp only [List.length_drop, List.length_take]; rfl)) ?_; (with_reducible refine (lex_IsName.calls k a0 t223 _ A12.out).mono ?_); rintro e w' ⟨rfl, ⟨nd, rfl⟩⟩; refine ⟨_, rfl, ?_⟩))
        go_ret
        exact ⟨by first | rfl | (simp [errW_none, errW_some] <;> rfl) | (simp [*, errW_none, errW_some] <;> rfl), by repeat (first | (with_reducible first | exact HB.out | apply below_alloc | apply pw_below_drewN | apply below_drew1) | exact HB.out)⟩
    · rw [if_neg c5] at H
      have c5b0 : (t217 == 0) = false := beq_eq_false_iff_ne.mpr c5
      have c5b1 : (t217 != 0) = true := bne_iff_ne.mpr c5
      replace H := Option.bind_eq_some_iff.mp H
      obtain ⟨t224, A160, H⟩ := H
      replace H : (some (t224 == false)) = some r := H
      have A16 := Aside0.mk A160
      clear A160
      obtain rfl := Option.some.inj H
      go_enter Try.func7, Try.ntmps7
      go_wp2_with (first | ((with_reducible refine gate_callee (f := 8) rfl ?_); refine goesL_ (some 7) rfl rfl Try.func8 (by kernel_rfl) rfl #[] rfl (by (try simp only [List.map_toArray, List.map_cons, List.map_nil]); first | done | rfl | (simp only [List.length_drop, List.length_take]; rfl)) ?_; (with_reducible refine (selvagelaw04_awake.calls k  true _ A2.out).mono ?_); rintro e w17 ⟨rfl, hb⟩; refine ⟨_, rfl, ?_⟩; have n0_ := Aside0.mk (below_step (by repeat (first | (with_reducible first | exact HB.out | apply below_alloc | apply pw_below_drewN | apply below_drew1) | exact HB.out)) hb); clear HB; have HB := n0_; clear n0_; (try clear hb); (try clear hb2); (try clear hk); (try clear hi)) | ((with_reducible refine gate_callee (f := 9) rfl ?_); refine goesL_ (some 11) rfl rfl Try.func9 (by kernel_rfl) rfl #[.string a0] rfl (by (try simp only [List.map_toArray, List.map_cons, List.map_nil]); first | done | rfl | (simp only [List.length_drop, List.length_take]; rfl)) ?_; (with_reducible refine (lex_Tokens.calls a0 t216 t217 t218 _ A4.out).mono ?_); rintro e w18 ⟨v219, rfl, ho0, hb⟩; refine ⟨_, rfl, ?_⟩; have n0_ := Aside0.mk (Kd.R_lower ho0 (below_size (by repeat (first | (with_reducible first | exact HB.out | apply below_alloc | apply pw_below_drewN | apply below_drew1) | exact HB.out)))); have n1_ := Aside0.mk (below_step (by repeat (first | (with_reducible first | exact HB.out | apply below_alloc | apply pw_below_drewN | apply below_drew1) | exact HB.out)) hb); clear HB; have HO220 := n0_; have HB := n1_; clear n0_ n1_; (try clear hb); (try clear hb2); (try clear hk); (try clear hi); (try clear ho0)) | ((with_reducible refine gate_callee (f := 12) rfl ?_); refine goesL_ (some 31) rfl rfl Try.func12 (by kernel_rfl) rfl #[.string a0] rfl (by (try simp only [List.map_toArray, List.map_cons, List.map_nil]); first | done | rfl | (simp only [List.length_drop, List.length_take]; rfl)) ?_; (with_reducible refine (lex_IsName.calls k a0 t224 _ A16.out).mono ?_); rintro e w' ⟨rfl, ⟨nd, rfl⟩⟩; refine ⟨_, rfl, ?_⟩))
      go_ret
      exact ⟨by first | rfl | (simp [errW_none, errW_some] <;> rfl) | (simp [*, errW_none, errW_some] <;> rfl), by repeat (first | (with_reducible first | exact HB.out | apply below_alloc | apply pw_below_drewN | apply below_drew1) | exact HB.out)⟩
  · replace c3 := Bool.eq_false_iff.mpr c3
    subst c3
    have H1 : (some false) = some r := by rw [if_neg (show ¬ (false = true) by decide)] at H; exact H
    clear H
    have H := H1
    clear H1
    obtain rfl := Option.some.inj H
    go_enter Try.func7, Try.ntmps7
    go_wp2_with (first | ((with_reducible refine gate_callee (f := 8) rfl ?_); refine goesL_ (some 7) rfl rfl Try.func8 (by kernel_rfl) rfl #[] rfl (by (try simp only [List.map_toArray, List.map_cons, List.map_nil]); first | done | rfl | (simp only [List.length_drop, List.length_take]; rfl)) ?_; (with_reducible refine (selvagelaw04_awake.calls k  false _ A2.out).mono ?_); rintro e w19 ⟨rfl, hb⟩; refine ⟨_, rfl, ?_⟩; have n0_ := Aside0.mk (below_step (by repeat (first | (with_reducible first | exact HB.out | apply below_alloc | apply pw_below_drewN | apply below_drew1) | exact HB.out)) hb); clear HB; have HB := n0_; clear n0_; (try clear hb); (try clear hb2); (try clear hk); (try clear hi)))
    go_ret
    exact ⟨by first | rfl | (simp [errW_none, errW_some] <;> rfl) | (simp [*, errW_none, errW_some] <;> rfl), by repeat (first | (with_reducible first | exact HB.out | apply below_alloc | apply pw_below_drewN | apply below_drew1) | exact HB.out)⟩

/-- THE ONE PURE STATEMENT of selvagelaw04_LexNames: yours. -/
def selvagelaw04_LexNames.Pure : Prop := ∀ (a0 : ByteArray), a0.size ≤ 140737488351232 → ∃ k, selvagelaw04_LexNames.f k a0 = some true
theorem selvagelaw04_LexNames.walk (P : selvagelaw04_LexNames.Pure) (a0 : ByteArray) (w : World) (w0 : a0.size ≤ 140737488351232) :
    Calls Try.prog 7 #[.string a0] w fun e w' => e = .returned (.bool true) ∧ Below w.heap.size w w' := by
  obtain ⟨k, h⟩ := P a0 w0
  refine (selvagelaw04_LexNames.calls k a0 true w h).mono ?_
  rintro e w' ⟨rfl, hd⟩
  exact ⟨rfl, hd⟩

end Go.Proofs.Ytepofemoodaknaa.Q
