/- Several of my texts in one: YtdmbnlpcfgphpaaPlnA, YtdmbnlpcfgphpaaPlnB, YtdmbnlpcfgphpaaPlnC1, YtdmbnlpcfgphpaaPlnC2, YtdmbnlpcfgphpaaPlnC3, YtdmbnlpcfgphpaaPlnDn, YtdmbnlpcfgphpaaPlnDm, YtdmbnlpcfgphpaaPlnDr, YtdmbnlpcfgphpaaPln. -/
import Derived.Test.YtdmbnlpcfgphpaaQx18
import Derived.Test.YtdmbnlpcfgphpaaQx19
import Derived.Test.YtdmbnlpcfgphpaaQx21
import Derived.Test.YtdmbnlpcfgphpaaAin
namespace Go.Proofs.Ytdmbnlpcfgphpaa.Q
open Go.RowKit Go.Proofs.YtdmbnlpcfgphpaaW.PrintWords Go.Proofs.YtdmbnlpcfgphpaaW.PrintLast Go.Proofs.YtdmbnlpcfgphpaaW.PrintMore
set_option linter.unusedVariables false
set_option linter.unusedSimpArgs false
def ltr (o : Int) : ByteArray := (selvageref10_letters.f 4 o).getD ⟨#[]⟩
theorem not_op {o : Int} (h : ¬ okO o = true) : ∀ c : Int, 1 ≤ c → c ≤ 18 → ¬ o = c := fun c h0 h1 he => h (by subst he; simp [okO, h0, h1])
theorem ltr_none {o : Int} (k : Nat) (h : ¬ okO o = true) : selvageref10_letters.f (k + 4) o = some ⟨#[]⟩ := by
  have e := not_op h
  have b : ∀ c : Int, 1 ≤ c → c ≤ 18 → (o == c) = false := fun c h0 h1 => beq_eq_false_iff_ne.2 (e c h0 h1)
  simp [selvageref10_letters.f, selvageref10_letters.j0, selvageref10_letters.j1, selvageref10_letters.j2, e]
theorem has_none {o : Int} (c : Int) (h : ¬ okO o = true) : selvageref10_Has.f 8 o c = some false := by
  unfold selvageref10_Has.f
  rw [ltr_none 4 h]
  rfl
theorem uses_none {o : Int} (h : ¬ okO o = true) : usD o = false ∧ usA o = false ∧ usB o = false ∧ usK o = false ∧ usT o = false ∧ usP o = false ∧ usR o = false ∧ usM o = false := by
  have e := not_op h
  have r : ∀ x y : Int, 1 ≤ x → y ≤ 18 → (decide (x ≤ o) && decide (o ≤ y)) = false := fun x y h0 h1 => by
    have h' : ¬ (1 ≤ o ∧ o ≤ 18) := by simpa [okO] using h
    simp; omega
  simp [usD, usA, usB, usK, usT, usP, usR, usM, e, r]
theorem ltr_ev (o : Int) : selvageref10_letters.f 4 o = some (ltr o) := by
  by_cases h : okO o = true
  · rcases op_cases h with rfl | rfl | rfl | rfl | rfl | rfl | rfl | rfl | rfl | rfl | rfl | rfl | rfl | rfl | rfl | rfl | rfl | rfl <;> rfl
  · unfold ltr; rw [ltr_none 0 h]; rfl
theorem has_d (o : Int) : selvageref10_Has.f 8 o 100 = some (usD o) := by
  by_cases h : okO o = true
  · rcases op_cases h with rfl | rfl | rfl | rfl | rfl | rfl | rfl | rfl | rfl | rfl | rfl | rfl | rfl | rfl | rfl | rfl | rfl | rfl <;> kernel_rfl
  · rw [has_none _ h]; obtain ⟨h1, h2, h3, h4, h5, h6, h7, h8⟩ := uses_none h; simp only [h1, h2, h3, h4, h5, h6, h7, h8]; try rfl
theorem has_a (o : Int) : selvageref10_Has.f 8 o 97 = some (usA o) := by
  by_cases h : okO o = true
  · rcases op_cases h with rfl | rfl | rfl | rfl | rfl | rfl | rfl | rfl | rfl | rfl | rfl | rfl | rfl | rfl | rfl | rfl | rfl | rfl <;> kernel_rfl
  · rw [has_none _ h]; obtain ⟨h1, h2, h3, h4, h5, h6, h7, h8⟩ := uses_none h; simp only [h1, h2, h3, h4, h5, h6, h7, h8]; try rfl
theorem has_b (o : Int) : selvageref10_Has.f 8 o 98 = some (usB o) := by
  by_cases h : okO o = true
  · rcases op_cases h with rfl | rfl | rfl | rfl | rfl | rfl | rfl | rfl | rfl | rfl | rfl | rfl | rfl | rfl | rfl | rfl | rfl | rfl <;> kernel_rfl
  · rw [has_none _ h]; obtain ⟨h1, h2, h3, h4, h5, h6, h7, h8⟩ := uses_none h; simp only [h1, h2, h3, h4, h5, h6, h7, h8]; try rfl
theorem has_k (o : Int) : selvageref10_Has.f 8 o 107 = some (usK o) := by
  by_cases h : okO o = true
  · rcases op_cases h with rfl | rfl | rfl | rfl | rfl | rfl | rfl | rfl | rfl | rfl | rfl | rfl | rfl | rfl | rfl | rfl | rfl | rfl <;> kernel_rfl
  · rw [has_none _ h]; obtain ⟨h1, h2, h3, h4, h5, h6, h7, h8⟩ := uses_none h; simp only [h1, h2, h3, h4, h5, h6, h7, h8]; try rfl
theorem has_t (o : Int) : selvageref10_Has.f 8 o 116 = some (usT o) := by
  by_cases h : okO o = true
  · rcases op_cases h with rfl | rfl | rfl | rfl | rfl | rfl | rfl | rfl | rfl | rfl | rfl | rfl | rfl | rfl | rfl | rfl | rfl | rfl <;> kernel_rfl
  · rw [has_none _ h]; obtain ⟨h1, h2, h3, h4, h5, h6, h7, h8⟩ := uses_none h; simp only [h1, h2, h3, h4, h5, h6, h7, h8]; try rfl
theorem has_l (o : Int) : selvageref10_Has.f 8 o 108 = some (usP o && !usR o && !usM o) := by
  by_cases h : okO o = true
  · rcases op_cases h with rfl | rfl | rfl | rfl | rfl | rfl | rfl | rfl | rfl | rfl | rfl | rfl | rfl | rfl | rfl | rfl | rfl | rfl <;> kernel_rfl
  · rw [has_none _ h]; obtain ⟨h1, h2, h3, h4, h5, h6, h7, h8⟩ := uses_none h; simp only [h1, h2, h3, h4, h5, h6, h7, h8]; try rfl
theorem has_m (o : Int) : selvageref10_Has.f 8 o 109 = some (usM o) := by
  by_cases h : okO o = true
  · rcases op_cases h with rfl | rfl | rfl | rfl | rfl | rfl | rfl | rfl | rfl | rfl | rfl | rfl | rfl | rfl | rfl | rfl | rfl | rfl <;> kernel_rfl
  · rw [has_none _ h]; obtain ⟨h1, h2, h3, h4, h5, h6, h7, h8⟩ := uses_none h; simp only [h1, h2, h3, h4, h5, h6, h7, h8]; try rfl
theorem has_r (o : Int) : selvageref10_Has.f 8 o 114 = some (usR o) := by
  by_cases h : okO o = true
  · rcases op_cases h with rfl | rfl | rfl | rfl | rfl | rfl | rfl | rfl | rfl | rfl | rfl | rfl | rfl | rfl | rfl | rfl | rfl | rfl <;> kernel_rfl
  · rw [has_none _ h]; obtain ⟨h1, h2, h3, h4, h5, h6, h7, h8⟩ := uses_none h; simp only [h1, h2, h3, h4, h5, h6, h7, h8]; try rfl
def hck (c : Int) : Bool := c == 100 || c == 97 || c == 98 || c == 107 || c == 116 || c == 108 || c == 109 || c == 114
def hsv (o c : Int) : Bool := if c = 100 then usD o else if c = 97 then usA o else if c = 98 then usB o else if c = 107 then usK o else if c = 116 then usT o else if c = 108 then (usP o && !usR o && !usM o) else if c = 109 then usM o else usR o
theorem has_ev (o c : Int) (h : hck c = true) : selvageref10_Has.f 8 o c = some (hsv o c) := by
  simp only [hck, Bool.or_eq_true, beq_iff_eq] at h
  rcases h with ((((((rfl | rfl) | rfl) | rfl) | rfl) | rfl) | rfl) | rfl
  · exact has_d o
  · exact has_a o
  · exact has_b o
  · exact has_k o
  · exact has_t o
  · exact has_l o
  · exact has_m o
  · exact has_r o
theorem has_any (o c : Int) (w : World) (h : hck c = true) : Calls Try.prog 20 #[.int .i64 o, .int .u8 c] w fun e w' => e = .returned (.bool (hsv o c)) ∧ ∃ n, w' = w.drewN n :=
  (selvageref10_Has.calls 8 o c _ w (has_ev o c h)).mono fun e w' h => ⟨h.1, h.2.out⟩
theorem hsv_d (o : Int) : hsv o 100 = usD o := rfl
theorem hsv_a (o : Int) : hsv o 97 = usA o := rfl
theorem hsv_b (o : Int) : hsv o 98 = usB o := rfl
theorem hsv_k (o : Int) : hsv o 107 = usK o := rfl
theorem hsv_t (o : Int) : hsv o 116 = usT o := rfl
theorem hsv_l (o : Int) : hsv o 108 = (usP o && !usR o && !usM o) := rfl
theorem hsv_m (o : Int) : hsv o 109 = usM o := rfl
theorem hsv_r (o : Int) : hsv o 114 = usR o := rfl
theorem ltr_any (o : Int) (w : World) : Calls Try.prog 40 #[.int .i64 o] w fun e w' => e = .returned (.string (ltr o)) ∧ ∃ n, w' = w.drewN n :=
  (selvageref10_letters.calls 4 o _ w (ltr_ev o)).mono fun e w' h => ⟨h.1, h.2.out⟩
theorem field_ev (u : Bool) (n : Int) : selvageref10_field.f u n = some (tmp u n) := by
  unfold selvageref10_field.f tmp
  by_cases h : u = true
  · by_cases h0 : 0 ≤ n <;> by_cases h1 : n < 400 <;> simp [h, h0, h1] <;> omega
  · simp [h]
theorem field_any (u : Bool) (n : Int) (w : World) : Calls Try.prog 46 #[.bool u, .int .i64 n] w fun e w' => e = .returned (.bool (tmp u n)) ∧ ∃ m, w' = w.drewN m :=
  (selvageref10_field.calls u n _ w (field_ev u n)).mono fun e w' h => ⟨h.1, h.2.out⟩
def toOk (x : S40) (i n : Int) : Bool := if usT x.f0 then decide (i + 1 < x.f7) && decide (x.f7 < n) else x.f7 == 0
def pln (x : S40) (i n : Int) (l : List S80) : Bool := okO x.f0 && tmp (usD x.f0) x.f1 && tmp (usA x.f0) x.f2 && tmp (usB x.f0) x.f3 && (usK x.f0 || x.f6 == 0) && toOk x i n && plc x l
theorem ltr_empty {o : Int} (h : okO o = false) : (ltr o).toList.isEmpty = true := by
  have h' : ¬ okO o = true := by rw [h]; decide
  have e : ltr o = ⟨#[]⟩ := by unfold ltr; rw [ltr_none 0 h']; rfl
  rw [e]; simp
theorem ltr_full {o : Int} (h : okO o = true) : (ltr o).toList.isEmpty = false := by
  rcases op_cases h with rfl | rfl | rfl | rfl | rfl | rfl | rfl | rfl | rfl | rfl | rfl | rfl | rfl | rfl | rfl | rfl | rfl | rfl <;> kernel_rfl
/-- From place k on: are these locations there, of the kind that is asked? -/
def lq (l : List S80) (m : Bool) : Nat → Nat → Bool
  | 0, _ => true
  | c + 1, k => decide (k < l.length) && (rd_T80 l (k : Int)).f0 == m && lq l m c (k + 1)
theorem lq_all (l : List S80) (m : Bool) : ∀ (c k : Nat), lq l m c k = (decide (c = 0 ∨ k + c ≤ l.length) && ((l.drop k).take c).all fun x => x.f0 == m)
  | 0, k => by simp [lq]
  | c + 1, k => by
    unfold lq
    rw [lq_all l m c (k + 1)]
    by_cases h : k < l.length
    · have e : rd_T80 l (k : Int) = l[k] := by simp [rd_T80, List.getD, h]
      rw [e, List.drop_eq_getElem_cons h, List.take_succ_cons, List.all_cons, decide_eq_true h]
      by_cases h2 : l[k].f0 = m
      · have e3 : decide (c = 0 ∨ k + 1 + c ≤ l.length) = decide (c + 1 = 0 ∨ k + (c + 1) ≤ l.length) := by
          rw [decide_eq_decide]; omega
        rw [e3]; simp [h2]
      · have h3 : (l[k].f0 == m) = false := beq_eq_false_iff_ne.2 h2
        simp [h3]
    · have e1 : decide (k < l.length) = false := decide_eq_false h
      have e2 : decide (c + 1 = 0 ∨ k + (c + 1) ≤ l.length) = false := decide_eq_false (by omega)
      rw [e1, e2]; rfl
theorem plc_lq {x : S40} {l : List S80} (hP : usP x.f0 = true) (hL : usR x.f0 = true ∨ x.f5 = 0) (hn : 1 ≤ (if usR x.f0 then x.f5 else 1)) (h0 : 0 ≤ x.f4) (h1 : x.f4 < l.length) : plc x l = lq l (usM x.f0) (if usR x.f0 then x.f5 else 1).toNat x.f4.toNat := by
  rw [lq_all]
  unfold plc
  rw [if_pos hP]
  have e1 : (usR x.f0 || x.f5 == 0) = true := by rcases hL with h | h <;> simp [h]
  rw [e1, Bool.true_and]
  dsimp only
  generalize (if usR x.f0 then x.f5 else 1) = m at hn ⊢
  have e2 : (decide (1 ≤ m) && decide (m ≤ (l.length : Int)) && decide (0 ≤ x.f4) && decide (x.f4 ≤ (l.length : Int) - m)) = decide (m.toNat = 0 ∨ x.f4.toNat + m.toNat ≤ l.length) := by
    by_cases hm : x.f4 ≤ (l.length : Int) - m
    · rw [decide_eq_true (show 1 ≤ m from hn), decide_eq_true (show m ≤ (l.length : Int) by omega), decide_eq_true h0, decide_eq_true hm, decide_eq_true (show m.toNat = 0 ∨ x.f4.toNat + m.toNat ≤ l.length by omega)]; rfl
    · rw [decide_eq_false hm, decide_eq_false (show ¬ (m.toNat = 0 ∨ x.f4.toNat + m.toNat ≤ l.length) by omega)]; simp
  rw [e2]
theorem pln_f1 {x : S40} {i n : Int} {l : List S80} (h : okO x.f0 = false) : pln x i n l = false := by simp [pln, h]
theorem pln_f2 {x : S40} {i n : Int} {l : List S80} (h : tmp (usD x.f0) x.f1 = false) : pln x i n l = false := by simp [pln, h]
theorem pln_f3 {x : S40} {i n : Int} {l : List S80} (h : tmp (usA x.f0) x.f2 = false) : pln x i n l = false := by simp [pln, h]
theorem pln_f4 {x : S40} {i n : Int} {l : List S80} (h : tmp (usB x.f0) x.f3 = false) : pln x i n l = false := by simp [pln, h]
theorem pln_f5 {x : S40} {i n : Int} {l : List S80} (h : usK x.f0 = false) (h' : (x.f6 != 0) = true) : pln x i n l = false := by
  have : (x.f6 == 0) = false := by simpa using h'
  simp [pln, h, this]
theorem pln_f6 {x : S40} {i n : Int} {l : List S80} (h : toOk x i n = false) : pln x i n l = false := by simp [pln, h]
theorem pln_f7 {x : S40} {i n : Int} {l : List S80} (h : plc x l = false) : pln x i n l = false := by simp [pln, h]
theorem pln_t {x : S40} {i n : Int} {l : List S80} (h1 : okO x.f0 = true) (h2 : tmp (usD x.f0) x.f1 = true) (h3 : tmp (usA x.f0) x.f2 = true) (h4 : tmp (usB x.f0) x.f3 = true) (h5 : (usK x.f0 || x.f6 == 0) = true) (h6 : toOk x i n = true) : pln x i n l = plc x l := by simp [pln, h1, h2, h3, h4, h5, h6]
end Go.Proofs.Ytdmbnlpcfgphpaa.Q
namespace Go.Proofs.Ytdmbnlpcfgphpaa.Q
open Go.RowKit Go.Proofs.YtdmbnlpcfgphpaaW.PrintWords Go.Proofs.YtdmbnlpcfgphpaaW.PrintLast Go.Proofs.YtdmbnlpcfgphpaaW.PrintMore
set_option linter.unusedVariables false
set_option linter.unusedSimpArgs false
set_option maxHeartbeats 4000000 in
set_option maxRecDepth 100000 in
theorem plain_1 (x : S40) (i n : Int) (Al : Option Addr) (cl : Nat) (l : List S80) (w : World) (h1 : okO x.f0 = false) :
    Calls Try.prog 37 #[aIns x, .int .i64 i, .int .i64 n, .slice Al l.length cl] w fun e w' => e = .returned (.bool false) ∧ Below w.heap.size w w' := by
  have c0 := ltr_empty h1
  (((have KX : Aside0 ((w.alloc (.cells #[.int .i64 x.f0, .int .i64 x.f1, .int .i64 x.f2, .int .i64 x.f3, .int .i64 x.f4, .int .i64 x.f5, .int .i64 x.f6, .int .i64 x.f7] 40)).heap[w.heap.size]? = some (.cells #[.int .i64 x.f0, .int .i64 x.f1, .int .i64 x.f2, .int .i64 x.f3, .int .i64 x.f4, .int .i64 x.f5, .int .i64 x.f6, .int .i64 x.f7] 40 (0, 0))) := ⟨blk_new _ _⟩); (have HB : Aside0 (Below w.heap.size w (w.alloc (.cells #[.int .i64 x.f0, .int .i64 x.f1, .int .i64 x.f2, .int .i64 x.f3, .int .i64 x.f4, .int .i64 x.f5, .int .i64 x.f6, .int .i64 x.f7] 40))) := ⟨below_alloc (Below.refl _ _) _⟩); unfold aIns; go_enter Try.func37, Try.ntmps37; go_wp2_with fail; generalize hW1 : (w.alloc (.cells #[.int .i64 x.f0, .int .i64 x.f1, .int .i64 x.f2, .int .i64 x.f3, .int .i64 x.f4, .int .i64 x.f5, .int .i64 x.f6, .int .i64 x.f7] 40)) = W1 at KX HB ⊢; clear hW1; generalize w.heap.size = bx at KX ⊢; have x0 := blk_cell KX.out 0; have u1 := hsv_d x.f0; have u2 := hsv_a x.f0; have u3 := hsv_b x.f0; have u4 := hsv_k x.f0; have u5 := hsv_t x.f0; have u6 := hsv_l x.f0; have u7 := hsv_m x.f0; have u8 := hsv_r x.f0; have x1 := blk_cell KX.out 1; have x2 := blk_cell KX.out 2; have x3 := blk_cell KX.out 3; have x4 := blk_cell KX.out 4; have x5 := blk_cell KX.out 5; have x6 := blk_cell KX.out 6; have x7 := blk_cell KX.out 7))
  (go_quiet ((first | (go_at_call 40; with_reducible exact Calls.quiet_of (ltr_any _ _)) | (go_at_call 46; with_reducible exact Calls.quiet_of (field_any _ _ _)) | (go_at_call 20; (with_reducible refine Calls.quiet_of (has_any _ _ _ ?hck)); (case hck => rfl)))))
  go_wp2
  ((go_ret; exact ⟨rfl, by first | exact pw_below_drewN HB.out _ | exact pw_below_drewN (pw_below_drewN HB.out _) _ | exact pw_below_drewN (pw_below_drewN (pw_below_drewN HB.out _) _) _⟩))
set_option maxHeartbeats 4000000 in
set_option maxRecDepth 100000 in
theorem plain_2 (x : S40) (i n : Int) (Al : Option Addr) (cl : Nat) (l : List S80) (w : World) (h1 : okO x.f0 = true) (h2 : tmp (usD x.f0) x.f1 = false) :
    Calls Try.prog 37 #[aIns x, .int .i64 i, .int .i64 n, .slice Al l.length cl] w fun e w' => e = .returned (.bool false) ∧ Below w.heap.size w w' := by
  have c0 := ltr_full h1
  (((have KX : Aside0 ((w.alloc (.cells #[.int .i64 x.f0, .int .i64 x.f1, .int .i64 x.f2, .int .i64 x.f3, .int .i64 x.f4, .int .i64 x.f5, .int .i64 x.f6, .int .i64 x.f7] 40)).heap[w.heap.size]? = some (.cells #[.int .i64 x.f0, .int .i64 x.f1, .int .i64 x.f2, .int .i64 x.f3, .int .i64 x.f4, .int .i64 x.f5, .int .i64 x.f6, .int .i64 x.f7] 40 (0, 0))) := ⟨blk_new _ _⟩); (have HB : Aside0 (Below w.heap.size w (w.alloc (.cells #[.int .i64 x.f0, .int .i64 x.f1, .int .i64 x.f2, .int .i64 x.f3, .int .i64 x.f4, .int .i64 x.f5, .int .i64 x.f6, .int .i64 x.f7] 40))) := ⟨below_alloc (Below.refl _ _) _⟩); unfold aIns; go_enter Try.func37, Try.ntmps37; go_wp2_with fail; generalize hW1 : (w.alloc (.cells #[.int .i64 x.f0, .int .i64 x.f1, .int .i64 x.f2, .int .i64 x.f3, .int .i64 x.f4, .int .i64 x.f5, .int .i64 x.f6, .int .i64 x.f7] 40)) = W1 at KX HB ⊢; clear hW1; generalize w.heap.size = bx at KX ⊢; have x0 := blk_cell KX.out 0; have u1 := hsv_d x.f0; have u2 := hsv_a x.f0; have u3 := hsv_b x.f0; have u4 := hsv_k x.f0; have u5 := hsv_t x.f0; have u6 := hsv_l x.f0; have u7 := hsv_m x.f0; have u8 := hsv_r x.f0; have x1 := blk_cell KX.out 1; have x2 := blk_cell KX.out 2; have x3 := blk_cell KX.out 3; have x4 := blk_cell KX.out 4; have x5 := blk_cell KX.out 5; have x6 := blk_cell KX.out 6; have x7 := blk_cell KX.out 7))
  (go_quiet ((first | (go_at_call 40; with_reducible exact Calls.quiet_of (ltr_any _ _)) | (go_at_call 46; with_reducible exact Calls.quiet_of (field_any _ _ _)) | (go_at_call 20; (with_reducible refine Calls.quiet_of (has_any _ _ _ ?hck)); (case hck => rfl)))))
  go_wp2
  ((go_ret; exact ⟨rfl, by first | exact pw_below_drewN HB.out _ | exact pw_below_drewN (pw_below_drewN HB.out _) _ | exact pw_below_drewN (pw_below_drewN (pw_below_drewN HB.out _) _) _⟩))
set_option maxHeartbeats 4000000 in
set_option maxRecDepth 100000 in
theorem plain_3 (x : S40) (i n : Int) (Al : Option Addr) (cl : Nat) (l : List S80) (w : World) (h1 : okO x.f0 = true) (h2 : tmp (usD x.f0) x.f1 = true) (h3 : tmp (usA x.f0) x.f2 = false) :
    Calls Try.prog 37 #[aIns x, .int .i64 i, .int .i64 n, .slice Al l.length cl] w fun e w' => e = .returned (.bool false) ∧ Below w.heap.size w w' := by
  have c0 := ltr_full h1
  (((have KX : Aside0 ((w.alloc (.cells #[.int .i64 x.f0, .int .i64 x.f1, .int .i64 x.f2, .int .i64 x.f3, .int .i64 x.f4, .int .i64 x.f5, .int .i64 x.f6, .int .i64 x.f7] 40)).heap[w.heap.size]? = some (.cells #[.int .i64 x.f0, .int .i64 x.f1, .int .i64 x.f2, .int .i64 x.f3, .int .i64 x.f4, .int .i64 x.f5, .int .i64 x.f6, .int .i64 x.f7] 40 (0, 0))) := ⟨blk_new _ _⟩); (have HB : Aside0 (Below w.heap.size w (w.alloc (.cells #[.int .i64 x.f0, .int .i64 x.f1, .int .i64 x.f2, .int .i64 x.f3, .int .i64 x.f4, .int .i64 x.f5, .int .i64 x.f6, .int .i64 x.f7] 40))) := ⟨below_alloc (Below.refl _ _) _⟩); unfold aIns; go_enter Try.func37, Try.ntmps37; go_wp2_with fail; generalize hW1 : (w.alloc (.cells #[.int .i64 x.f0, .int .i64 x.f1, .int .i64 x.f2, .int .i64 x.f3, .int .i64 x.f4, .int .i64 x.f5, .int .i64 x.f6, .int .i64 x.f7] 40)) = W1 at KX HB ⊢; clear hW1; generalize w.heap.size = bx at KX ⊢; have x0 := blk_cell KX.out 0; have u1 := hsv_d x.f0; have u2 := hsv_a x.f0; have u3 := hsv_b x.f0; have u4 := hsv_k x.f0; have u5 := hsv_t x.f0; have u6 := hsv_l x.f0; have u7 := hsv_m x.f0; have u8 := hsv_r x.f0; have x1 := blk_cell KX.out 1; have x2 := blk_cell KX.out 2; have x3 := blk_cell KX.out 3; have x4 := blk_cell KX.out 4; have x5 := blk_cell KX.out 5; have x6 := blk_cell KX.out 6; have x7 := blk_cell KX.out 7))
  (go_quiet ((first | (go_at_call 40; with_reducible exact Calls.quiet_of (ltr_any _ _)) | (go_at_call 46; with_reducible exact Calls.quiet_of (field_any _ _ _)) | (go_at_call 20; (with_reducible refine Calls.quiet_of (has_any _ _ _ ?hck)); (case hck => rfl)))))
  go_wp2
  ((go_ret; exact ⟨rfl, by first | exact pw_below_drewN HB.out _ | exact pw_below_drewN (pw_below_drewN HB.out _) _ | exact pw_below_drewN (pw_below_drewN (pw_below_drewN HB.out _) _) _⟩))
set_option maxHeartbeats 4000000 in
set_option maxRecDepth 100000 in
theorem plain_4 (x : S40) (i n : Int) (Al : Option Addr) (cl : Nat) (l : List S80) (w : World) (h1 : okO x.f0 = true) (h2 : tmp (usD x.f0) x.f1 = true) (h3 : tmp (usA x.f0) x.f2 = true) (h4 : tmp (usB x.f0) x.f3 = false) :
    Calls Try.prog 37 #[aIns x, .int .i64 i, .int .i64 n, .slice Al l.length cl] w fun e w' => e = .returned (.bool false) ∧ Below w.heap.size w w' := by
  have c0 := ltr_full h1
  (((have KX : Aside0 ((w.alloc (.cells #[.int .i64 x.f0, .int .i64 x.f1, .int .i64 x.f2, .int .i64 x.f3, .int .i64 x.f4, .int .i64 x.f5, .int .i64 x.f6, .int .i64 x.f7] 40)).heap[w.heap.size]? = some (.cells #[.int .i64 x.f0, .int .i64 x.f1, .int .i64 x.f2, .int .i64 x.f3, .int .i64 x.f4, .int .i64 x.f5, .int .i64 x.f6, .int .i64 x.f7] 40 (0, 0))) := ⟨blk_new _ _⟩); (have HB : Aside0 (Below w.heap.size w (w.alloc (.cells #[.int .i64 x.f0, .int .i64 x.f1, .int .i64 x.f2, .int .i64 x.f3, .int .i64 x.f4, .int .i64 x.f5, .int .i64 x.f6, .int .i64 x.f7] 40))) := ⟨below_alloc (Below.refl _ _) _⟩); unfold aIns; go_enter Try.func37, Try.ntmps37; go_wp2_with fail; generalize hW1 : (w.alloc (.cells #[.int .i64 x.f0, .int .i64 x.f1, .int .i64 x.f2, .int .i64 x.f3, .int .i64 x.f4, .int .i64 x.f5, .int .i64 x.f6, .int .i64 x.f7] 40)) = W1 at KX HB ⊢; clear hW1; generalize w.heap.size = bx at KX ⊢; have x0 := blk_cell KX.out 0; have u1 := hsv_d x.f0; have u2 := hsv_a x.f0; have u3 := hsv_b x.f0; have u4 := hsv_k x.f0; have u5 := hsv_t x.f0; have u6 := hsv_l x.f0; have u7 := hsv_m x.f0; have u8 := hsv_r x.f0; have x1 := blk_cell KX.out 1; have x2 := blk_cell KX.out 2; have x3 := blk_cell KX.out 3; have x4 := blk_cell KX.out 4; have x5 := blk_cell KX.out 5; have x6 := blk_cell KX.out 6; have x7 := blk_cell KX.out 7))
  (go_quiet ((first | (go_at_call 40; with_reducible exact Calls.quiet_of (ltr_any _ _)) | (go_at_call 46; with_reducible exact Calls.quiet_of (field_any _ _ _)) | (go_at_call 20; (with_reducible refine Calls.quiet_of (has_any _ _ _ ?hck)); (case hck => rfl)))))
  go_wp2
  ((go_ret; exact ⟨rfl, by first | exact pw_below_drewN HB.out _ | exact pw_below_drewN (pw_below_drewN HB.out _) _ | exact pw_below_drewN (pw_below_drewN (pw_below_drewN HB.out _) _) _⟩))
set_option maxHeartbeats 4000000 in
set_option maxRecDepth 100000 in
theorem plain_5 (x : S40) (i n : Int) (Al : Option Addr) (cl : Nat) (l : List S80) (w : World) (h1 : okO x.f0 = true) (h2 : tmp (usD x.f0) x.f1 = true) (h3 : tmp (usA x.f0) x.f2 = true) (h4 : tmp (usB x.f0) x.f3 = true) (h5 : usK x.f0 = false) (h5' : (x.f6 != 0) = true) :
    Calls Try.prog 37 #[aIns x, .int .i64 i, .int .i64 n, .slice Al l.length cl] w fun e w' => e = .returned (.bool false) ∧ Below w.heap.size w w' := by
  have c0 := ltr_full h1
  (((have KX : Aside0 ((w.alloc (.cells #[.int .i64 x.f0, .int .i64 x.f1, .int .i64 x.f2, .int .i64 x.f3, .int .i64 x.f4, .int .i64 x.f5, .int .i64 x.f6, .int .i64 x.f7] 40)).heap[w.heap.size]? = some (.cells #[.int .i64 x.f0, .int .i64 x.f1, .int .i64 x.f2, .int .i64 x.f3, .int .i64 x.f4, .int .i64 x.f5, .int .i64 x.f6, .int .i64 x.f7] 40 (0, 0))) := ⟨blk_new _ _⟩); (have HB : Aside0 (Below w.heap.size w (w.alloc (.cells #[.int .i64 x.f0, .int .i64 x.f1, .int .i64 x.f2, .int .i64 x.f3, .int .i64 x.f4, .int .i64 x.f5, .int .i64 x.f6, .int .i64 x.f7] 40))) := ⟨below_alloc (Below.refl _ _) _⟩); unfold aIns; go_enter Try.func37, Try.ntmps37; go_wp2_with fail; generalize hW1 : (w.alloc (.cells #[.int .i64 x.f0, .int .i64 x.f1, .int .i64 x.f2, .int .i64 x.f3, .int .i64 x.f4, .int .i64 x.f5, .int .i64 x.f6, .int .i64 x.f7] 40)) = W1 at KX HB ⊢; clear hW1; generalize w.heap.size = bx at KX ⊢; have x0 := blk_cell KX.out 0; have u1 := hsv_d x.f0; have u2 := hsv_a x.f0; have u3 := hsv_b x.f0; have u4 := hsv_k x.f0; have u5 := hsv_t x.f0; have u6 := hsv_l x.f0; have u7 := hsv_m x.f0; have u8 := hsv_r x.f0; have x1 := blk_cell KX.out 1; have x2 := blk_cell KX.out 2; have x3 := blk_cell KX.out 3; have x4 := blk_cell KX.out 4; have x5 := blk_cell KX.out 5; have x6 := blk_cell KX.out 6; have x7 := blk_cell KX.out 7))
  (go_quiet ((first | (go_at_call 40; with_reducible exact Calls.quiet_of (ltr_any _ _)) | (go_at_call 46; with_reducible exact Calls.quiet_of (field_any _ _ _)) | (go_at_call 20; (with_reducible refine Calls.quiet_of (has_any _ _ _ ?hck)); (case hck => rfl)))))
  go_wp2
  ((go_ret; exact ⟨rfl, by first | exact pw_below_drewN HB.out _ | exact pw_below_drewN (pw_below_drewN HB.out _) _ | exact pw_below_drewN (pw_below_drewN (pw_below_drewN HB.out _) _) _⟩))
end Go.Proofs.Ytdmbnlpcfgphpaa.Q
namespace Go.Proofs.Ytdmbnlpcfgphpaa.Q
open Go.RowKit Go.Proofs.YtdmbnlpcfgphpaaW.PrintWords Go.Proofs.YtdmbnlpcfgphpaaW.PrintLast Go.Proofs.YtdmbnlpcfgphpaaW.PrintMore
set_option linter.unusedVariables false
set_option linter.unusedSimpArgs false
set_option maxHeartbeats 4000000 in
set_option maxRecDepth 100000 in
theorem plain_6a (x : S40) (i n : Int) (Al : Option Addr) (cl : Nat) (l : List S80) (w : World) (h1 : okO x.f0 = true) (h2 : tmp (usD x.f0) x.f1 = true) (h3 : tmp (usA x.f0) x.f2 = true) (h4 : tmp (usB x.f0) x.f3 = true) (h5 : (x.f6 != 0) = false ∨ ((x.f6 != 0) = true ∧ usK x.f0 = true)) (hi0 : 0 ≤ i) (hi1 : i ≤ 1000) (hn0 : 0 ≤ n) (hn1 : n ≤ 1000) (ht : usT x.f0 = true) (hb : x.f7 ≤ i + 1) :
    Calls Try.prog 37 #[aIns x, .int .i64 i, .int .i64 n, .slice Al l.length cl] w fun e w' => e = .returned (.bool false) ∧ Below w.heap.size w w' := by
  have c0 := ltr_full h1
  have w1 : wrap64 (i + 1) = i + 1 := wrap_of (by omega) (by omega)
  have w2 : wrap64 (n - 1) = n - 1 := wrap_of (by omega) (by omega)
  have d1 : decide (x.f7 ≤ i + 1) = true := decide_eq_true hb
  clear hb
  rcases h5 with k9 | ⟨k9, k8⟩
  all_goals
    (((have KX : Aside0 ((w.alloc (.cells #[.int .i64 x.f0, .int .i64 x.f1, .int .i64 x.f2, .int .i64 x.f3, .int .i64 x.f4, .int .i64 x.f5, .int .i64 x.f6, .int .i64 x.f7] 40)).heap[w.heap.size]? = some (.cells #[.int .i64 x.f0, .int .i64 x.f1, .int .i64 x.f2, .int .i64 x.f3, .int .i64 x.f4, .int .i64 x.f5, .int .i64 x.f6, .int .i64 x.f7] 40 (0, 0))) := ⟨blk_new _ _⟩); (have HB : Aside0 (Below w.heap.size w (w.alloc (.cells #[.int .i64 x.f0, .int .i64 x.f1, .int .i64 x.f2, .int .i64 x.f3, .int .i64 x.f4, .int .i64 x.f5, .int .i64 x.f6, .int .i64 x.f7] 40))) := ⟨below_alloc (Below.refl _ _) _⟩); unfold aIns; go_enter Try.func37, Try.ntmps37; go_wp2_with fail; generalize hW1 : (w.alloc (.cells #[.int .i64 x.f0, .int .i64 x.f1, .int .i64 x.f2, .int .i64 x.f3, .int .i64 x.f4, .int .i64 x.f5, .int .i64 x.f6, .int .i64 x.f7] 40)) = W1 at KX HB ⊢; clear hW1; generalize w.heap.size = bx at KX ⊢; have x0 := blk_cell KX.out 0; have u1 := hsv_d x.f0; have u2 := hsv_a x.f0; have u3 := hsv_b x.f0; have u4 := hsv_k x.f0; have u5 := hsv_t x.f0; have u6 := hsv_l x.f0; have u7 := hsv_m x.f0; have u8 := hsv_r x.f0; have x1 := blk_cell KX.out 1; have x2 := blk_cell KX.out 2; have x3 := blk_cell KX.out 3; have x4 := blk_cell KX.out 4; have x5 := blk_cell KX.out 5; have x6 := blk_cell KX.out 6; have x7 := blk_cell KX.out 7))
    (go_quiet ((first | (go_at_call 40; with_reducible exact Calls.quiet_of (ltr_any _ _)) | (go_at_call 46; with_reducible exact Calls.quiet_of (field_any _ _ _)) | (go_at_call 20; (with_reducible refine Calls.quiet_of (has_any _ _ _ ?hck)); (case hck => rfl)))))
    (go_wp2_with (go_at_call 20; refine (has_any _ 116 _ rfl).mono ?_; rintro e w' ⟨rfl, ⟨nd, rfl⟩⟩))
    ((go_ret; exact ⟨rfl, by first | exact pw_below_drewN HB.out _ | exact pw_below_drewN (pw_below_drewN HB.out _) _ | exact pw_below_drewN (pw_below_drewN (pw_below_drewN HB.out _) _) _⟩))
set_option maxHeartbeats 4000000 in
set_option maxRecDepth 100000 in
theorem plain_7a (x : S40) (i n : Int) (Al : Option Addr) (cl : Nat) (l : List S80) (w : World) (h1 : okO x.f0 = true) (h2 : tmp (usD x.f0) x.f1 = true) (h3 : tmp (usA x.f0) x.f2 = true) (h4 : tmp (usB x.f0) x.f3 = true) (h5 : (x.f6 != 0) = false ∨ ((x.f6 != 0) = true ∧ usK x.f0 = true)) (hi0 : 0 ≤ i) (hi1 : i ≤ 1000) (hn0 : 0 ≤ n) (hn1 : n ≤ 1000) (h6 : (usT x.f0 = true ∧ i + 1 < x.f7 ∧ x.f7 < n) ∨ (usT x.f0 = false ∧ x.f7 = 0)) (hr : usR x.f0 = false) (hb : x.f5 ≠ 0) :
    Calls Try.prog 37 #[aIns x, .int .i64 i, .int .i64 n, .slice Al l.length cl] w fun e w' => e = .returned (.bool false) ∧ Below w.heap.size w w' := by
  have c0 := ltr_full h1
  have w1 : wrap64 (i + 1) = i + 1 := wrap_of (by omega) (by omega)
  have w2 : wrap64 (n - 1) = n - 1 := wrap_of (by omega) (by omega)
  have d1 : (x.f5 != 0) = true := by simpa using hb
  clear hb
  have h6' : (usT x.f0 = true ∧ decide (x.f7 ≤ i + 1) = false ∧ decide (n - 1 < x.f7) = false) ∨ (usT x.f0 = false ∧ (x.f7 != 0) = false) := by
    rcases h6 with ⟨a, b, c⟩ | ⟨a, b⟩
    · exact .inl ⟨a, decide_eq_false (by omega), decide_eq_false (by omega)⟩
    · exact .inr ⟨a, by simp [b]⟩
  clear h6
  rcases h5 with k9 | ⟨k9, k8⟩ <;> rcases h6' with ⟨t1, t2, t3⟩ | ⟨t1, t2⟩
  all_goals
    (((have KX : Aside0 ((w.alloc (.cells #[.int .i64 x.f0, .int .i64 x.f1, .int .i64 x.f2, .int .i64 x.f3, .int .i64 x.f4, .int .i64 x.f5, .int .i64 x.f6, .int .i64 x.f7] 40)).heap[w.heap.size]? = some (.cells #[.int .i64 x.f0, .int .i64 x.f1, .int .i64 x.f2, .int .i64 x.f3, .int .i64 x.f4, .int .i64 x.f5, .int .i64 x.f6, .int .i64 x.f7] 40 (0, 0))) := ⟨blk_new _ _⟩); (have HB : Aside0 (Below w.heap.size w (w.alloc (.cells #[.int .i64 x.f0, .int .i64 x.f1, .int .i64 x.f2, .int .i64 x.f3, .int .i64 x.f4, .int .i64 x.f5, .int .i64 x.f6, .int .i64 x.f7] 40))) := ⟨below_alloc (Below.refl _ _) _⟩); unfold aIns; go_enter Try.func37, Try.ntmps37; go_wp2_with fail; generalize hW1 : (w.alloc (.cells #[.int .i64 x.f0, .int .i64 x.f1, .int .i64 x.f2, .int .i64 x.f3, .int .i64 x.f4, .int .i64 x.f5, .int .i64 x.f6, .int .i64 x.f7] 40)) = W1 at KX HB ⊢; clear hW1; generalize w.heap.size = bx at KX ⊢; have x0 := blk_cell KX.out 0; have u1 := hsv_d x.f0; have u2 := hsv_a x.f0; have u3 := hsv_b x.f0; have u4 := hsv_k x.f0; have u5 := hsv_t x.f0; have u6 := hsv_l x.f0; have u7 := hsv_m x.f0; have u8 := hsv_r x.f0; have x1 := blk_cell KX.out 1; have x2 := blk_cell KX.out 2; have x3 := blk_cell KX.out 3; have x4 := blk_cell KX.out 4; have x5 := blk_cell KX.out 5; have x6 := blk_cell KX.out 6; have x7 := blk_cell KX.out 7))
    (go_quiet ((first | (go_at_call 40; with_reducible exact Calls.quiet_of (ltr_any _ _)) | (go_at_call 46; with_reducible exact Calls.quiet_of (field_any _ _ _)) | (go_at_call 20; (with_reducible refine Calls.quiet_of (has_any _ _ _ ?hck)); (case hck => rfl)))))
    (go_wp2_with (go_at_call 20; refine (has_any _ 116 _ rfl).mono ?_; rintro e w' ⟨rfl, ⟨nd, rfl⟩⟩))
    ((generalize hW2 : W1.drewN (nq + nd) = W2; have KX2 : Aside0 (W2.heap[bx]? = some (.cells #[.int .i64 x.f0, .int .i64 x.f1, .int .i64 x.f2, .int .i64 x.f3, .int .i64 x.f4, .int .i64 x.f5, .int .i64 x.f6, .int .i64 x.f7] 40 (0, 0))) := ⟨by rw [← hW2]; exact blk_drewN KX.out _⟩; have HB2 : Aside0 (Below w.heap.size w W2) := ⟨by rw [← hW2]; exact pw_below_drewN HB.out _⟩; clear hW2 x0 x1 x2 x3 x4 x5 x6 x7 KX HB; have x0 := blk_cell KX2.out 0; have x1 := blk_cell KX2.out 1; have x2 := blk_cell KX2.out 2; have x3 := blk_cell KX2.out 3; have x4 := blk_cell KX2.out 4; have x5 := blk_cell KX2.out 5; have x6 := blk_cell KX2.out 6; have x7 := blk_cell KX2.out 7))
    (go_quiet ((first | (go_at_call 40; with_reducible exact Calls.quiet_of (ltr_any _ _)) | (go_at_call 46; with_reducible exact Calls.quiet_of (field_any _ _ _)) | (go_at_call 20; (with_reducible refine Calls.quiet_of (has_any _ _ _ ?hck)); (case hck => rfl)))))
    go_wp2
    ((go_ret; exact ⟨by first | exact rfl | simp, by first | exact pw_below_drewN HB2.out _ | exact pw_below_drewN (pw_below_drewN HB2.out _) _⟩))
set_option maxHeartbeats 4000000 in
set_option maxRecDepth 100000 in
theorem plain_8 (x : S40) (i n : Int) (Al : Option Addr) (cl : Nat) (l : List S80) (w : World) (h1 : okO x.f0 = true) (h2 : tmp (usD x.f0) x.f1 = true) (h3 : tmp (usA x.f0) x.f2 = true) (h4 : tmp (usB x.f0) x.f3 = true) (h5 : (x.f6 != 0) = false ∨ ((x.f6 != 0) = true ∧ usK x.f0 = true)) (hi0 : 0 ≤ i) (hi1 : i ≤ 1000) (hn0 : 0 ≤ n) (hn1 : n ≤ 1000) (h6 : (usT x.f0 = true ∧ i + 1 < x.f7 ∧ x.f7 < n) ∨ (usT x.f0 = false ∧ x.f7 = 0)) (hp : usP x.f0 = false) (hr : usR x.f0 = false) (hm : usM x.f0 = false) (h5' : (x.f5 != 0) = false) :
    Calls Try.prog 37 #[aIns x, .int .i64 i, .int .i64 n, .slice Al l.length cl] w fun e w' => e = .returned (.bool (x.f4 == 0)) ∧ Below w.heap.size w w' := by
  have c0 := ltr_full h1
  have w1 : wrap64 (i + 1) = i + 1 := wrap_of (by omega) (by omega)
  have w2 : wrap64 (n - 1) = n - 1 := wrap_of (by omega) (by omega)
  have h6' : (usT x.f0 = true ∧ decide (x.f7 ≤ i + 1) = false ∧ decide (n - 1 < x.f7) = false) ∨ (usT x.f0 = false ∧ (x.f7 != 0) = false) := by
    rcases h6 with ⟨a, b, c⟩ | ⟨a, b⟩
    · exact .inl ⟨a, decide_eq_false (by omega), decide_eq_false (by omega)⟩
    · exact .inr ⟨a, by simp [b]⟩
  clear h6
  rcases h5 with k9 | ⟨k9, k8⟩ <;> rcases h6' with ⟨t1, t2, t3⟩ | ⟨t1, t2⟩
  all_goals
    (((have KX : Aside0 ((w.alloc (.cells #[.int .i64 x.f0, .int .i64 x.f1, .int .i64 x.f2, .int .i64 x.f3, .int .i64 x.f4, .int .i64 x.f5, .int .i64 x.f6, .int .i64 x.f7] 40)).heap[w.heap.size]? = some (.cells #[.int .i64 x.f0, .int .i64 x.f1, .int .i64 x.f2, .int .i64 x.f3, .int .i64 x.f4, .int .i64 x.f5, .int .i64 x.f6, .int .i64 x.f7] 40 (0, 0))) := ⟨blk_new _ _⟩); (have HB : Aside0 (Below w.heap.size w (w.alloc (.cells #[.int .i64 x.f0, .int .i64 x.f1, .int .i64 x.f2, .int .i64 x.f3, .int .i64 x.f4, .int .i64 x.f5, .int .i64 x.f6, .int .i64 x.f7] 40))) := ⟨below_alloc (Below.refl _ _) _⟩); unfold aIns; go_enter Try.func37, Try.ntmps37; go_wp2_with fail; generalize hW1 : (w.alloc (.cells #[.int .i64 x.f0, .int .i64 x.f1, .int .i64 x.f2, .int .i64 x.f3, .int .i64 x.f4, .int .i64 x.f5, .int .i64 x.f6, .int .i64 x.f7] 40)) = W1 at KX HB ⊢; clear hW1; generalize w.heap.size = bx at KX ⊢; have x0 := blk_cell KX.out 0; have u1 := hsv_d x.f0; have u2 := hsv_a x.f0; have u3 := hsv_b x.f0; have u4 := hsv_k x.f0; have u5 := hsv_t x.f0; have u6 := hsv_l x.f0; have u7 := hsv_m x.f0; have u8 := hsv_r x.f0; have x1 := blk_cell KX.out 1; have x2 := blk_cell KX.out 2; have x3 := blk_cell KX.out 3; have x4 := blk_cell KX.out 4; have x5 := blk_cell KX.out 5; have x6 := blk_cell KX.out 6; have x7 := blk_cell KX.out 7))
    (go_quiet ((first | (go_at_call 40; with_reducible exact Calls.quiet_of (ltr_any _ _)) | (go_at_call 46; with_reducible exact Calls.quiet_of (field_any _ _ _)) | (go_at_call 20; (with_reducible refine Calls.quiet_of (has_any _ _ _ ?hck)); (case hck => rfl)))))
    (go_wp2_with (go_at_call 20; refine (has_any _ 116 _ rfl).mono ?_; rintro e w' ⟨rfl, ⟨nd, rfl⟩⟩))
    ((generalize hW2 : W1.drewN (nq + nd) = W2; have KX2 : Aside0 (W2.heap[bx]? = some (.cells #[.int .i64 x.f0, .int .i64 x.f1, .int .i64 x.f2, .int .i64 x.f3, .int .i64 x.f4, .int .i64 x.f5, .int .i64 x.f6, .int .i64 x.f7] 40 (0, 0))) := ⟨by rw [← hW2]; exact blk_drewN KX.out _⟩; have HB2 : Aside0 (Below w.heap.size w W2) := ⟨by rw [← hW2]; exact pw_below_drewN HB.out _⟩; clear hW2 x0 x1 x2 x3 x4 x5 x6 x7 KX HB; have x0 := blk_cell KX2.out 0; have x1 := blk_cell KX2.out 1; have x2 := blk_cell KX2.out 2; have x3 := blk_cell KX2.out 3; have x4 := blk_cell KX2.out 4; have x5 := blk_cell KX2.out 5; have x6 := blk_cell KX2.out 6; have x7 := blk_cell KX2.out 7))
    (go_quiet ((first | (go_at_call 40; with_reducible exact Calls.quiet_of (ltr_any _ _)) | (go_at_call 46; with_reducible exact Calls.quiet_of (field_any _ _ _)) | (go_at_call 20; (with_reducible refine Calls.quiet_of (has_any _ _ _ ?hck)); (case hck => rfl)))))
    go_wp2
    ((go_ret; exact ⟨by first | exact rfl | simp, by first | exact pw_below_drewN HB2.out _ | exact pw_below_drewN (pw_below_drewN HB2.out _) _⟩))
set_option maxHeartbeats 4000000 in
set_option maxRecDepth 100000 in
theorem plain_9am (x : S40) (i n : Int) (Al : Option Addr) (cl : Nat) (l : List S80) (w : World) (h1 : okO x.f0 = true) (h2 : tmp (usD x.f0) x.f1 = true) (h3 : tmp (usA x.f0) x.f2 = true) (h4 : tmp (usB x.f0) x.f3 = true) (h5 : (x.f6 != 0) = false ∨ ((x.f6 != 0) = true ∧ usK x.f0 = true)) (hi0 : 0 ≤ i) (hi1 : i ≤ 1000) (hn0 : 0 ≤ n) (hn1 : n ≤ 1000) (h6 : (usT x.f0 = true ∧ i + 1 < x.f7 ∧ x.f7 < n) ∨ (usT x.f0 = false ∧ x.f7 = 0)) (hp : usP x.f0 = true) (hr : usR x.f0 = false) (hm : usM x.f0 = true) (d1 : (x.f5 != 0) = false) (hq : x.f4 < 0) :
    Calls Try.prog 37 #[aIns x, .int .i64 i, .int .i64 n, .slice Al l.length cl] w fun e w' => e = .returned (.bool false) ∧ Below w.heap.size w w' := by
  have c0 := ltr_full h1
  have w1 : wrap64 (i + 1) = i + 1 := wrap_of (by omega) (by omega)
  have w2 : wrap64 (n - 1) = n - 1 := wrap_of (by omega) (by omega)
  have d5 : decide (x.f4 < 0) = true := decide_eq_true hq
  clear hq
  have h6' : (usT x.f0 = true ∧ decide (x.f7 ≤ i + 1) = false ∧ decide (n - 1 < x.f7) = false) ∨ (usT x.f0 = false ∧ (x.f7 != 0) = false) := by
    rcases h6 with ⟨a, b, c⟩ | ⟨a, b⟩
    · exact .inl ⟨a, decide_eq_false (by omega), decide_eq_false (by omega)⟩
    · exact .inr ⟨a, by simp [b]⟩
  clear h6
  rcases h5 with k9 | ⟨k9, k8⟩ <;> rcases h6' with ⟨t1, t2, t3⟩ | ⟨t1, t2⟩
  all_goals
    (((have KX : Aside0 ((w.alloc (.cells #[.int .i64 x.f0, .int .i64 x.f1, .int .i64 x.f2, .int .i64 x.f3, .int .i64 x.f4, .int .i64 x.f5, .int .i64 x.f6, .int .i64 x.f7] 40)).heap[w.heap.size]? = some (.cells #[.int .i64 x.f0, .int .i64 x.f1, .int .i64 x.f2, .int .i64 x.f3, .int .i64 x.f4, .int .i64 x.f5, .int .i64 x.f6, .int .i64 x.f7] 40 (0, 0))) := ⟨blk_new _ _⟩); (have HB : Aside0 (Below w.heap.size w (w.alloc (.cells #[.int .i64 x.f0, .int .i64 x.f1, .int .i64 x.f2, .int .i64 x.f3, .int .i64 x.f4, .int .i64 x.f5, .int .i64 x.f6, .int .i64 x.f7] 40))) := ⟨below_alloc (Below.refl _ _) _⟩); unfold aIns; go_enter Try.func37, Try.ntmps37; go_wp2_with fail; generalize hW1 : (w.alloc (.cells #[.int .i64 x.f0, .int .i64 x.f1, .int .i64 x.f2, .int .i64 x.f3, .int .i64 x.f4, .int .i64 x.f5, .int .i64 x.f6, .int .i64 x.f7] 40)) = W1 at KX HB ⊢; clear hW1; generalize w.heap.size = bx at KX ⊢; have x0 := blk_cell KX.out 0; have u1 := hsv_d x.f0; have u2 := hsv_a x.f0; have u3 := hsv_b x.f0; have u4 := hsv_k x.f0; have u5 := hsv_t x.f0; have u6 := hsv_l x.f0; have u7 := hsv_m x.f0; have u8 := hsv_r x.f0; have x1 := blk_cell KX.out 1; have x2 := blk_cell KX.out 2; have x3 := blk_cell KX.out 3; have x4 := blk_cell KX.out 4; have x5 := blk_cell KX.out 5; have x6 := blk_cell KX.out 6; have x7 := blk_cell KX.out 7))
    (go_quiet ((first | (go_at_call 40; with_reducible exact Calls.quiet_of (ltr_any _ _)) | (go_at_call 46; with_reducible exact Calls.quiet_of (field_any _ _ _)) | (go_at_call 20; (with_reducible refine Calls.quiet_of (has_any _ _ _ ?hck)); (case hck => rfl)))))
    (go_wp2_with (go_at_call 20; refine (has_any _ 116 _ rfl).mono ?_; rintro e w' ⟨rfl, ⟨nd, rfl⟩⟩))
    ((generalize hW2 : W1.drewN (nq + nd) = W2; have KX2 : Aside0 (W2.heap[bx]? = some (.cells #[.int .i64 x.f0, .int .i64 x.f1, .int .i64 x.f2, .int .i64 x.f3, .int .i64 x.f4, .int .i64 x.f5, .int .i64 x.f6, .int .i64 x.f7] 40 (0, 0))) := ⟨by rw [← hW2]; exact blk_drewN KX.out _⟩; have HB2 : Aside0 (Below w.heap.size w W2) := ⟨by rw [← hW2]; exact pw_below_drewN HB.out _⟩; clear hW2 x0 x1 x2 x3 x4 x5 x6 x7 KX HB; have x0 := blk_cell KX2.out 0; have x1 := blk_cell KX2.out 1; have x2 := blk_cell KX2.out 2; have x3 := blk_cell KX2.out 3; have x4 := blk_cell KX2.out 4; have x5 := blk_cell KX2.out 5; have x6 := blk_cell KX2.out 6; have x7 := blk_cell KX2.out 7))
    (go_quiet ((first | (go_at_call 40; with_reducible exact Calls.quiet_of (ltr_any _ _)) | (go_at_call 46; with_reducible exact Calls.quiet_of (field_any _ _ _)) | (go_at_call 20; (with_reducible refine Calls.quiet_of (has_any _ _ _ ?hck)); (case hck => rfl)))))
    go_wp2
    ((go_ret; exact ⟨by first | exact rfl | simp, by first | exact pw_below_drewN HB2.out _ | exact pw_below_drewN (pw_below_drewN HB2.out _) _⟩))
set_option maxHeartbeats 4000000 in
set_option maxRecDepth 100000 in
theorem plain_9br (x : S40) (i n : Int) (Al : Option Addr) (cl : Nat) (l : List S80) (w : World) (h1 : okO x.f0 = true) (h2 : tmp (usD x.f0) x.f1 = true) (h3 : tmp (usA x.f0) x.f2 = true) (h4 : tmp (usB x.f0) x.f3 = true) (h5 : (x.f6 != 0) = false ∨ ((x.f6 != 0) = true ∧ usK x.f0 = true)) (hi0 : 0 ≤ i) (hi1 : i ≤ 1000) (hn0 : 0 ≤ n) (hn1 : n ≤ 1000) (h6 : (usT x.f0 = true ∧ i + 1 < x.f7 ∧ x.f7 < n) ∨ (usT x.f0 = false ∧ x.f7 = 0)) (hp : usP x.f0 = true) (hr : usR x.f0 = true) (hm : usM x.f0 = false) (ha : 1 ≤ x.f5) (hb : x.f5 ≤ 16) (hq0 : 0 ≤ x.f4) (hq : l.length ≤ x.f4) :
    Calls Try.prog 37 #[aIns x, .int .i64 i, .int .i64 n, .slice Al l.length cl] w fun e w' => e = .returned (.bool false) ∧ Below w.heap.size w w' := by
  have c0 := ltr_full h1
  have w1 : wrap64 (i + 1) = i + 1 := wrap_of (by omega) (by omega)
  have w2 : wrap64 (n - 1) = n - 1 := wrap_of (by omega) (by omega)
  have d1 : decide (x.f5 < 1) = false := decide_eq_false (by omega)
  have d2 : decide (16 < x.f5) = false := decide_eq_false (by omega)
  have d5 : decide (x.f4 < 0) = false := decide_eq_false (by omega)
  have d6 : decide ((l.length : Int) ≤ x.f4) = true := decide_eq_true hq
  clear hq hq0
  have h6' : (usT x.f0 = true ∧ decide (x.f7 ≤ i + 1) = false ∧ decide (n - 1 < x.f7) = false) ∨ (usT x.f0 = false ∧ (x.f7 != 0) = false) := by
    rcases h6 with ⟨a, b, c⟩ | ⟨a, b⟩
    · exact .inl ⟨a, decide_eq_false (by omega), decide_eq_false (by omega)⟩
    · exact .inr ⟨a, by simp [b]⟩
  clear h6
  rcases h5 with k9 | ⟨k9, k8⟩ <;> rcases h6' with ⟨t1, t2, t3⟩ | ⟨t1, t2⟩
  all_goals
    (((have KX : Aside0 ((w.alloc (.cells #[.int .i64 x.f0, .int .i64 x.f1, .int .i64 x.f2, .int .i64 x.f3, .int .i64 x.f4, .int .i64 x.f5, .int .i64 x.f6, .int .i64 x.f7] 40)).heap[w.heap.size]? = some (.cells #[.int .i64 x.f0, .int .i64 x.f1, .int .i64 x.f2, .int .i64 x.f3, .int .i64 x.f4, .int .i64 x.f5, .int .i64 x.f6, .int .i64 x.f7] 40 (0, 0))) := ⟨blk_new _ _⟩); (have HB : Aside0 (Below w.heap.size w (w.alloc (.cells #[.int .i64 x.f0, .int .i64 x.f1, .int .i64 x.f2, .int .i64 x.f3, .int .i64 x.f4, .int .i64 x.f5, .int .i64 x.f6, .int .i64 x.f7] 40))) := ⟨below_alloc (Below.refl _ _) _⟩); unfold aIns; go_enter Try.func37, Try.ntmps37; go_wp2_with fail; generalize hW1 : (w.alloc (.cells #[.int .i64 x.f0, .int .i64 x.f1, .int .i64 x.f2, .int .i64 x.f3, .int .i64 x.f4, .int .i64 x.f5, .int .i64 x.f6, .int .i64 x.f7] 40)) = W1 at KX HB ⊢; clear hW1; generalize w.heap.size = bx at KX ⊢; have x0 := blk_cell KX.out 0; have u1 := hsv_d x.f0; have u2 := hsv_a x.f0; have u3 := hsv_b x.f0; have u4 := hsv_k x.f0; have u5 := hsv_t x.f0; have u6 := hsv_l x.f0; have u7 := hsv_m x.f0; have u8 := hsv_r x.f0; have x1 := blk_cell KX.out 1; have x2 := blk_cell KX.out 2; have x3 := blk_cell KX.out 3; have x4 := blk_cell KX.out 4; have x5 := blk_cell KX.out 5; have x6 := blk_cell KX.out 6; have x7 := blk_cell KX.out 7))
    (go_quiet ((first | (go_at_call 40; with_reducible exact Calls.quiet_of (ltr_any _ _)) | (go_at_call 46; with_reducible exact Calls.quiet_of (field_any _ _ _)) | (go_at_call 20; (with_reducible refine Calls.quiet_of (has_any _ _ _ ?hck)); (case hck => rfl)))))
    (go_wp2_with (go_at_call 20; refine (has_any _ 116 _ rfl).mono ?_; rintro e w' ⟨rfl, ⟨nd, rfl⟩⟩))
    ((generalize hW2 : W1.drewN (nq + nd) = W2; have KX2 : Aside0 (W2.heap[bx]? = some (.cells #[.int .i64 x.f0, .int .i64 x.f1, .int .i64 x.f2, .int .i64 x.f3, .int .i64 x.f4, .int .i64 x.f5, .int .i64 x.f6, .int .i64 x.f7] 40 (0, 0))) := ⟨by rw [← hW2]; exact blk_drewN KX.out _⟩; have HB2 : Aside0 (Below w.heap.size w W2) := ⟨by rw [← hW2]; exact pw_below_drewN HB.out _⟩; clear hW2 x0 x1 x2 x3 x4 x5 x6 x7 KX HB; have x0 := blk_cell KX2.out 0; have x1 := blk_cell KX2.out 1; have x2 := blk_cell KX2.out 2; have x3 := blk_cell KX2.out 3; have x4 := blk_cell KX2.out 4; have x5 := blk_cell KX2.out 5; have x6 := blk_cell KX2.out 6; have x7 := blk_cell KX2.out 7))
    (go_quiet ((first | (go_at_call 40; with_reducible exact Calls.quiet_of (ltr_any _ _)) | (go_at_call 46; with_reducible exact Calls.quiet_of (field_any _ _ _)) | (go_at_call 20; (with_reducible refine Calls.quiet_of (has_any _ _ _ ?hck)); (case hck => rfl)))))
    go_wp2
    ((go_ret; exact ⟨by first | exact rfl | simp, by first | exact pw_below_drewN HB2.out _ | exact pw_below_drewN (pw_below_drewN HB2.out _) _⟩))
end Go.Proofs.Ytdmbnlpcfgphpaa.Q
namespace Go.Proofs.Ytdmbnlpcfgphpaa.Q
open Go.RowKit Go.Proofs.YtdmbnlpcfgphpaaW.PrintWords Go.Proofs.YtdmbnlpcfgphpaaW.PrintLast Go.Proofs.YtdmbnlpcfgphpaaW.PrintMore
set_option linter.unusedVariables false
set_option linter.unusedSimpArgs false
set_option maxHeartbeats 4000000 in
set_option maxRecDepth 100000 in
theorem plain_6b (x : S40) (i n : Int) (Al : Option Addr) (cl : Nat) (l : List S80) (w : World) (h1 : okO x.f0 = true) (h2 : tmp (usD x.f0) x.f1 = true) (h3 : tmp (usA x.f0) x.f2 = true) (h4 : tmp (usB x.f0) x.f3 = true) (h5 : (x.f6 != 0) = false ∨ ((x.f6 != 0) = true ∧ usK x.f0 = true)) (hi0 : 0 ≤ i) (hi1 : i ≤ 1000) (hn0 : 0 ≤ n) (hn1 : n ≤ 1000) (ht : usT x.f0 = true) (ha : i + 1 < x.f7) (hb : n ≤ x.f7) :
    Calls Try.prog 37 #[aIns x, .int .i64 i, .int .i64 n, .slice Al l.length cl] w fun e w' => e = .returned (.bool false) ∧ Below w.heap.size w w' := by
  have c0 := ltr_full h1
  have w1 : wrap64 (i + 1) = i + 1 := wrap_of (by omega) (by omega)
  have w2 : wrap64 (n - 1) = n - 1 := wrap_of (by omega) (by omega)
  have d1 : decide (x.f7 ≤ i + 1) = false := decide_eq_false (by omega)
  have d2 : decide (n - 1 < x.f7) = true := decide_eq_true (by omega)
  clear ha hb
  rcases h5 with k9 | ⟨k9, k8⟩
  all_goals
    (((have KX : Aside0 ((w.alloc (.cells #[.int .i64 x.f0, .int .i64 x.f1, .int .i64 x.f2, .int .i64 x.f3, .int .i64 x.f4, .int .i64 x.f5, .int .i64 x.f6, .int .i64 x.f7] 40)).heap[w.heap.size]? = some (.cells #[.int .i64 x.f0, .int .i64 x.f1, .int .i64 x.f2, .int .i64 x.f3, .int .i64 x.f4, .int .i64 x.f5, .int .i64 x.f6, .int .i64 x.f7] 40 (0, 0))) := ⟨blk_new _ _⟩); (have HB : Aside0 (Below w.heap.size w (w.alloc (.cells #[.int .i64 x.f0, .int .i64 x.f1, .int .i64 x.f2, .int .i64 x.f3, .int .i64 x.f4, .int .i64 x.f5, .int .i64 x.f6, .int .i64 x.f7] 40))) := ⟨below_alloc (Below.refl _ _) _⟩); unfold aIns; go_enter Try.func37, Try.ntmps37; go_wp2_with fail; generalize hW1 : (w.alloc (.cells #[.int .i64 x.f0, .int .i64 x.f1, .int .i64 x.f2, .int .i64 x.f3, .int .i64 x.f4, .int .i64 x.f5, .int .i64 x.f6, .int .i64 x.f7] 40)) = W1 at KX HB ⊢; clear hW1; generalize w.heap.size = bx at KX ⊢; have x0 := blk_cell KX.out 0; have u1 := hsv_d x.f0; have u2 := hsv_a x.f0; have u3 := hsv_b x.f0; have u4 := hsv_k x.f0; have u5 := hsv_t x.f0; have u6 := hsv_l x.f0; have u7 := hsv_m x.f0; have u8 := hsv_r x.f0; have x1 := blk_cell KX.out 1; have x2 := blk_cell KX.out 2; have x3 := blk_cell KX.out 3; have x4 := blk_cell KX.out 4; have x5 := blk_cell KX.out 5; have x6 := blk_cell KX.out 6; have x7 := blk_cell KX.out 7))
    (go_quiet ((first | (go_at_call 40; with_reducible exact Calls.quiet_of (ltr_any _ _)) | (go_at_call 46; with_reducible exact Calls.quiet_of (field_any _ _ _)) | (go_at_call 20; (with_reducible refine Calls.quiet_of (has_any _ _ _ ?hck)); (case hck => rfl)))))
    (go_wp2_with (go_at_call 20; refine (has_any _ 116 _ rfl).mono ?_; rintro e w' ⟨rfl, ⟨nd, rfl⟩⟩))
    ((go_ret; exact ⟨rfl, by first | exact pw_below_drewN HB.out _ | exact pw_below_drewN (pw_below_drewN HB.out _) _ | exact pw_below_drewN (pw_below_drewN (pw_below_drewN HB.out _) _) _⟩))
set_option maxHeartbeats 4000000 in
set_option maxRecDepth 100000 in
theorem plain_7b (x : S40) (i n : Int) (Al : Option Addr) (cl : Nat) (l : List S80) (w : World) (h1 : okO x.f0 = true) (h2 : tmp (usD x.f0) x.f1 = true) (h3 : tmp (usA x.f0) x.f2 = true) (h4 : tmp (usB x.f0) x.f3 = true) (h5 : (x.f6 != 0) = false ∨ ((x.f6 != 0) = true ∧ usK x.f0 = true)) (hi0 : 0 ≤ i) (hi1 : i ≤ 1000) (hn0 : 0 ≤ n) (hn1 : n ≤ 1000) (h6 : (usT x.f0 = true ∧ i + 1 < x.f7 ∧ x.f7 < n) ∨ (usT x.f0 = false ∧ x.f7 = 0)) (hr : usR x.f0 = true) (hb : x.f5 < 1) :
    Calls Try.prog 37 #[aIns x, .int .i64 i, .int .i64 n, .slice Al l.length cl] w fun e w' => e = .returned (.bool false) ∧ Below w.heap.size w w' := by
  have c0 := ltr_full h1
  have w1 : wrap64 (i + 1) = i + 1 := wrap_of (by omega) (by omega)
  have w2 : wrap64 (n - 1) = n - 1 := wrap_of (by omega) (by omega)
  have d1 : decide (x.f5 < 1) = true := decide_eq_true hb
  clear hb
  have h6' : (usT x.f0 = true ∧ decide (x.f7 ≤ i + 1) = false ∧ decide (n - 1 < x.f7) = false) ∨ (usT x.f0 = false ∧ (x.f7 != 0) = false) := by
    rcases h6 with ⟨a, b, c⟩ | ⟨a, b⟩
    · exact .inl ⟨a, decide_eq_false (by omega), decide_eq_false (by omega)⟩
    · exact .inr ⟨a, by simp [b]⟩
  clear h6
  rcases h5 with k9 | ⟨k9, k8⟩ <;> rcases h6' with ⟨t1, t2, t3⟩ | ⟨t1, t2⟩
  all_goals
    (((have KX : Aside0 ((w.alloc (.cells #[.int .i64 x.f0, .int .i64 x.f1, .int .i64 x.f2, .int .i64 x.f3, .int .i64 x.f4, .int .i64 x.f5, .int .i64 x.f6, .int .i64 x.f7] 40)).heap[w.heap.size]? = some (.cells #[.int .i64 x.f0, .int .i64 x.f1, .int .i64 x.f2, .int .i64 x.f3, .int .i64 x.f4, .int .i64 x.f5, .int .i64 x.f6, .int .i64 x.f7] 40 (0, 0))) := ⟨blk_new _ _⟩); (have HB : Aside0 (Below w.heap.size w (w.alloc (.cells #[.int .i64 x.f0, .int .i64 x.f1, .int .i64 x.f2, .int .i64 x.f3, .int .i64 x.f4, .int .i64 x.f5, .int .i64 x.f6, .int .i64 x.f7] 40))) := ⟨below_alloc (Below.refl _ _) _⟩); unfold aIns; go_enter Try.func37, Try.ntmps37; go_wp2_with fail; generalize hW1 : (w.alloc (.cells #[.int .i64 x.f0, .int .i64 x.f1, .int .i64 x.f2, .int .i64 x.f3, .int .i64 x.f4, .int .i64 x.f5, .int .i64 x.f6, .int .i64 x.f7] 40)) = W1 at KX HB ⊢; clear hW1; generalize w.heap.size = bx at KX ⊢; have x0 := blk_cell KX.out 0; have u1 := hsv_d x.f0; have u2 := hsv_a x.f0; have u3 := hsv_b x.f0; have u4 := hsv_k x.f0; have u5 := hsv_t x.f0; have u6 := hsv_l x.f0; have u7 := hsv_m x.f0; have u8 := hsv_r x.f0; have x1 := blk_cell KX.out 1; have x2 := blk_cell KX.out 2; have x3 := blk_cell KX.out 3; have x4 := blk_cell KX.out 4; have x5 := blk_cell KX.out 5; have x6 := blk_cell KX.out 6; have x7 := blk_cell KX.out 7))
    (go_quiet ((first | (go_at_call 40; with_reducible exact Calls.quiet_of (ltr_any _ _)) | (go_at_call 46; with_reducible exact Calls.quiet_of (field_any _ _ _)) | (go_at_call 20; (with_reducible refine Calls.quiet_of (has_any _ _ _ ?hck)); (case hck => rfl)))))
    (go_wp2_with (go_at_call 20; refine (has_any _ 116 _ rfl).mono ?_; rintro e w' ⟨rfl, ⟨nd, rfl⟩⟩))
    ((generalize hW2 : W1.drewN (nq + nd) = W2; have KX2 : Aside0 (W2.heap[bx]? = some (.cells #[.int .i64 x.f0, .int .i64 x.f1, .int .i64 x.f2, .int .i64 x.f3, .int .i64 x.f4, .int .i64 x.f5, .int .i64 x.f6, .int .i64 x.f7] 40 (0, 0))) := ⟨by rw [← hW2]; exact blk_drewN KX.out _⟩; have HB2 : Aside0 (Below w.heap.size w W2) := ⟨by rw [← hW2]; exact pw_below_drewN HB.out _⟩; clear hW2 x0 x1 x2 x3 x4 x5 x6 x7 KX HB; have x0 := blk_cell KX2.out 0; have x1 := blk_cell KX2.out 1; have x2 := blk_cell KX2.out 2; have x3 := blk_cell KX2.out 3; have x4 := blk_cell KX2.out 4; have x5 := blk_cell KX2.out 5; have x6 := blk_cell KX2.out 6; have x7 := blk_cell KX2.out 7))
    (go_quiet ((first | (go_at_call 40; with_reducible exact Calls.quiet_of (ltr_any _ _)) | (go_at_call 46; with_reducible exact Calls.quiet_of (field_any _ _ _)) | (go_at_call 20; (with_reducible refine Calls.quiet_of (has_any _ _ _ ?hck)); (case hck => rfl)))))
    go_wp2
    ((go_ret; exact ⟨by first | exact rfl | simp, by first | exact pw_below_drewN HB2.out _ | exact pw_below_drewN (pw_below_drewN HB2.out _) _⟩))
set_option maxHeartbeats 4000000 in
set_option maxRecDepth 100000 in
theorem plain_9an (x : S40) (i n : Int) (Al : Option Addr) (cl : Nat) (l : List S80) (w : World) (h1 : okO x.f0 = true) (h2 : tmp (usD x.f0) x.f1 = true) (h3 : tmp (usA x.f0) x.f2 = true) (h4 : tmp (usB x.f0) x.f3 = true) (h5 : (x.f6 != 0) = false ∨ ((x.f6 != 0) = true ∧ usK x.f0 = true)) (hi0 : 0 ≤ i) (hi1 : i ≤ 1000) (hn0 : 0 ≤ n) (hn1 : n ≤ 1000) (h6 : (usT x.f0 = true ∧ i + 1 < x.f7 ∧ x.f7 < n) ∨ (usT x.f0 = false ∧ x.f7 = 0)) (hp : usP x.f0 = true) (hr : usR x.f0 = false) (hm : usM x.f0 = false) (d1 : (x.f5 != 0) = false) (hq : x.f4 < 0) :
    Calls Try.prog 37 #[aIns x, .int .i64 i, .int .i64 n, .slice Al l.length cl] w fun e w' => e = .returned (.bool false) ∧ Below w.heap.size w w' := by
  have c0 := ltr_full h1
  have w1 : wrap64 (i + 1) = i + 1 := wrap_of (by omega) (by omega)
  have w2 : wrap64 (n - 1) = n - 1 := wrap_of (by omega) (by omega)
  have d5 : decide (x.f4 < 0) = true := decide_eq_true hq
  clear hq
  have h6' : (usT x.f0 = true ∧ decide (x.f7 ≤ i + 1) = false ∧ decide (n - 1 < x.f7) = false) ∨ (usT x.f0 = false ∧ (x.f7 != 0) = false) := by
    rcases h6 with ⟨a, b, c⟩ | ⟨a, b⟩
    · exact .inl ⟨a, decide_eq_false (by omega), decide_eq_false (by omega)⟩
    · exact .inr ⟨a, by simp [b]⟩
  clear h6
  rcases h5 with k9 | ⟨k9, k8⟩ <;> rcases h6' with ⟨t1, t2, t3⟩ | ⟨t1, t2⟩
  all_goals
    (((have KX : Aside0 ((w.alloc (.cells #[.int .i64 x.f0, .int .i64 x.f1, .int .i64 x.f2, .int .i64 x.f3, .int .i64 x.f4, .int .i64 x.f5, .int .i64 x.f6, .int .i64 x.f7] 40)).heap[w.heap.size]? = some (.cells #[.int .i64 x.f0, .int .i64 x.f1, .int .i64 x.f2, .int .i64 x.f3, .int .i64 x.f4, .int .i64 x.f5, .int .i64 x.f6, .int .i64 x.f7] 40 (0, 0))) := ⟨blk_new _ _⟩); (have HB : Aside0 (Below w.heap.size w (w.alloc (.cells #[.int .i64 x.f0, .int .i64 x.f1, .int .i64 x.f2, .int .i64 x.f3, .int .i64 x.f4, .int .i64 x.f5, .int .i64 x.f6, .int .i64 x.f7] 40))) := ⟨below_alloc (Below.refl _ _) _⟩); unfold aIns; go_enter Try.func37, Try.ntmps37; go_wp2_with fail; generalize hW1 : (w.alloc (.cells #[.int .i64 x.f0, .int .i64 x.f1, .int .i64 x.f2, .int .i64 x.f3, .int .i64 x.f4, .int .i64 x.f5, .int .i64 x.f6, .int .i64 x.f7] 40)) = W1 at KX HB ⊢; clear hW1; generalize w.heap.size = bx at KX ⊢; have x0 := blk_cell KX.out 0; have u1 := hsv_d x.f0; have u2 := hsv_a x.f0; have u3 := hsv_b x.f0; have u4 := hsv_k x.f0; have u5 := hsv_t x.f0; have u6 := hsv_l x.f0; have u7 := hsv_m x.f0; have u8 := hsv_r x.f0; have x1 := blk_cell KX.out 1; have x2 := blk_cell KX.out 2; have x3 := blk_cell KX.out 3; have x4 := blk_cell KX.out 4; have x5 := blk_cell KX.out 5; have x6 := blk_cell KX.out 6; have x7 := blk_cell KX.out 7))
    (go_quiet ((first | (go_at_call 40; with_reducible exact Calls.quiet_of (ltr_any _ _)) | (go_at_call 46; with_reducible exact Calls.quiet_of (field_any _ _ _)) | (go_at_call 20; (with_reducible refine Calls.quiet_of (has_any _ _ _ ?hck)); (case hck => rfl)))))
    (go_wp2_with (go_at_call 20; refine (has_any _ 116 _ rfl).mono ?_; rintro e w' ⟨rfl, ⟨nd, rfl⟩⟩))
    ((generalize hW2 : W1.drewN (nq + nd) = W2; have KX2 : Aside0 (W2.heap[bx]? = some (.cells #[.int .i64 x.f0, .int .i64 x.f1, .int .i64 x.f2, .int .i64 x.f3, .int .i64 x.f4, .int .i64 x.f5, .int .i64 x.f6, .int .i64 x.f7] 40 (0, 0))) := ⟨by rw [← hW2]; exact blk_drewN KX.out _⟩; have HB2 : Aside0 (Below w.heap.size w W2) := ⟨by rw [← hW2]; exact pw_below_drewN HB.out _⟩; clear hW2 x0 x1 x2 x3 x4 x5 x6 x7 KX HB; have x0 := blk_cell KX2.out 0; have x1 := blk_cell KX2.out 1; have x2 := blk_cell KX2.out 2; have x3 := blk_cell KX2.out 3; have x4 := blk_cell KX2.out 4; have x5 := blk_cell KX2.out 5; have x6 := blk_cell KX2.out 6; have x7 := blk_cell KX2.out 7))
    (go_quiet ((first | (go_at_call 40; with_reducible exact Calls.quiet_of (ltr_any _ _)) | (go_at_call 46; with_reducible exact Calls.quiet_of (field_any _ _ _)) | (go_at_call 20; (with_reducible refine Calls.quiet_of (has_any _ _ _ ?hck)); (case hck => rfl)))))
    go_wp2
    ((go_ret; exact ⟨by first | exact rfl | simp, by first | exact pw_below_drewN HB2.out _ | exact pw_below_drewN (pw_below_drewN HB2.out _) _⟩))
set_option maxHeartbeats 4000000 in
set_option maxRecDepth 100000 in
theorem plain_9bm (x : S40) (i n : Int) (Al : Option Addr) (cl : Nat) (l : List S80) (w : World) (h1 : okO x.f0 = true) (h2 : tmp (usD x.f0) x.f1 = true) (h3 : tmp (usA x.f0) x.f2 = true) (h4 : tmp (usB x.f0) x.f3 = true) (h5 : (x.f6 != 0) = false ∨ ((x.f6 != 0) = true ∧ usK x.f0 = true)) (hi0 : 0 ≤ i) (hi1 : i ≤ 1000) (hn0 : 0 ≤ n) (hn1 : n ≤ 1000) (h6 : (usT x.f0 = true ∧ i + 1 < x.f7 ∧ x.f7 < n) ∨ (usT x.f0 = false ∧ x.f7 = 0)) (hp : usP x.f0 = true) (hr : usR x.f0 = false) (hm : usM x.f0 = true) (d1 : (x.f5 != 0) = false) (hq0 : 0 ≤ x.f4) (hq : l.length ≤ x.f4) :
    Calls Try.prog 37 #[aIns x, .int .i64 i, .int .i64 n, .slice Al l.length cl] w fun e w' => e = .returned (.bool false) ∧ Below w.heap.size w w' := by
  have c0 := ltr_full h1
  have w1 : wrap64 (i + 1) = i + 1 := wrap_of (by omega) (by omega)
  have w2 : wrap64 (n - 1) = n - 1 := wrap_of (by omega) (by omega)
  have d5 : decide (x.f4 < 0) = false := decide_eq_false (by omega)
  have d6 : decide ((l.length : Int) ≤ x.f4) = true := decide_eq_true hq
  clear hq hq0
  have h6' : (usT x.f0 = true ∧ decide (x.f7 ≤ i + 1) = false ∧ decide (n - 1 < x.f7) = false) ∨ (usT x.f0 = false ∧ (x.f7 != 0) = false) := by
    rcases h6 with ⟨a, b, c⟩ | ⟨a, b⟩
    · exact .inl ⟨a, decide_eq_false (by omega), decide_eq_false (by omega)⟩
    · exact .inr ⟨a, by simp [b]⟩
  clear h6
  rcases h5 with k9 | ⟨k9, k8⟩ <;> rcases h6' with ⟨t1, t2, t3⟩ | ⟨t1, t2⟩
  all_goals
    (((have KX : Aside0 ((w.alloc (.cells #[.int .i64 x.f0, .int .i64 x.f1, .int .i64 x.f2, .int .i64 x.f3, .int .i64 x.f4, .int .i64 x.f5, .int .i64 x.f6, .int .i64 x.f7] 40)).heap[w.heap.size]? = some (.cells #[.int .i64 x.f0, .int .i64 x.f1, .int .i64 x.f2, .int .i64 x.f3, .int .i64 x.f4, .int .i64 x.f5, .int .i64 x.f6, .int .i64 x.f7] 40 (0, 0))) := ⟨blk_new _ _⟩); (have HB : Aside0 (Below w.heap.size w (w.alloc (.cells #[.int .i64 x.f0, .int .i64 x.f1, .int .i64 x.f2, .int .i64 x.f3, .int .i64 x.f4, .int .i64 x.f5, .int .i64 x.f6, .int .i64 x.f7] 40))) := ⟨below_alloc (Below.refl _ _) _⟩); unfold aIns; go_enter Try.func37, Try.ntmps37; go_wp2_with fail; generalize hW1 : (w.alloc (.cells #[.int .i64 x.f0, .int .i64 x.f1, .int .i64 x.f2, .int .i64 x.f3, .int .i64 x.f4, .int .i64 x.f5, .int .i64 x.f6, .int .i64 x.f7] 40)) = W1 at KX HB ⊢; clear hW1; generalize w.heap.size = bx at KX ⊢; have x0 := blk_cell KX.out 0; have u1 := hsv_d x.f0; have u2 := hsv_a x.f0; have u3 := hsv_b x.f0; have u4 := hsv_k x.f0; have u5 := hsv_t x.f0; have u6 := hsv_l x.f0; have u7 := hsv_m x.f0; have u8 := hsv_r x.f0; have x1 := blk_cell KX.out 1; have x2 := blk_cell KX.out 2; have x3 := blk_cell KX.out 3; have x4 := blk_cell KX.out 4; have x5 := blk_cell KX.out 5; have x6 := blk_cell KX.out 6; have x7 := blk_cell KX.out 7))
    (go_quiet ((first | (go_at_call 40; with_reducible exact Calls.quiet_of (ltr_any _ _)) | (go_at_call 46; with_reducible exact Calls.quiet_of (field_any _ _ _)) | (go_at_call 20; (with_reducible refine Calls.quiet_of (has_any _ _ _ ?hck)); (case hck => rfl)))))
    (go_wp2_with (go_at_call 20; refine (has_any _ 116 _ rfl).mono ?_; rintro e w' ⟨rfl, ⟨nd, rfl⟩⟩))
    ((generalize hW2 : W1.drewN (nq + nd) = W2; have KX2 : Aside0 (W2.heap[bx]? = some (.cells #[.int .i64 x.f0, .int .i64 x.f1, .int .i64 x.f2, .int .i64 x.f3, .int .i64 x.f4, .int .i64 x.f5, .int .i64 x.f6, .int .i64 x.f7] 40 (0, 0))) := ⟨by rw [← hW2]; exact blk_drewN KX.out _⟩; have HB2 : Aside0 (Below w.heap.size w W2) := ⟨by rw [← hW2]; exact pw_below_drewN HB.out _⟩; clear hW2 x0 x1 x2 x3 x4 x5 x6 x7 KX HB; have x0 := blk_cell KX2.out 0; have x1 := blk_cell KX2.out 1; have x2 := blk_cell KX2.out 2; have x3 := blk_cell KX2.out 3; have x4 := blk_cell KX2.out 4; have x5 := blk_cell KX2.out 5; have x6 := blk_cell KX2.out 6; have x7 := blk_cell KX2.out 7))
    (go_quiet ((first | (go_at_call 40; with_reducible exact Calls.quiet_of (ltr_any _ _)) | (go_at_call 46; with_reducible exact Calls.quiet_of (field_any _ _ _)) | (go_at_call 20; (with_reducible refine Calls.quiet_of (has_any _ _ _ ?hck)); (case hck => rfl)))))
    go_wp2
    ((go_ret; exact ⟨by first | exact rfl | simp, by first | exact pw_below_drewN HB2.out _ | exact pw_below_drewN (pw_below_drewN HB2.out _) _⟩))
end Go.Proofs.Ytdmbnlpcfgphpaa.Q
namespace Go.Proofs.Ytdmbnlpcfgphpaa.Q
open Go.RowKit Go.Proofs.YtdmbnlpcfgphpaaW.PrintWords Go.Proofs.YtdmbnlpcfgphpaaW.PrintLast Go.Proofs.YtdmbnlpcfgphpaaW.PrintMore
set_option linter.unusedVariables false
set_option linter.unusedSimpArgs false
set_option maxHeartbeats 4000000 in
set_option maxRecDepth 100000 in
theorem plain_6c (x : S40) (i n : Int) (Al : Option Addr) (cl : Nat) (l : List S80) (w : World) (h1 : okO x.f0 = true) (h2 : tmp (usD x.f0) x.f1 = true) (h3 : tmp (usA x.f0) x.f2 = true) (h4 : tmp (usB x.f0) x.f3 = true) (h5 : (x.f6 != 0) = false ∨ ((x.f6 != 0) = true ∧ usK x.f0 = true)) (hi0 : 0 ≤ i) (hi1 : i ≤ 1000) (hn0 : 0 ≤ n) (hn1 : n ≤ 1000) (ht : usT x.f0 = false) (hb : x.f7 ≠ 0) :
    Calls Try.prog 37 #[aIns x, .int .i64 i, .int .i64 n, .slice Al l.length cl] w fun e w' => e = .returned (.bool false) ∧ Below w.heap.size w w' := by
  have c0 := ltr_full h1
  have w1 : wrap64 (i + 1) = i + 1 := wrap_of (by omega) (by omega)
  have w2 : wrap64 (n - 1) = n - 1 := wrap_of (by omega) (by omega)
  have d1 : (x.f7 != 0) = true := by simpa using hb
  clear hb
  rcases h5 with k9 | ⟨k9, k8⟩
  all_goals
    (((have KX : Aside0 ((w.alloc (.cells #[.int .i64 x.f0, .int .i64 x.f1, .int .i64 x.f2, .int .i64 x.f3, .int .i64 x.f4, .int .i64 x.f5, .int .i64 x.f6, .int .i64 x.f7] 40)).heap[w.heap.size]? = some (.cells #[.int .i64 x.f0, .int .i64 x.f1, .int .i64 x.f2, .int .i64 x.f3, .int .i64 x.f4, .int .i64 x.f5, .int .i64 x.f6, .int .i64 x.f7] 40 (0, 0))) := ⟨blk_new _ _⟩); (have HB : Aside0 (Below w.heap.size w (w.alloc (.cells #[.int .i64 x.f0, .int .i64 x.f1, .int .i64 x.f2, .int .i64 x.f3, .int .i64 x.f4, .int .i64 x.f5, .int .i64 x.f6, .int .i64 x.f7] 40))) := ⟨below_alloc (Below.refl _ _) _⟩); unfold aIns; go_enter Try.func37, Try.ntmps37; go_wp2_with fail; generalize hW1 : (w.alloc (.cells #[.int .i64 x.f0, .int .i64 x.f1, .int .i64 x.f2, .int .i64 x.f3, .int .i64 x.f4, .int .i64 x.f5, .int .i64 x.f6, .int .i64 x.f7] 40)) = W1 at KX HB ⊢; clear hW1; generalize w.heap.size = bx at KX ⊢; have x0 := blk_cell KX.out 0; have u1 := hsv_d x.f0; have u2 := hsv_a x.f0; have u3 := hsv_b x.f0; have u4 := hsv_k x.f0; have u5 := hsv_t x.f0; have u6 := hsv_l x.f0; have u7 := hsv_m x.f0; have u8 := hsv_r x.f0; have x1 := blk_cell KX.out 1; have x2 := blk_cell KX.out 2; have x3 := blk_cell KX.out 3; have x4 := blk_cell KX.out 4; have x5 := blk_cell KX.out 5; have x6 := blk_cell KX.out 6; have x7 := blk_cell KX.out 7))
    (go_quiet ((first | (go_at_call 40; with_reducible exact Calls.quiet_of (ltr_any _ _)) | (go_at_call 46; with_reducible exact Calls.quiet_of (field_any _ _ _)) | (go_at_call 20; (with_reducible refine Calls.quiet_of (has_any _ _ _ ?hck)); (case hck => rfl)))))
    (go_wp2_with (go_at_call 20; refine (has_any _ 116 _ rfl).mono ?_; rintro e w' ⟨rfl, ⟨nd, rfl⟩⟩))
    ((go_ret; exact ⟨rfl, by first | exact pw_below_drewN HB.out _ | exact pw_below_drewN (pw_below_drewN HB.out _) _ | exact pw_below_drewN (pw_below_drewN (pw_below_drewN HB.out _) _) _⟩))
set_option maxHeartbeats 4000000 in
set_option maxRecDepth 100000 in
theorem plain_7c (x : S40) (i n : Int) (Al : Option Addr) (cl : Nat) (l : List S80) (w : World) (h1 : okO x.f0 = true) (h2 : tmp (usD x.f0) x.f1 = true) (h3 : tmp (usA x.f0) x.f2 = true) (h4 : tmp (usB x.f0) x.f3 = true) (h5 : (x.f6 != 0) = false ∨ ((x.f6 != 0) = true ∧ usK x.f0 = true)) (hi0 : 0 ≤ i) (hi1 : i ≤ 1000) (hn0 : 0 ≤ n) (hn1 : n ≤ 1000) (h6 : (usT x.f0 = true ∧ i + 1 < x.f7 ∧ x.f7 < n) ∨ (usT x.f0 = false ∧ x.f7 = 0)) (hr : usR x.f0 = true) (ha : 1 ≤ x.f5) (hb : 16 < x.f5) :
    Calls Try.prog 37 #[aIns x, .int .i64 i, .int .i64 n, .slice Al l.length cl] w fun e w' => e = .returned (.bool false) ∧ Below w.heap.size w w' := by
  have c0 := ltr_full h1
  have w1 : wrap64 (i + 1) = i + 1 := wrap_of (by omega) (by omega)
  have w2 : wrap64 (n - 1) = n - 1 := wrap_of (by omega) (by omega)
  have d1 : decide (x.f5 < 1) = false := decide_eq_false (by omega)
  have d2 : decide (16 < x.f5) = true := decide_eq_true hb
  clear ha hb
  have h6' : (usT x.f0 = true ∧ decide (x.f7 ≤ i + 1) = false ∧ decide (n - 1 < x.f7) = false) ∨ (usT x.f0 = false ∧ (x.f7 != 0) = false) := by
    rcases h6 with ⟨a, b, c⟩ | ⟨a, b⟩
    · exact .inl ⟨a, decide_eq_false (by omega), decide_eq_false (by omega)⟩
    · exact .inr ⟨a, by simp [b]⟩
  clear h6
  rcases h5 with k9 | ⟨k9, k8⟩ <;> rcases h6' with ⟨t1, t2, t3⟩ | ⟨t1, t2⟩
  all_goals
    (((have KX : Aside0 ((w.alloc (.cells #[.int .i64 x.f0, .int .i64 x.f1, .int .i64 x.f2, .int .i64 x.f3, .int .i64 x.f4, .int .i64 x.f5, .int .i64 x.f6, .int .i64 x.f7] 40)).heap[w.heap.size]? = some (.cells #[.int .i64 x.f0, .int .i64 x.f1, .int .i64 x.f2, .int .i64 x.f3, .int .i64 x.f4, .int .i64 x.f5, .int .i64 x.f6, .int .i64 x.f7] 40 (0, 0))) := ⟨blk_new _ _⟩); (have HB : Aside0 (Below w.heap.size w (w.alloc (.cells #[.int .i64 x.f0, .int .i64 x.f1, .int .i64 x.f2, .int .i64 x.f3, .int .i64 x.f4, .int .i64 x.f5, .int .i64 x.f6, .int .i64 x.f7] 40))) := ⟨below_alloc (Below.refl _ _) _⟩); unfold aIns; go_enter Try.func37, Try.ntmps37; go_wp2_with fail; generalize hW1 : (w.alloc (.cells #[.int .i64 x.f0, .int .i64 x.f1, .int .i64 x.f2, .int .i64 x.f3, .int .i64 x.f4, .int .i64 x.f5, .int .i64 x.f6, .int .i64 x.f7] 40)) = W1 at KX HB ⊢; clear hW1; generalize w.heap.size = bx at KX ⊢; have x0 := blk_cell KX.out 0; have u1 := hsv_d x.f0; have u2 := hsv_a x.f0; have u3 := hsv_b x.f0; have u4 := hsv_k x.f0; have u5 := hsv_t x.f0; have u6 := hsv_l x.f0; have u7 := hsv_m x.f0; have u8 := hsv_r x.f0; have x1 := blk_cell KX.out 1; have x2 := blk_cell KX.out 2; have x3 := blk_cell KX.out 3; have x4 := blk_cell KX.out 4; have x5 := blk_cell KX.out 5; have x6 := blk_cell KX.out 6; have x7 := blk_cell KX.out 7))
    (go_quiet ((first | (go_at_call 40; with_reducible exact Calls.quiet_of (ltr_any _ _)) | (go_at_call 46; with_reducible exact Calls.quiet_of (field_any _ _ _)) | (go_at_call 20; (with_reducible refine Calls.quiet_of (has_any _ _ _ ?hck)); (case hck => rfl)))))
    (go_wp2_with (go_at_call 20; refine (has_any _ 116 _ rfl).mono ?_; rintro e w' ⟨rfl, ⟨nd, rfl⟩⟩))
    ((generalize hW2 : W1.drewN (nq + nd) = W2; have KX2 : Aside0 (W2.heap[bx]? = some (.cells #[.int .i64 x.f0, .int .i64 x.f1, .int .i64 x.f2, .int .i64 x.f3, .int .i64 x.f4, .int .i64 x.f5, .int .i64 x.f6, .int .i64 x.f7] 40 (0, 0))) := ⟨by rw [← hW2]; exact blk_drewN KX.out _⟩; have HB2 : Aside0 (Below w.heap.size w W2) := ⟨by rw [← hW2]; exact pw_below_drewN HB.out _⟩; clear hW2 x0 x1 x2 x3 x4 x5 x6 x7 KX HB; have x0 := blk_cell KX2.out 0; have x1 := blk_cell KX2.out 1; have x2 := blk_cell KX2.out 2; have x3 := blk_cell KX2.out 3; have x4 := blk_cell KX2.out 4; have x5 := blk_cell KX2.out 5; have x6 := blk_cell KX2.out 6; have x7 := blk_cell KX2.out 7))
    (go_quiet ((first | (go_at_call 40; with_reducible exact Calls.quiet_of (ltr_any _ _)) | (go_at_call 46; with_reducible exact Calls.quiet_of (field_any _ _ _)) | (go_at_call 20; (with_reducible refine Calls.quiet_of (has_any _ _ _ ?hck)); (case hck => rfl)))))
    go_wp2
    ((go_ret; exact ⟨by first | exact rfl | simp, by first | exact pw_below_drewN HB2.out _ | exact pw_below_drewN (pw_below_drewN HB2.out _) _⟩))
set_option maxHeartbeats 4000000 in
set_option maxRecDepth 100000 in
theorem plain_9bn (x : S40) (i n : Int) (Al : Option Addr) (cl : Nat) (l : List S80) (w : World) (h1 : okO x.f0 = true) (h2 : tmp (usD x.f0) x.f1 = true) (h3 : tmp (usA x.f0) x.f2 = true) (h4 : tmp (usB x.f0) x.f3 = true) (h5 : (x.f6 != 0) = false ∨ ((x.f6 != 0) = true ∧ usK x.f0 = true)) (hi0 : 0 ≤ i) (hi1 : i ≤ 1000) (hn0 : 0 ≤ n) (hn1 : n ≤ 1000) (h6 : (usT x.f0 = true ∧ i + 1 < x.f7 ∧ x.f7 < n) ∨ (usT x.f0 = false ∧ x.f7 = 0)) (hp : usP x.f0 = true) (hr : usR x.f0 = false) (hm : usM x.f0 = false) (d1 : (x.f5 != 0) = false) (hq0 : 0 ≤ x.f4) (hq : l.length ≤ x.f4) :
    Calls Try.prog 37 #[aIns x, .int .i64 i, .int .i64 n, .slice Al l.length cl] w fun e w' => e = .returned (.bool false) ∧ Below w.heap.size w w' := by
  have c0 := ltr_full h1
  have w1 : wrap64 (i + 1) = i + 1 := wrap_of (by omega) (by omega)
  have w2 : wrap64 (n - 1) = n - 1 := wrap_of (by omega) (by omega)
  have d5 : decide (x.f4 < 0) = false := decide_eq_false (by omega)
  have d6 : decide ((l.length : Int) ≤ x.f4) = true := decide_eq_true hq
  clear hq hq0
  have h6' : (usT x.f0 = true ∧ decide (x.f7 ≤ i + 1) = false ∧ decide (n - 1 < x.f7) = false) ∨ (usT x.f0 = false ∧ (x.f7 != 0) = false) := by
    rcases h6 with ⟨a, b, c⟩ | ⟨a, b⟩
    · exact .inl ⟨a, decide_eq_false (by omega), decide_eq_false (by omega)⟩
    · exact .inr ⟨a, by simp [b]⟩
  clear h6
  rcases h5 with k9 | ⟨k9, k8⟩ <;> rcases h6' with ⟨t1, t2, t3⟩ | ⟨t1, t2⟩
  all_goals
    (((have KX : Aside0 ((w.alloc (.cells #[.int .i64 x.f0, .int .i64 x.f1, .int .i64 x.f2, .int .i64 x.f3, .int .i64 x.f4, .int .i64 x.f5, .int .i64 x.f6, .int .i64 x.f7] 40)).heap[w.heap.size]? = some (.cells #[.int .i64 x.f0, .int .i64 x.f1, .int .i64 x.f2, .int .i64 x.f3, .int .i64 x.f4, .int .i64 x.f5, .int .i64 x.f6, .int .i64 x.f7] 40 (0, 0))) := ⟨blk_new _ _⟩); (have HB : Aside0 (Below w.heap.size w (w.alloc (.cells #[.int .i64 x.f0, .int .i64 x.f1, .int .i64 x.f2, .int .i64 x.f3, .int .i64 x.f4, .int .i64 x.f5, .int .i64 x.f6, .int .i64 x.f7] 40))) := ⟨below_alloc (Below.refl _ _) _⟩); unfold aIns; go_enter Try.func37, Try.ntmps37; go_wp2_with fail; generalize hW1 : (w.alloc (.cells #[.int .i64 x.f0, .int .i64 x.f1, .int .i64 x.f2, .int .i64 x.f3, .int .i64 x.f4, .int .i64 x.f5, .int .i64 x.f6, .int .i64 x.f7] 40)) = W1 at KX HB ⊢; clear hW1; generalize w.heap.size = bx at KX ⊢; have x0 := blk_cell KX.out 0; have u1 := hsv_d x.f0; have u2 := hsv_a x.f0; have u3 := hsv_b x.f0; have u4 := hsv_k x.f0; have u5 := hsv_t x.f0; have u6 := hsv_l x.f0; have u7 := hsv_m x.f0; have u8 := hsv_r x.f0; have x1 := blk_cell KX.out 1; have x2 := blk_cell KX.out 2; have x3 := blk_cell KX.out 3; have x4 := blk_cell KX.out 4; have x5 := blk_cell KX.out 5; have x6 := blk_cell KX.out 6; have x7 := blk_cell KX.out 7))
    (go_quiet ((first | (go_at_call 40; with_reducible exact Calls.quiet_of (ltr_any _ _)) | (go_at_call 46; with_reducible exact Calls.quiet_of (field_any _ _ _)) | (go_at_call 20; (with_reducible refine Calls.quiet_of (has_any _ _ _ ?hck)); (case hck => rfl)))))
    (go_wp2_with (go_at_call 20; refine (has_any _ 116 _ rfl).mono ?_; rintro e w' ⟨rfl, ⟨nd, rfl⟩⟩))
    ((generalize hW2 : W1.drewN (nq + nd) = W2; have KX2 : Aside0 (W2.heap[bx]? = some (.cells #[.int .i64 x.f0, .int .i64 x.f1, .int .i64 x.f2, .int .i64 x.f3, .int .i64 x.f4, .int .i64 x.f5, .int .i64 x.f6, .int .i64 x.f7] 40 (0, 0))) := ⟨by rw [← hW2]; exact blk_drewN KX.out _⟩; have HB2 : Aside0 (Below w.heap.size w W2) := ⟨by rw [← hW2]; exact pw_below_drewN HB.out _⟩; clear hW2 x0 x1 x2 x3 x4 x5 x6 x7 KX HB; have x0 := blk_cell KX2.out 0; have x1 := blk_cell KX2.out 1; have x2 := blk_cell KX2.out 2; have x3 := blk_cell KX2.out 3; have x4 := blk_cell KX2.out 4; have x5 := blk_cell KX2.out 5; have x6 := blk_cell KX2.out 6; have x7 := blk_cell KX2.out 7))
    (go_quiet ((first | (go_at_call 40; with_reducible exact Calls.quiet_of (ltr_any _ _)) | (go_at_call 46; with_reducible exact Calls.quiet_of (field_any _ _ _)) | (go_at_call 20; (with_reducible refine Calls.quiet_of (has_any _ _ _ ?hck)); (case hck => rfl)))))
    go_wp2
    ((go_ret; exact ⟨by first | exact rfl | simp, by first | exact pw_below_drewN HB2.out _ | exact pw_below_drewN (pw_below_drewN HB2.out _) _⟩))
set_option maxHeartbeats 4000000 in
set_option maxRecDepth 100000 in
theorem plain_9ar (x : S40) (i n : Int) (Al : Option Addr) (cl : Nat) (l : List S80) (w : World) (h1 : okO x.f0 = true) (h2 : tmp (usD x.f0) x.f1 = true) (h3 : tmp (usA x.f0) x.f2 = true) (h4 : tmp (usB x.f0) x.f3 = true) (h5 : (x.f6 != 0) = false ∨ ((x.f6 != 0) = true ∧ usK x.f0 = true)) (hi0 : 0 ≤ i) (hi1 : i ≤ 1000) (hn0 : 0 ≤ n) (hn1 : n ≤ 1000) (h6 : (usT x.f0 = true ∧ i + 1 < x.f7 ∧ x.f7 < n) ∨ (usT x.f0 = false ∧ x.f7 = 0)) (hp : usP x.f0 = true) (hr : usR x.f0 = true) (hm : usM x.f0 = false) (ha : 1 ≤ x.f5) (hb : x.f5 ≤ 16) (hq : x.f4 < 0) :
    Calls Try.prog 37 #[aIns x, .int .i64 i, .int .i64 n, .slice Al l.length cl] w fun e w' => e = .returned (.bool false) ∧ Below w.heap.size w w' := by
  have c0 := ltr_full h1
  have w1 : wrap64 (i + 1) = i + 1 := wrap_of (by omega) (by omega)
  have w2 : wrap64 (n - 1) = n - 1 := wrap_of (by omega) (by omega)
  have d1 : decide (x.f5 < 1) = false := decide_eq_false (by omega)
  have d2 : decide (16 < x.f5) = false := decide_eq_false (by omega)
  have d5 : decide (x.f4 < 0) = true := decide_eq_true hq
  clear hq
  have h6' : (usT x.f0 = true ∧ decide (x.f7 ≤ i + 1) = false ∧ decide (n - 1 < x.f7) = false) ∨ (usT x.f0 = false ∧ (x.f7 != 0) = false) := by
    rcases h6 with ⟨a, b, c⟩ | ⟨a, b⟩
    · exact .inl ⟨a, decide_eq_false (by omega), decide_eq_false (by omega)⟩
    · exact .inr ⟨a, by simp [b]⟩
  clear h6
  rcases h5 with k9 | ⟨k9, k8⟩ <;> rcases h6' with ⟨t1, t2, t3⟩ | ⟨t1, t2⟩
  all_goals
    (((have KX : Aside0 ((w.alloc (.cells #[.int .i64 x.f0, .int .i64 x.f1, .int .i64 x.f2, .int .i64 x.f3, .int .i64 x.f4, .int .i64 x.f5, .int .i64 x.f6, .int .i64 x.f7] 40)).heap[w.heap.size]? = some (.cells #[.int .i64 x.f0, .int .i64 x.f1, .int .i64 x.f2, .int .i64 x.f3, .int .i64 x.f4, .int .i64 x.f5, .int .i64 x.f6, .int .i64 x.f7] 40 (0, 0))) := ⟨blk_new _ _⟩); (have HB : Aside0 (Below w.heap.size w (w.alloc (.cells #[.int .i64 x.f0, .int .i64 x.f1, .int .i64 x.f2, .int .i64 x.f3, .int .i64 x.f4, .int .i64 x.f5, .int .i64 x.f6, .int .i64 x.f7] 40))) := ⟨below_alloc (Below.refl _ _) _⟩); unfold aIns; go_enter Try.func37, Try.ntmps37; go_wp2_with fail; generalize hW1 : (w.alloc (.cells #[.int .i64 x.f0, .int .i64 x.f1, .int .i64 x.f2, .int .i64 x.f3, .int .i64 x.f4, .int .i64 x.f5, .int .i64 x.f6, .int .i64 x.f7] 40)) = W1 at KX HB ⊢; clear hW1; generalize w.heap.size = bx at KX ⊢; have x0 := blk_cell KX.out 0; have u1 := hsv_d x.f0; have u2 := hsv_a x.f0; have u3 := hsv_b x.f0; have u4 := hsv_k x.f0; have u5 := hsv_t x.f0; have u6 := hsv_l x.f0; have u7 := hsv_m x.f0; have u8 := hsv_r x.f0; have x1 := blk_cell KX.out 1; have x2 := blk_cell KX.out 2; have x3 := blk_cell KX.out 3; have x4 := blk_cell KX.out 4; have x5 := blk_cell KX.out 5; have x6 := blk_cell KX.out 6; have x7 := blk_cell KX.out 7))
    (go_quiet ((first | (go_at_call 40; with_reducible exact Calls.quiet_of (ltr_any _ _)) | (go_at_call 46; with_reducible exact Calls.quiet_of (field_any _ _ _)) | (go_at_call 20; (with_reducible refine Calls.quiet_of (has_any _ _ _ ?hck)); (case hck => rfl)))))
    (go_wp2_with (go_at_call 20; refine (has_any _ 116 _ rfl).mono ?_; rintro e w' ⟨rfl, ⟨nd, rfl⟩⟩))
    ((generalize hW2 : W1.drewN (nq + nd) = W2; have KX2 : Aside0 (W2.heap[bx]? = some (.cells #[.int .i64 x.f0, .int .i64 x.f1, .int .i64 x.f2, .int .i64 x.f3, .int .i64 x.f4, .int .i64 x.f5, .int .i64 x.f6, .int .i64 x.f7] 40 (0, 0))) := ⟨by rw [← hW2]; exact blk_drewN KX.out _⟩; have HB2 : Aside0 (Below w.heap.size w W2) := ⟨by rw [← hW2]; exact pw_below_drewN HB.out _⟩; clear hW2 x0 x1 x2 x3 x4 x5 x6 x7 KX HB; have x0 := blk_cell KX2.out 0; have x1 := blk_cell KX2.out 1; have x2 := blk_cell KX2.out 2; have x3 := blk_cell KX2.out 3; have x4 := blk_cell KX2.out 4; have x5 := blk_cell KX2.out 5; have x6 := blk_cell KX2.out 6; have x7 := blk_cell KX2.out 7))
    (go_quiet ((first | (go_at_call 40; with_reducible exact Calls.quiet_of (ltr_any _ _)) | (go_at_call 46; with_reducible exact Calls.quiet_of (field_any _ _ _)) | (go_at_call 20; (with_reducible refine Calls.quiet_of (has_any _ _ _ ?hck)); (case hck => rfl)))))
    go_wp2
    ((go_ret; exact ⟨by first | exact rfl | simp, by first | exact pw_below_drewN HB2.out _ | exact pw_below_drewN (pw_below_drewN HB2.out _) _⟩))
end Go.Proofs.Ytdmbnlpcfgphpaa.Q
namespace Go.Proofs.Ytdmbnlpcfgphpaa.Q
open Go.RowKit Go.Proofs.YtdmbnlpcfgphpaaW.PrintWords Go.Proofs.YtdmbnlpcfgphpaaW.PrintLast Go.Proofs.YtdmbnlpcfgphpaaW.PrintMore
set_option linter.unusedVariables false
set_option linter.unusedSimpArgs false
set_option maxHeartbeats 4000000 in
set_option maxRecDepth 100000 in
theorem plain_tn (x : S40) (i n : Int) (Al : Option Addr) (cl : Nat) (l : List S80) (w : World) (h1 : okO x.f0 = true) (h2 : tmp (usD x.f0) x.f1 = true) (h3 : tmp (usA x.f0) x.f2 = true) (h4 : tmp (usB x.f0) x.f3 = true) (h5 : (x.f6 != 0) = false ∨ ((x.f6 != 0) = true ∧ usK x.f0 = true)) (hi0 : 0 ≤ i) (hi1 : i ≤ 1000) (hn0 : 0 ≤ n) (hn1 : n ≤ 1000) (h6 : (usT x.f0 = true ∧ i + 1 < x.f7 ∧ x.f7 < n) ∨ (usT x.f0 = false ∧ x.f7 = 0)) (hp : usP x.f0 = true) (hr : usR x.f0 = false) (hm : usM x.f0 = false) (d1 : (x.f5 != 0) = false) (hq0 : 0 ≤ x.f4) (hq1 : x.f4 < l.length) (hll : l.length ≤ 1000) (hl : Kd.C k80 w Al l.length l) :
    Calls Try.prog 37 #[aIns x, .int .i64 i, .int .i64 n, .slice Al l.length cl] w fun e w' => e = .returned (.bool (lq l false 1 x.f4.toNat)) ∧ Below w.heap.size w w' := by
  have c0 := ltr_full h1
  have w1 : wrap64 (i + 1) = i + 1 := wrap_of (by omega) (by omega)
  have w2 : wrap64 (n - 1) = n - 1 := wrap_of (by omega) (by omega)
  have hlc : l.length ≤ 1000 := hll
  have HL := Aside0.mk hl
  clear hl
  have d5 : decide (x.f4 < 0) = false := decide_eq_false (by omega)
  have d6 : decide ((l.length : Int) ≤ x.f4) = false := decide_eq_false (by omega)
  have h6' : (usT x.f0 = true ∧ decide (x.f7 ≤ i + 1) = false ∧ decide (n - 1 < x.f7) = false) ∨ (usT x.f0 = false ∧ (x.f7 != 0) = false) := by
    rcases h6 with ⟨a, b, c⟩ | ⟨a, b⟩
    · exact .inl ⟨a, decide_eq_false (by omega), decide_eq_false (by omega)⟩
    · exact .inr ⟨a, by simp [b]⟩
  clear h6
  rcases h5 with k9 | ⟨k9, k8⟩ <;> rcases h6' with ⟨t1, t2, t3⟩ | ⟨t1, t2⟩
  all_goals
    (((have KX : Aside0 ((w.alloc (.cells #[.int .i64 x.f0, .int .i64 x.f1, .int .i64 x.f2, .int .i64 x.f3, .int .i64 x.f4, .int .i64 x.f5, .int .i64 x.f6, .int .i64 x.f7] 40)).heap[w.heap.size]? = some (.cells #[.int .i64 x.f0, .int .i64 x.f1, .int .i64 x.f2, .int .i64 x.f3, .int .i64 x.f4, .int .i64 x.f5, .int .i64 x.f6, .int .i64 x.f7] 40 (0, 0))) := ⟨blk_new _ _⟩); (have HB : Aside0 (Below w.heap.size w (w.alloc (.cells #[.int .i64 x.f0, .int .i64 x.f1, .int .i64 x.f2, .int .i64 x.f3, .int .i64 x.f4, .int .i64 x.f5, .int .i64 x.f6, .int .i64 x.f7] 40))) := ⟨below_alloc (Below.refl _ _) _⟩); unfold aIns; go_enter Try.func37, Try.ntmps37; go_wp2_with fail; generalize hW1 : (w.alloc (.cells #[.int .i64 x.f0, .int .i64 x.f1, .int .i64 x.f2, .int .i64 x.f3, .int .i64 x.f4, .int .i64 x.f5, .int .i64 x.f6, .int .i64 x.f7] 40)) = W1 at KX HB ⊢; clear hW1; generalize w.heap.size = bx at KX ⊢; have x0 := blk_cell KX.out 0; have u1 := hsv_d x.f0; have u2 := hsv_a x.f0; have u3 := hsv_b x.f0; have u4 := hsv_k x.f0; have u5 := hsv_t x.f0; have u6 := hsv_l x.f0; have u7 := hsv_m x.f0; have u8 := hsv_r x.f0; have x1 := blk_cell KX.out 1; have x2 := blk_cell KX.out 2; have x3 := blk_cell KX.out 3; have x4 := blk_cell KX.out 4; have x5 := blk_cell KX.out 5; have x6 := blk_cell KX.out 6; have x7 := blk_cell KX.out 7))
    (go_quiet ((first | (go_at_call 40; with_reducible exact Calls.quiet_of (ltr_any _ _)) | (go_at_call 46; with_reducible exact Calls.quiet_of (field_any _ _ _)) | (go_at_call 20; (with_reducible refine Calls.quiet_of (has_any _ _ _ ?hck)); (case hck => rfl)))))
    (go_wp2_with (go_at_call 20; refine (has_any _ 116 _ rfl).mono ?_; rintro e w' ⟨rfl, ⟨nd, rfl⟩⟩))
    ((generalize hW2 : W1.drewN (nq + nd) = W2; have KX2 : Aside0 (W2.heap[bx]? = some (.cells #[.int .i64 x.f0, .int .i64 x.f1, .int .i64 x.f2, .int .i64 x.f3, .int .i64 x.f4, .int .i64 x.f5, .int .i64 x.f6, .int .i64 x.f7] 40 (0, 0))) := ⟨by rw [← hW2]; exact blk_drewN KX.out _⟩; have HB2 : Aside0 (Below w.heap.size w W2) := ⟨by rw [← hW2]; exact pw_below_drewN HB.out _⟩; clear hW2 x0 x1 x2 x3 x4 x5 x6 x7 KX HB; have x0 := blk_cell KX2.out 0; have x1 := blk_cell KX2.out 1; have x2 := blk_cell KX2.out 2; have x3 := blk_cell KX2.out 3; have x4 := blk_cell KX2.out 4; have x5 := blk_cell KX2.out 5; have x6 := blk_cell KX2.out 6; have x7 := blk_cell KX2.out 7))
    (go_quiet ((first | (go_at_call 40; with_reducible exact Calls.quiet_of (ltr_any _ _)) | (go_at_call 46; with_reducible exact Calls.quiet_of (field_any _ _ _)) | (go_at_call 20; (with_reducible refine Calls.quiet_of (has_any _ _ _ ?hck)); (case hck => rfl)))))
    generalize hW3 : W2.drewN nq = W3
    have KX3 : Aside0 (W3.heap[bx]? = some (.cells #[.int .i64 x.f0, .int .i64 x.f1, .int .i64 x.f2, .int .i64 x.f3, .int .i64 x.f4, .int .i64 x.f5, .int .i64 x.f6, .int .i64 x.f7] 40 (0, 0))) := ⟨by rw [← hW3]; exact blk_drewN KX2.out _⟩
    have HB3 : Aside0 (Below w.heap.size w W3) := ⟨by rw [← hW3]; exact pw_below_drewN HB2.out _⟩
    clear hW3 x0 x1 x2 x3 x4 x5 x6 x7 KX2 HB2
    have x0 := blk_cell KX3.out 0
    have x4 := blk_cell KX3.out 4
    have x5 := blk_cell KX3.out 5
    go_wp2
    go_loop [13] (fun v => ∃ k c : Nat, v = .int .i64 (k : Int) ∧ (k : Int) + c = x.f4 + 1 ∧ 0 ≤ k ∧ Aside0 (lq l false 1 x.f4.toNat = lq l false c k)) (fun v => (x.f4 + 1 - intOf v).toNat)
    case atStart => exact ⟨x.f4.toNat, 1, by rw [Int.toNat_of_nonneg hq0], by omega, by omega, ⟨rfl⟩⟩
    case round =>
      obtain ⟨k, c, rfl, hkc, hk0, HQ⟩ := hrel
      cases c with
      | zero =>
        have e1 : decide ((k : Int) ≤ x.f4) = false := decide_eq_false (by omega)
        go_wp2
        go_ret
        exact ⟨by (first | (rw [HQ.out]; done) | (rw [HQ.out]; rfl)), HB3.out⟩
      | succ c =>
        have e1 : decide ((k : Int) ≤ x.f4) = true := decide_eq_true (by omega)
        by_cases hk : k < l.length
        · have e2 : decide ((l.length : Int) ≤ (k : Int)) = false := decide_eq_false (by omega)
          have e3 : decide (l.length ≤ k) = false := decide_eq_false (by omega)
          obtain ⟨ad1, ea, y0, -⟩ := at_T80 (Kd.C_below HL.out HB3.out) (k : Int) (by omega) (by omega)
          have q1 : ((k : Int) < (l.length : Int)) = True := eq_true (by omega)
          have q2 : k < l.length := hk
          have q0 : (0 ≤ (k : Int)) = True := eq_true (by omega)
          have q3 : k ≤ 1000 := by omega
          cases ea
          simp only [Int.toNat_natCast] at y0
          cases hb : (rd_T80 l (k : Int)).f0 with
          | false =>
            have HE : Aside0 (lq l false (c + 1) k = lq l false c (k + 1)) := ⟨by simp only [lq]; rw [decide_eq_true hk, hb]; simp⟩
            go_wp2
            exact ⟨⟨k + 1, c, by go_num, by omega, by omega, ⟨by rw [HQ.out, HE.out]⟩⟩, by simp [intOf]; omega⟩
          | true =>
            have HE : Aside0 (lq l false (c + 1) k = false) := ⟨by simp only [lq]; rw [hb]; simp⟩
            go_wp2
            go_ret
            exact ⟨by (first | (rw [HQ.out, HE.out]; done) | (rw [HQ.out, HE.out]; rfl)), HB3.out⟩
        · have e2 : decide ((l.length : Int) ≤ (k : Int)) = true := decide_eq_true (by omega)
          have e3 : decide (l.length ≤ k) = true := decide_eq_true (by omega)
          have HE : Aside0 (lq l false (c + 1) k = false) := ⟨by simp only [lq]; rw [decide_eq_false hk]; rfl⟩
          go_wp2
          go_ret
          exact ⟨by (first | (rw [HQ.out, HE.out]; done) | (rw [HQ.out, HE.out]; rfl)), HB3.out⟩
end Go.Proofs.Ytdmbnlpcfgphpaa.Q
namespace Go.Proofs.Ytdmbnlpcfgphpaa.Q
open Go.RowKit Go.Proofs.YtdmbnlpcfgphpaaW.PrintWords Go.Proofs.YtdmbnlpcfgphpaaW.PrintLast Go.Proofs.YtdmbnlpcfgphpaaW.PrintMore
set_option linter.unusedVariables false
set_option linter.unusedSimpArgs false
set_option maxHeartbeats 4000000 in
set_option maxRecDepth 100000 in
theorem plain_tm (x : S40) (i n : Int) (Al : Option Addr) (cl : Nat) (l : List S80) (w : World) (h1 : okO x.f0 = true) (h2 : tmp (usD x.f0) x.f1 = true) (h3 : tmp (usA x.f0) x.f2 = true) (h4 : tmp (usB x.f0) x.f3 = true) (h5 : (x.f6 != 0) = false ∨ ((x.f6 != 0) = true ∧ usK x.f0 = true)) (hi0 : 0 ≤ i) (hi1 : i ≤ 1000) (hn0 : 0 ≤ n) (hn1 : n ≤ 1000) (h6 : (usT x.f0 = true ∧ i + 1 < x.f7 ∧ x.f7 < n) ∨ (usT x.f0 = false ∧ x.f7 = 0)) (hp : usP x.f0 = true) (hr : usR x.f0 = false) (hm : usM x.f0 = true) (d1 : (x.f5 != 0) = false) (hq0 : 0 ≤ x.f4) (hq1 : x.f4 < l.length) (hll : l.length ≤ 1000) (hl : Kd.C k80 w Al l.length l) :
    Calls Try.prog 37 #[aIns x, .int .i64 i, .int .i64 n, .slice Al l.length cl] w fun e w' => e = .returned (.bool (lq l true 1 x.f4.toNat)) ∧ Below w.heap.size w w' := by
  have c0 := ltr_full h1
  have w1 : wrap64 (i + 1) = i + 1 := wrap_of (by omega) (by omega)
  have w2 : wrap64 (n - 1) = n - 1 := wrap_of (by omega) (by omega)
  have hlc : l.length ≤ 1000 := hll
  have HL := Aside0.mk hl
  clear hl
  have d5 : decide (x.f4 < 0) = false := decide_eq_false (by omega)
  have d6 : decide ((l.length : Int) ≤ x.f4) = false := decide_eq_false (by omega)
  have h6' : (usT x.f0 = true ∧ decide (x.f7 ≤ i + 1) = false ∧ decide (n - 1 < x.f7) = false) ∨ (usT x.f0 = false ∧ (x.f7 != 0) = false) := by
    rcases h6 with ⟨a, b, c⟩ | ⟨a, b⟩
    · exact .inl ⟨a, decide_eq_false (by omega), decide_eq_false (by omega)⟩
    · exact .inr ⟨a, by simp [b]⟩
  clear h6
  rcases h5 with k9 | ⟨k9, k8⟩ <;> rcases h6' with ⟨t1, t2, t3⟩ | ⟨t1, t2⟩
  all_goals
    (((have KX : Aside0 ((w.alloc (.cells #[.int .i64 x.f0, .int .i64 x.f1, .int .i64 x.f2, .int .i64 x.f3, .int .i64 x.f4, .int .i64 x.f5, .int .i64 x.f6, .int .i64 x.f7] 40)).heap[w.heap.size]? = some (.cells #[.int .i64 x.f0, .int .i64 x.f1, .int .i64 x.f2, .int .i64 x.f3, .int .i64 x.f4, .int .i64 x.f5, .int .i64 x.f6, .int .i64 x.f7] 40 (0, 0))) := ⟨blk_new _ _⟩); (have HB : Aside0 (Below w.heap.size w (w.alloc (.cells #[.int .i64 x.f0, .int .i64 x.f1, .int .i64 x.f2, .int .i64 x.f3, .int .i64 x.f4, .int .i64 x.f5, .int .i64 x.f6, .int .i64 x.f7] 40))) := ⟨below_alloc (Below.refl _ _) _⟩); unfold aIns; go_enter Try.func37, Try.ntmps37; go_wp2_with fail; generalize hW1 : (w.alloc (.cells #[.int .i64 x.f0, .int .i64 x.f1, .int .i64 x.f2, .int .i64 x.f3, .int .i64 x.f4, .int .i64 x.f5, .int .i64 x.f6, .int .i64 x.f7] 40)) = W1 at KX HB ⊢; clear hW1; generalize w.heap.size = bx at KX ⊢; have x0 := blk_cell KX.out 0; have u1 := hsv_d x.f0; have u2 := hsv_a x.f0; have u3 := hsv_b x.f0; have u4 := hsv_k x.f0; have u5 := hsv_t x.f0; have u6 := hsv_l x.f0; have u7 := hsv_m x.f0; have u8 := hsv_r x.f0; have x1 := blk_cell KX.out 1; have x2 := blk_cell KX.out 2; have x3 := blk_cell KX.out 3; have x4 := blk_cell KX.out 4; have x5 := blk_cell KX.out 5; have x6 := blk_cell KX.out 6; have x7 := blk_cell KX.out 7))
    (go_quiet ((first | (go_at_call 40; with_reducible exact Calls.quiet_of (ltr_any _ _)) | (go_at_call 46; with_reducible exact Calls.quiet_of (field_any _ _ _)) | (go_at_call 20; (with_reducible refine Calls.quiet_of (has_any _ _ _ ?hck)); (case hck => rfl)))))
    (go_wp2_with (go_at_call 20; refine (has_any _ 116 _ rfl).mono ?_; rintro e w' ⟨rfl, ⟨nd, rfl⟩⟩))
    ((generalize hW2 : W1.drewN (nq + nd) = W2; have KX2 : Aside0 (W2.heap[bx]? = some (.cells #[.int .i64 x.f0, .int .i64 x.f1, .int .i64 x.f2, .int .i64 x.f3, .int .i64 x.f4, .int .i64 x.f5, .int .i64 x.f6, .int .i64 x.f7] 40 (0, 0))) := ⟨by rw [← hW2]; exact blk_drewN KX.out _⟩; have HB2 : Aside0 (Below w.heap.size w W2) := ⟨by rw [← hW2]; exact pw_below_drewN HB.out _⟩; clear hW2 x0 x1 x2 x3 x4 x5 x6 x7 KX HB; have x0 := blk_cell KX2.out 0; have x1 := blk_cell KX2.out 1; have x2 := blk_cell KX2.out 2; have x3 := blk_cell KX2.out 3; have x4 := blk_cell KX2.out 4; have x5 := blk_cell KX2.out 5; have x6 := blk_cell KX2.out 6; have x7 := blk_cell KX2.out 7))
    (go_quiet ((first | (go_at_call 40; with_reducible exact Calls.quiet_of (ltr_any _ _)) | (go_at_call 46; with_reducible exact Calls.quiet_of (field_any _ _ _)) | (go_at_call 20; (with_reducible refine Calls.quiet_of (has_any _ _ _ ?hck)); (case hck => rfl)))))
    generalize hW3 : W2.drewN nq = W3
    have KX3 : Aside0 (W3.heap[bx]? = some (.cells #[.int .i64 x.f0, .int .i64 x.f1, .int .i64 x.f2, .int .i64 x.f3, .int .i64 x.f4, .int .i64 x.f5, .int .i64 x.f6, .int .i64 x.f7] 40 (0, 0))) := ⟨by rw [← hW3]; exact blk_drewN KX2.out _⟩
    have HB3 : Aside0 (Below w.heap.size w W3) := ⟨by rw [← hW3]; exact pw_below_drewN HB2.out _⟩
    clear hW3 x0 x1 x2 x3 x4 x5 x6 x7 KX2 HB2
    have x0 := blk_cell KX3.out 0
    have x4 := blk_cell KX3.out 4
    have x5 := blk_cell KX3.out 5
    go_wp2
    go_loop [13] (fun v => ∃ k c : Nat, v = .int .i64 (k : Int) ∧ (k : Int) + c = x.f4 + 1 ∧ 0 ≤ k ∧ Aside0 (lq l true 1 x.f4.toNat = lq l true c k)) (fun v => (x.f4 + 1 - intOf v).toNat)
    case atStart => exact ⟨x.f4.toNat, 1, by rw [Int.toNat_of_nonneg hq0], by omega, by omega, ⟨rfl⟩⟩
    case round =>
      obtain ⟨k, c, rfl, hkc, hk0, HQ⟩ := hrel
      cases c with
      | zero =>
        have e1 : decide ((k : Int) ≤ x.f4) = false := decide_eq_false (by omega)
        go_wp2
        go_ret
        exact ⟨by (first | (rw [HQ.out]; done) | (rw [HQ.out]; rfl)), HB3.out⟩
      | succ c =>
        have e1 : decide ((k : Int) ≤ x.f4) = true := decide_eq_true (by omega)
        by_cases hk : k < l.length
        · have e2 : decide ((l.length : Int) ≤ (k : Int)) = false := decide_eq_false (by omega)
          have e3 : decide (l.length ≤ k) = false := decide_eq_false (by omega)
          obtain ⟨ad1, ea, y0, -⟩ := at_T80 (Kd.C_below HL.out HB3.out) (k : Int) (by omega) (by omega)
          have q1 : ((k : Int) < (l.length : Int)) = True := eq_true (by omega)
          have q2 : k < l.length := hk
          have q0 : (0 ≤ (k : Int)) = True := eq_true (by omega)
          have q3 : k ≤ 1000 := by omega
          cases ea
          simp only [Int.toNat_natCast] at y0
          cases hb : (rd_T80 l (k : Int)).f0 with
          | false =>
            have HE : Aside0 (lq l true (c + 1) k = false) := ⟨by simp only [lq]; rw [hb]; simp⟩
            go_wp2
            go_ret
            exact ⟨by (first | (rw [HQ.out, HE.out]; done) | (rw [HQ.out, HE.out]; rfl)), HB3.out⟩
          | true =>
            have HE : Aside0 (lq l true (c + 1) k = lq l true c (k + 1)) := ⟨by simp only [lq]; rw [decide_eq_true hk, hb]; simp⟩
            go_wp2
            exact ⟨⟨k + 1, c, by go_num, by omega, by omega, ⟨by rw [HQ.out, HE.out]⟩⟩, by simp [intOf]; omega⟩
        · have e2 : decide ((l.length : Int) ≤ (k : Int)) = true := decide_eq_true (by omega)
          have e3 : decide (l.length ≤ k) = true := decide_eq_true (by omega)
          have HE : Aside0 (lq l true (c + 1) k = false) := ⟨by simp only [lq]; rw [decide_eq_false hk]; rfl⟩
          go_wp2
          go_ret
          exact ⟨by (first | (rw [HQ.out, HE.out]; done) | (rw [HQ.out, HE.out]; rfl)), HB3.out⟩
end Go.Proofs.Ytdmbnlpcfgphpaa.Q
namespace Go.Proofs.Ytdmbnlpcfgphpaa.Q
open Go.RowKit Go.Proofs.YtdmbnlpcfgphpaaW.PrintWords Go.Proofs.YtdmbnlpcfgphpaaW.PrintLast Go.Proofs.YtdmbnlpcfgphpaaW.PrintMore
set_option linter.unusedVariables false
set_option linter.unusedSimpArgs false
set_option maxHeartbeats 4000000 in
set_option maxRecDepth 100000 in
theorem plain_tr (x : S40) (i n : Int) (Al : Option Addr) (cl : Nat) (l : List S80) (w : World) (h1 : okO x.f0 = true) (h2 : tmp (usD x.f0) x.f1 = true) (h3 : tmp (usA x.f0) x.f2 = true) (h4 : tmp (usB x.f0) x.f3 = true) (h5 : (x.f6 != 0) = false ∨ ((x.f6 != 0) = true ∧ usK x.f0 = true)) (hi0 : 0 ≤ i) (hi1 : i ≤ 1000) (hn0 : 0 ≤ n) (hn1 : n ≤ 1000) (h6 : (usT x.f0 = true ∧ i + 1 < x.f7 ∧ x.f7 < n) ∨ (usT x.f0 = false ∧ x.f7 = 0)) (hp : usP x.f0 = true) (hr : usR x.f0 = true) (hm : usM x.f0 = false) (ha : 1 ≤ x.f5) (hb : x.f5 ≤ 16) (hq0 : 0 ≤ x.f4) (hq1 : x.f4 < l.length) (hll : l.length ≤ 1000) (hl : Kd.C k80 w Al l.length l) :
    Calls Try.prog 37 #[aIns x, .int .i64 i, .int .i64 n, .slice Al l.length cl] w fun e w' => e = .returned (.bool (lq l false x.f5.toNat x.f4.toNat)) ∧ Below w.heap.size w w' := by
  have c0 := ltr_full h1
  have w1 : wrap64 (i + 1) = i + 1 := wrap_of (by omega) (by omega)
  have w2 : wrap64 (n - 1) = n - 1 := wrap_of (by omega) (by omega)
  have hlc : l.length ≤ 1000 := hll
  have HL := Aside0.mk hl
  clear hl
  have d1 : decide (x.f5 < 1) = false := decide_eq_false (by omega)
  have d2 : decide (16 < x.f5) = false := decide_eq_false (by omega)
  have w3 : wrap64 (x.f4 + x.f5) = x.f4 + x.f5 := wrap_of (by omega) (by omega)
  have w4 : wrap64 (x.f4 + x.f5 - 1) = x.f4 + x.f5 - 1 := wrap_of (by omega) (by omega)
  have d5 : decide (x.f4 < 0) = false := decide_eq_false (by omega)
  have d6 : decide ((l.length : Int) ≤ x.f4) = false := decide_eq_false (by omega)
  have h6' : (usT x.f0 = true ∧ decide (x.f7 ≤ i + 1) = false ∧ decide (n - 1 < x.f7) = false) ∨ (usT x.f0 = false ∧ (x.f7 != 0) = false) := by
    rcases h6 with ⟨a, b, c⟩ | ⟨a, b⟩
    · exact .inl ⟨a, decide_eq_false (by omega), decide_eq_false (by omega)⟩
    · exact .inr ⟨a, by simp [b]⟩
  clear h6
  rcases h5 with k9 | ⟨k9, k8⟩ <;> rcases h6' with ⟨t1, t2, t3⟩ | ⟨t1, t2⟩
  all_goals
    (((have KX : Aside0 ((w.alloc (.cells #[.int .i64 x.f0, .int .i64 x.f1, .int .i64 x.f2, .int .i64 x.f3, .int .i64 x.f4, .int .i64 x.f5, .int .i64 x.f6, .int .i64 x.f7] 40)).heap[w.heap.size]? = some (.cells #[.int .i64 x.f0, .int .i64 x.f1, .int .i64 x.f2, .int .i64 x.f3, .int .i64 x.f4, .int .i64 x.f5, .int .i64 x.f6, .int .i64 x.f7] 40 (0, 0))) := ⟨blk_new _ _⟩); (have HB : Aside0 (Below w.heap.size w (w.alloc (.cells #[.int .i64 x.f0, .int .i64 x.f1, .int .i64 x.f2, .int .i64 x.f3, .int .i64 x.f4, .int .i64 x.f5, .int .i64 x.f6, .int .i64 x.f7] 40))) := ⟨below_alloc (Below.refl _ _) _⟩); unfold aIns; go_enter Try.func37, Try.ntmps37; go_wp2_with fail; generalize hW1 : (w.alloc (.cells #[.int .i64 x.f0, .int .i64 x.f1, .int .i64 x.f2, .int .i64 x.f3, .int .i64 x.f4, .int .i64 x.f5, .int .i64 x.f6, .int .i64 x.f7] 40)) = W1 at KX HB ⊢; clear hW1; generalize w.heap.size = bx at KX ⊢; have x0 := blk_cell KX.out 0; have u1 := hsv_d x.f0; have u2 := hsv_a x.f0; have u3 := hsv_b x.f0; have u4 := hsv_k x.f0; have u5 := hsv_t x.f0; have u6 := hsv_l x.f0; have u7 := hsv_m x.f0; have u8 := hsv_r x.f0; have x1 := blk_cell KX.out 1; have x2 := blk_cell KX.out 2; have x3 := blk_cell KX.out 3; have x4 := blk_cell KX.out 4; have x5 := blk_cell KX.out 5; have x6 := blk_cell KX.out 6; have x7 := blk_cell KX.out 7))
    (go_quiet ((first | (go_at_call 40; with_reducible exact Calls.quiet_of (ltr_any _ _)) | (go_at_call 46; with_reducible exact Calls.quiet_of (field_any _ _ _)) | (go_at_call 20; (with_reducible refine Calls.quiet_of (has_any _ _ _ ?hck)); (case hck => rfl)))))
    (go_wp2_with (go_at_call 20; refine (has_any _ 116 _ rfl).mono ?_; rintro e w' ⟨rfl, ⟨nd, rfl⟩⟩))
    ((generalize hW2 : W1.drewN (nq + nd) = W2; have KX2 : Aside0 (W2.heap[bx]? = some (.cells #[.int .i64 x.f0, .int .i64 x.f1, .int .i64 x.f2, .int .i64 x.f3, .int .i64 x.f4, .int .i64 x.f5, .int .i64 x.f6, .int .i64 x.f7] 40 (0, 0))) := ⟨by rw [← hW2]; exact blk_drewN KX.out _⟩; have HB2 : Aside0 (Below w.heap.size w W2) := ⟨by rw [← hW2]; exact pw_below_drewN HB.out _⟩; clear hW2 x0 x1 x2 x3 x4 x5 x6 x7 KX HB; have x0 := blk_cell KX2.out 0; have x1 := blk_cell KX2.out 1; have x2 := blk_cell KX2.out 2; have x3 := blk_cell KX2.out 3; have x4 := blk_cell KX2.out 4; have x5 := blk_cell KX2.out 5; have x6 := blk_cell KX2.out 6; have x7 := blk_cell KX2.out 7))
    (go_quiet ((first | (go_at_call 40; with_reducible exact Calls.quiet_of (ltr_any _ _)) | (go_at_call 46; with_reducible exact Calls.quiet_of (field_any _ _ _)) | (go_at_call 20; (with_reducible refine Calls.quiet_of (has_any _ _ _ ?hck)); (case hck => rfl)))))
    generalize hW3 : W2.drewN nq = W3
    have KX3 : Aside0 (W3.heap[bx]? = some (.cells #[.int .i64 x.f0, .int .i64 x.f1, .int .i64 x.f2, .int .i64 x.f3, .int .i64 x.f4, .int .i64 x.f5, .int .i64 x.f6, .int .i64 x.f7] 40 (0, 0))) := ⟨by rw [← hW3]; exact blk_drewN KX2.out _⟩
    have HB3 : Aside0 (Below w.heap.size w W3) := ⟨by rw [← hW3]; exact pw_below_drewN HB2.out _⟩
    clear hW3 x0 x1 x2 x3 x4 x5 x6 x7 KX2 HB2
    have x0 := blk_cell KX3.out 0
    have x4 := blk_cell KX3.out 4
    have x5 := blk_cell KX3.out 5
    go_wp2
    go_loop [13] (fun v => ∃ k c : Nat, v = .int .i64 (k : Int) ∧ (k : Int) + c = x.f4 + x.f5 - 1 + 1 ∧ 0 ≤ k ∧ Aside0 (lq l false x.f5.toNat x.f4.toNat = lq l false c k)) (fun v => (x.f4 + x.f5 - 1 + 1 - intOf v).toNat)
    case atStart => exact ⟨x.f4.toNat, x.f5.toNat, by rw [Int.toNat_of_nonneg hq0], by omega, by omega, ⟨rfl⟩⟩
    case round =>
      obtain ⟨k, c, rfl, hkc, hk0, HQ⟩ := hrel
      cases c with
      | zero =>
        have e1 : decide ((k : Int) ≤ x.f4 + x.f5 - 1) = false := decide_eq_false (by omega)
        go_wp2
        go_ret
        exact ⟨by (first | (rw [HQ.out]; done) | (rw [HQ.out]; rfl)), HB3.out⟩
      | succ c =>
        have e1 : decide ((k : Int) ≤ x.f4 + x.f5 - 1) = true := decide_eq_true (by omega)
        by_cases hk : k < l.length
        · have e2 : decide ((l.length : Int) ≤ (k : Int)) = false := decide_eq_false (by omega)
          have e3 : decide (l.length ≤ k) = false := decide_eq_false (by omega)
          obtain ⟨ad1, ea, y0, -⟩ := at_T80 (Kd.C_below HL.out HB3.out) (k : Int) (by omega) (by omega)
          have q1 : ((k : Int) < (l.length : Int)) = True := eq_true (by omega)
          have q2 : k < l.length := hk
          have q0 : (0 ≤ (k : Int)) = True := eq_true (by omega)
          have q3 : k ≤ 1000 := by omega
          cases ea
          simp only [Int.toNat_natCast] at y0
          cases hb : (rd_T80 l (k : Int)).f0 with
          | false =>
            have HE : Aside0 (lq l false (c + 1) k = lq l false c (k + 1)) := ⟨by simp only [lq]; rw [decide_eq_true hk, hb]; simp⟩
            go_wp2
            exact ⟨⟨k + 1, c, by go_num, by omega, by omega, ⟨by rw [HQ.out, HE.out]⟩⟩, by simp [intOf]; omega⟩
          | true =>
            have HE : Aside0 (lq l false (c + 1) k = false) := ⟨by simp only [lq]; rw [hb]; simp⟩
            go_wp2
            go_ret
            exact ⟨by (first | (rw [HQ.out, HE.out]; done) | (rw [HQ.out, HE.out]; rfl)), HB3.out⟩
        · have e2 : decide ((l.length : Int) ≤ (k : Int)) = true := decide_eq_true (by omega)
          have e3 : decide (l.length ≤ k) = true := decide_eq_true (by omega)
          have HE : Aside0 (lq l false (c + 1) k = false) := ⟨by simp only [lq]; rw [decide_eq_false hk]; rfl⟩
          go_wp2
          go_ret
          exact ⟨by (first | (rw [HQ.out, HE.out]; done) | (rw [HQ.out, HE.out]; rfl)), HB3.out⟩
end Go.Proofs.Ytdmbnlpcfgphpaa.Q
namespace Go.Proofs.Ytdmbnlpcfgphpaa.Q
open Go.RowKit Go.Proofs.YtdmbnlpcfgphpaaW.PrintWords Go.Proofs.YtdmbnlpcfgphpaaW.PrintLast Go.Proofs.YtdmbnlpcfgphpaaW.PrintMore
set_option linter.unusedVariables false
theorem row_P {o : Int} (h : usR o = true) : usP o = true ∧ usM o = false := by
  simp [usR] at h
  rcases h with rfl | rfl <;> decide
theorem noP {o : Int} (h : usP o = false) : usR o = false ∧ usM o = false := by
  refine ⟨?_, ?_⟩
  · cases hr : usR o
    · rfl
    · rw [(row_P hr).1] at h; cases h
  · cases hm : usM o
    · rfl
    · simp [usM] at hm; simp [usP] at h; omega
theorem plain_any (x : S40) (i n : Int) (Al : Option Addr) (cl : Nat) (l : List S80) (w : World) (hl : Kd.C k80 w Al l.length l) (hll : l.length ≤ 16) (hi0 : 0 ≤ i) (hi1 : i ≤ 1000) (hn0 : 0 ≤ n) (hn1 : n ≤ 1000) :
    Calls Try.prog 37 #[aIns x, .int .i64 i, .int .i64 n, .slice Al l.length cl] w fun e w' => e = .returned (.bool (pln x i n l)) ∧ Below w.heap.size w w' := by
  cases h1 : okO x.f0
  · rw [pln_f1 h1]; exact plain_1 x i n Al cl l w h1
  cases h2 : tmp (usD x.f0) x.f1
  · rw [pln_f2 h2]; exact plain_2 x i n Al cl l w h1 h2
  cases h3 : tmp (usA x.f0) x.f2
  · rw [pln_f3 h3]; exact plain_3 x i n Al cl l w h1 h2 h3
  cases h4 : tmp (usB x.f0) x.f3
  · rw [pln_f4 h4]; exact plain_4 x i n Al cl l w h1 h2 h3 h4
  by_cases h5 : usK x.f0 = false ∧ (x.f6 != 0) = true
  · rw [pln_f5 h5.1 h5.2]; exact plain_5 x i n Al cl l w h1 h2 h3 h4 h5.1 h5.2
  have h5' : (x.f6 != 0) = false ∨ ((x.f6 != 0) = true ∧ usK x.f0 = true) := by
    cases hk : usK x.f0 <;> cases hf : (x.f6 != 0) <;> simp_all
  have h5b : (usK x.f0 || x.f6 == 0) = true := by
    rcases h5' with h | h
    · have : (x.f6 == 0) = true := by simpa using h
      simp [this]
    · simp [h.2]
  by_cases h6 : (usT x.f0 = true ∧ i + 1 < x.f7 ∧ x.f7 < n) ∨ (usT x.f0 = false ∧ x.f7 = 0)
  · have h6b : toOk x i n = true := by
      unfold toOk
      rcases h6 with ⟨a, b, c⟩ | ⟨a, b⟩
      · rw [a]; simp [b, c]
      · rw [a]; simp [b]
    rw [pln_t h1 h2 h3 h4 h5b h6b]
    cases hp : usP x.f0
    · obtain ⟨hr, hm⟩ := noP hp
      have e : plc x l = (x.f4 == 0 && x.f5 == 0) := by unfold plc; rw [hp]; rfl
      by_cases h7 : x.f5 = 0
      · rw [e, h7]
        simp only [BEq.rfl, Bool.and_true]
        exact plain_8 x i n Al cl l w h1 h2 h3 h4 h5' hi0 hi1 hn0 hn1 h6 hp hr hm (by simpa using h7)
      · rw [e, show (x.f5 == 0) = false from beq_eq_false_iff_ne.2 h7, Bool.and_false]
        exact plain_7a x i n Al cl l w h1 h2 h3 h4 h5' hi0 hi1 hn0 hn1 h6 hr h7
    · cases hr : usR x.f0
      · by_cases h7 : x.f5 = 0
        · have h7' : (x.f5 != 0) = false := by simpa using h7
          by_cases h8 : x.f4 < 0
          · have e : plc x l = false := by unfold plc; rw [hp, hr]; simp; omega
            rw [e]
            cases hm : usM x.f0
            · exact plain_9an x i n Al cl l w h1 h2 h3 h4 h5' hi0 hi1 hn0 hn1 h6 hp hr hm h7' h8
            · exact plain_9am x i n Al cl l w h1 h2 h3 h4 h5' hi0 hi1 hn0 hn1 h6 hp hr hm h7' h8
          by_cases h9 : (l.length : Int) ≤ x.f4
          · have e : plc x l = false := by unfold plc; rw [hp, hr]; simp; omega
            rw [e]
            cases hm : usM x.f0
            · exact plain_9bn x i n Al cl l w h1 h2 h3 h4 h5' hi0 hi1 hn0 hn1 h6 hp hr hm h7' (by omega) h9
            · exact plain_9bm x i n Al cl l w h1 h2 h3 h4 h5' hi0 hi1 hn0 hn1 h6 hp hr hm h7' (by omega) h9
          have e := plc_lq (x := x) (l := l) hp (.inr h7) (by rw [hr]; simp) (by omega) (by omega)
          rw [hr] at e
          rw [e]
          cases hm : usM x.f0
          · exact plain_tn x i n Al cl l w h1 h2 h3 h4 h5' hi0 hi1 hn0 hn1 h6 hp hr hm h7' (by omega) (by omega) (by omega) hl
          · exact plain_tm x i n Al cl l w h1 h2 h3 h4 h5' hi0 hi1 hn0 hn1 h6 hp hr hm h7' (by omega) (by omega) (by omega) hl
        · have e : plc x l = false := by unfold plc; rw [hp, hr, show (x.f5 == 0) = false from beq_eq_false_iff_ne.2 h7]; rfl
          rw [e]
          exact plain_7a x i n Al cl l w h1 h2 h3 h4 h5' hi0 hi1 hn0 hn1 h6 hr h7
      · obtain ⟨-, hm⟩ := row_P hr
        by_cases h7 : x.f5 < 1
        · have e : plc x l = false := by unfold plc; rw [hp, hr]; simp; omega
          rw [e]
          exact plain_7b x i n Al cl l w h1 h2 h3 h4 h5' hi0 hi1 hn0 hn1 h6 hr h7
        by_cases h7b : 16 < x.f5
        · have e : plc x l = false := by unfold plc; rw [hp, hr]; simp; omega
          rw [e]
          exact plain_7c x i n Al cl l w h1 h2 h3 h4 h5' hi0 hi1 hn0 hn1 h6 hr (by omega) h7b
        by_cases h8 : x.f4 < 0
        · have e : plc x l = false := by unfold plc; rw [hp, hr]; simp; omega
          rw [e]
          exact plain_9ar x i n Al cl l w h1 h2 h3 h4 h5' hi0 hi1 hn0 hn1 h6 hp hr hm (by omega) (by omega) h8
        by_cases h9 : (l.length : Int) ≤ x.f4
        · have e : plc x l = false := by unfold plc; rw [hp, hr]; simp; omega
          rw [e]
          exact plain_9br x i n Al cl l w h1 h2 h3 h4 h5' hi0 hi1 hn0 hn1 h6 hp hr hm (by omega) (by omega) (by omega) h9
        have e := plc_lq (x := x) (l := l) hp (.inl hr) (by rw [hr]; simp; omega) (by omega) (by omega)
        rw [hr, hm] at e
        rw [e]
        exact plain_tr x i n Al cl l w h1 h2 h3 h4 h5' hi0 hi1 hn0 hn1 h6 hp hr hm (by omega) (by omega) (by omega) (by omega) (by omega) hl
  · have h6b : toOk x i n = false := by
      unfold toOk
      cases ht : usT x.f0
      · simp [ht] at h6 ⊢; omega
      · simp [ht] at h6 ⊢; omega
    rw [pln_f6 h6b]
    cases ht : usT x.f0
    · exact plain_6c x i n Al cl l w h1 h2 h3 h4 h5' hi0 hi1 hn0 hn1 ht (fun h => h6 (.inr ⟨ht, h⟩))
    · by_cases h7 : x.f7 ≤ i + 1
      · exact plain_6a x i n Al cl l w h1 h2 h3 h4 h5' hi0 hi1 hn0 hn1 ht h7
      · exact plain_6b x i n Al cl l w h1 h2 h3 h4 h5' hi0 hi1 hn0 hn1 ht (by omega) (by
          by_cases h : x.f7 < n
          · exact absurd (.inl ⟨ht, by omega, h⟩) h6
          · omega)
end Go.Proofs.Ytdmbnlpcfgphpaa.Q
