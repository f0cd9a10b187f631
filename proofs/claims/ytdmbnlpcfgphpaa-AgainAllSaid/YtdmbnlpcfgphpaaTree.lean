/- The tree's plain words: what a kind uses, which locations are right, ways and places ahead, whether code is right. -/
import Derived.Test.YtdmbnlpcfgphpaaQx4
import Derived.Lib.Hide
namespace Go.Proofs.Ytdmbnlpcfgphpaa.Q
open Go.RowKit Go.Proofs.YtdmbnlpcfgphpaaW.PrintWords Go.Proofs.YtdmbnlpcfgphpaaW.PrintLast Go.Proofs.YtdmbnlpcfgphpaaW.PrintMore
set_option linter.unusedVariables false
set_option linter.unusedSimpArgs false
theorem wrap_of {n : Int} (h0 : -9223372036854775808 ≤ n) (h1 : n < 9223372036854775808) : wrap64 n = n := by unfold wrap64; omega
def usD (o : Int) : Bool := (decide (1 ≤ o) && decide (o ≤ 6)) || o == 8 || o == 10 || o == 11 || o == 13
def usA (o : Int) : Bool := (decide (2 ≤ o) && decide (o ≤ 5)) || o == 7 || (decide (9 ≤ o) && decide (o ≤ 17))
def usB (o : Int) : Bool := (decide (2 ≤ o) && decide (o ≤ 5)) || o == 12 || o == 14 || o == 16 || o == 17
def usK (o : Int) : Bool := o == 1
def usT (o : Int) : Bool := o == 12 || o == 16 || o == 17
def usP (o : Int) : Bool := decide (6 ≤ o) && decide (o ≤ 14)
def usR (o : Int) : Bool := o == 13 || o == 14
def usM (o : Int) : Bool := decide (8 ≤ o) && decide (o ≤ 12)
def okO (o : Int) : Bool := decide (1 ≤ o) && decide (o ≤ 18)
theorem op_cases {o : Int} (h : okO o = true) : o = 1 ∨ o = 2 ∨ o = 3 ∨ o = 4 ∨ o = 5 ∨ o = 6 ∨ o = 7 ∨ o = 8 ∨ o = 9 ∨ o = 10 ∨ o = 11 ∨ o = 12 ∨ o = 13 ∨ o = 14 ∨ o = 15 ∨ o = 16 ∨ o = 17 ∨ o = 18 := by
  simp [okO] at h
  omega
theorem size63s : (Try.prog.info? 63).map (·.size) = some 8 := by kernel_rfl
set_option maxHeartbeats 8000000 in
set_option maxRecDepth 100000 in
theorem shape_any (o : Int) (w : World) : Calls Try.prog 33 #[.int .i64 o] w fun e w' => e = .returned (.tuple #[.agg #[.bool (usD o), .bool (usA o), .bool (usB o), .bool (usK o), .bool (usT o), .bool (usP o), .bool (usR o), .bool (usM o)], .bool (okO o)]) ∧ Below w.heap.size w w' := by
  by_cases h : okO o = true
  · rcases op_cases h with rfl | rfl | rfl | rfl | rfl | rfl | rfl | rfl | rfl | rfl | rfl | rfl | rfl | rfl | rfl | rfl | rfl | rfl
    all_goals
      clear h
      go_enter Try.func33, Try.ntmps33
      go_wp2
      refine bodyPost_ret (results_ct rfl _ _ w.heap.size 63 _ (0, 0) _ rfl (blk_new w _) Try.underlying63 rfl size63s) rfl ⟨rfl, below_alloc (Below.refl _ _) _⟩
  · have h' : ¬ (1 ≤ o ∧ o ≤ 18) := by simpa [okO] using h
    have b : ∀ c : Int, 1 ≤ c → c ≤ 18 → (o == c) = false := fun c h0 h1 => beq_eq_false_iff_ne.2 (fun he => h' (by omega))
    have r : ∀ x y : Int, 1 ≤ x → y ≤ 18 → (decide (x ≤ o) && decide (o ≤ y)) = false := fun x y h0 h1 => by
      simp; omega
    have e : usD o = false ∧ usA o = false ∧ usB o = false ∧ usK o = false ∧ usT o = false ∧ usP o = false ∧ usR o = false ∧ usM o = false ∧ okO o = false := by
      simp [usD, usA, usB, usK, usT, usP, usR, usM, okO, b, r]
    obtain ⟨e1, e2, e3, e4, e5, e6, e7, e8, e9⟩ := e
    rw [e1, e2, e3, e4, e5, e6, e7, e8, e9]
    have b1 := b 1 (by decide) (by decide)
    have b2 := b 2 (by decide) (by decide)
    have b3 := b 3 (by decide) (by decide)
    have b4 := b 4 (by decide) (by decide)
    have b5 := b 5 (by decide) (by decide)
    have b6 := b 6 (by decide) (by decide)
    have b7 := b 7 (by decide) (by decide)
    have b8 := b 8 (by decide) (by decide)
    have b9 := b 9 (by decide) (by decide)
    have b10 := b 10 (by decide) (by decide)
    have b11 := b 11 (by decide) (by decide)
    have b12 := b 12 (by decide) (by decide)
    have b13 := b 13 (by decide) (by decide)
    have b14 := b 14 (by decide) (by decide)
    have b15 := b 15 (by decide) (by decide)
    have b16 := b 16 (by decide) (by decide)
    have b17 := b 17 (by decide) (by decide)
    have b18 := b 18 (by decide) (by decide)
    clear h h' b r e1 e2 e3 e4 e5 e6 e7 e8 e9
    go_enter Try.func33, Try.ntmps33
    go_wp2
    refine bodyPost_ret (results_ct rfl _ _ w.heap.size 63 _ (0, 0) _ rfl (blk_new w _) Try.underlying63 rfl size63s) rfl ⟨rfl, below_alloc (Below.refl _ _) _⟩
def tmp (u : Bool) (n : Int) : Bool := if u then decide (0 ≤ n) && decide (n < 400) else n == 0
theorem temp_ev (u : Bool) (n : Int) : tree_temp.f u n = some (tmp u n) := by
  unfold tree_temp.f tmp
  by_cases h : u = true
  · by_cases h0 : 0 ≤ n <;> by_cases h1 : n < 400 <;> simp [h, h0, h1] <;> omega
  · simp [h]
theorem temp_any (u : Bool) (n : Int) (w : World) : Calls Try.prog 34 #[.bool u, .int .i64 n] w fun e w' => e = .returned (.bool (tmp u n)) ∧ Drawn0 w w' :=
  tree_temp.calls u n _ w (temp_ev u n)
/-- Are the locations of a piece of this kind right? -/
def plc (x : S40) (l : List S80) : Bool :=
  if usP x.f0 then (usR x.f0 || x.f5 == 0) && (let n := if usR x.f0 then x.f5 else 1; decide (1 ≤ n) && decide (n ≤ l.length) && decide (0 ≤ x.f4) && decide (x.f4 ≤ l.length - n) && (((l.drop x.f4.toNat).take n.toNat).all fun c => c.f0 == usM x.f0))
  else x.f4 == 0 && x.f5 == 0
def plg (p r m : Bool) (at_ n_ : Int) (l : List S80) : Bool :=
  if p then (r || n_ == 0) && (let n := if r then n_ else 1; decide (1 ≤ n) && decide (n ≤ l.length) && decide (0 ≤ at_) && decide (at_ ≤ l.length - n) && (((l.drop at_.toNat).take n.toNat).all fun c => c.f0 == m))
  else at_ == 0 && n_ == 0
/-- What is below the first check of places: the row of n locations from 'at' on. -/
def plr (m : Bool) (at_ n : Int) (l : List S80) : Bool :=
  decide (1 ≤ n) && decide (n ≤ l.length) && decide (0 ≤ at_) && decide (at_ ≤ l.length - n) && (((l.drop at_.toNat).take n.toNat).all fun c => c.f0 == m)
theorem plr_no {m : Bool} {at_ n : Int} {l : List S80} (h : n < 1 ∨ (l.length : Int) < n ∨ at_ < 0 ∨ (l.length : Int) - n < at_) : plr m at_ n l = false := by
  unfold plr
  rw [show (decide (1 ≤ n) && decide (n ≤ (l.length : Int)) && decide (0 ≤ at_) && decide (at_ ≤ (l.length : Int) - n)) = false by
    rcases h with h | h | h | h <;> simp <;> omega, Bool.false_and]
theorem all_drop_step {ys : List S80} {m : Bool} {i : Nat} (h : i < ys.length) : ((ys.drop i).all fun c => c.f0 == m) = ((rd_T80 ys (i : Int)).f0 == m && ((ys.drop (i + 1)).all fun c => c.f0 == m)) := by
  rw [List.drop_eq_getElem_cons h, List.all_cons, show rd_T80 ys (i : Int) = ys[i] by simp [rd_T80, List.getD, h]]
set_option maxHeartbeats 8000000 in
set_option maxRecDepth 100000 in
theorem places_gen (b0 b1 b2 b3 b4 p r m : Bool) (f0 f1 f2 f3 f4 f5 f6 f7 : Int) (A : Option Addr) (c : Nat) (l : List S80) (w : World) (hr : Kd.C k80 w A l.length l) (hc : l.length ≤ c) (hl : l.length ≤ 1000) :
    Calls Try.prog 35 #[.agg #[.bool b0, .bool b1, .bool b2, .bool b3, .bool b4, .bool p, .bool r, .bool m], .agg #[.int .i64 f0, .int .i64 f1, .int .i64 f2, .int .i64 f3, .int .i64 f4, .int .i64 f5, .int .i64 f6, .int .i64 f7], .slice A l.length c] w fun e w' => e = .returned (.bool (plg p r m f4 f5 l)) ∧ Below w.heap.size w w' := by
  have HR := Aside0.mk hr
  have HC := Aside0.mk hc
  have HL := Aside0.mk hl
  clear hr hc hl
  have B2 : Aside0 (Below w.heap.size w ((w.alloc (.cells #[.bool b0, .bool b1, .bool b2, .bool b3, .bool b4, .bool p, .bool r, .bool m] 63 (0, 0))).alloc (.cells #[.int .i64 f0, .int .i64 f1, .int .i64 f2, .int .i64 f3, .int .i64 f4, .int .i64 f5, .int .i64 f6, .int .i64 f7] 40 (0, 0)))) := ⟨below_alloc (below_alloc (Below.refl _ _) _) _⟩
  by_cases hp : p = true
  case neg =>
    have hp' : p = false := by simpa using hp
    subst hp'
    clear hp
    by_cases h4 : f4 = 0
    · have c1 : (f4 == 0) = true := beq_iff_eq.2 h4
      have e : plg false r m f4 f5 l = (f5 == 0) := by simp [plg, h4]
      rw [e]
      clear h4 e
      go_enter Try.func35, Try.ntmps35
      go_wp2
      go_ret
      exact ⟨rfl, by repeat (first | exact B2.out | apply below_alloc | apply pw_below_drewN | apply below_drew1)⟩
    · have c1 : (f4 == 0) = false := beq_eq_false_iff_ne.2 h4
      have e : plg false r m f4 f5 l = false := by simp [plg, h4]
      rw [e]
      clear h4 e
      go_enter Try.func35, Try.ntmps35
      go_wp2
      go_ret
      exact ⟨rfl, by repeat (first | exact B2.out | apply below_alloc | apply pw_below_drewN | apply below_drew1)⟩
  subst hp
  have main : ∀ n : Int, (r = true ∧ n = f5) ∨ (r = false ∧ f5 = 0 ∧ n = 1) → Calls Try.prog 35 #[.agg #[.bool b0, .bool b1, .bool b2, .bool b3, .bool b4, .bool true, .bool r, .bool m], .agg #[.int .i64 f0, .int .i64 f1, .int .i64 f2, .int .i64 f3, .int .i64 f4, .int .i64 f5, .int .i64 f6, .int .i64 f7], .slice A l.length c] w fun e w' => e = .returned (.bool (plr m f4 n l)) ∧ Below w.heap.size w w' := by
    intro n hn
    rcases hn with ⟨rfl, hn⟩ | ⟨rfl, hf, hn⟩
    · subst hn
      by_cases h1 : n < 1
      · have d1 : decide (n < 1) = true := decide_eq_true h1
        have e : plr m f4 n l = false := plr_no (Or.inl h1)
        rw [e]
        clear e
        go_enter Try.func35, Try.ntmps35
        go_wp2
        go_ret
        exact ⟨rfl, by repeat (first | exact B2.out | apply below_alloc | apply pw_below_drewN | apply below_drew1)⟩
      have d1 : decide (n < 1) = false := decide_eq_false h1
      by_cases h2 : (l.length : Int) < n
      · have d2 : decide ((l.length : Int) < n) = true := decide_eq_true h2
        have e : plr m f4 n l = false := plr_no (Or.inr (Or.inl h2))
        rw [e]
        clear e
        go_enter Try.func35, Try.ntmps35
        go_wp2
        go_ret
        exact ⟨rfl, by repeat (first | exact B2.out | apply below_alloc | apply pw_below_drewN | apply below_drew1)⟩
      have d2 : decide ((l.length : Int) < n) = false := decide_eq_false h2
      by_cases h3 : f4 < 0
      · have d3 : decide (f4 < 0) = true := decide_eq_true h3
        have e : plr m f4 n l = false := plr_no (Or.inr (Or.inr (Or.inl h3)))
        rw [e]
        clear e
        go_enter Try.func35, Try.ntmps35
        go_wp2
        go_ret
        exact ⟨rfl, by repeat (first | exact B2.out | apply below_alloc | apply pw_below_drewN | apply below_drew1)⟩
      have d3 : decide (f4 < 0) = false := decide_eq_false h3
      have ew : wrap64 ((l.length : Int) - n) = (l.length : Int) - n := wrap_of (by have := HL.out; omega) (by have := HL.out; omega)
      by_cases h4 : (l.length : Int) - n < f4
      · have d4 : decide ((l.length : Int) - n < f4) = true := decide_eq_true h4
        have e : plr m f4 n l = false := plr_no (Or.inr (Or.inr (Or.inr h4)))
        rw [e]
        clear e
        go_enter Try.func35, Try.ntmps35
        go_wp2
        go_ret
        exact ⟨rfl, by repeat (first | exact B2.out | apply below_alloc | apply pw_below_drewN | apply below_drew1)⟩
      have d4 : decide ((l.length : Int) - n < f4) = false := decide_eq_false h4
      have ew2 : wrap64 (f4 + n) = f4 + n := wrap_of (by have := HL.out; omega) (by have := HL.out; omega)
      obtain ⟨ys, hys⟩ : ∃ ys : List S80, ys = (l.take (f4 + n).toNat).drop f4.toNat := ⟨_, rfl⟩
      have e : plr m f4 n l = ys.all fun x => x.f0 == m := by
        unfold plr
        rw [show (decide ((1 : Int) ≤ n) && decide ( n ≤ (l.length : Int)) && decide (0 ≤ f4) && decide (f4 ≤ (l.length : Int) - n)) = true by simp; omega, Bool.true_and, hys, List.drop_take]
        congr 2
        omega
      rw [e]
      have ly : ys.length = (f4 + n).toNat - f4.toNat := by rw [hys, List.length_drop, List.length_take]; omega
      have ly2 : ys.length ≤ 1000 := by have := HL.out; omega
      obtain ⟨i0, hi0, _, hsz, _⟩ := info_parts info80
      have q0 : (0 : Int) ≤ f4 := by omega
      have ql : f4 ≤ f4 + n := by omega
      have q1 : f4 + n ≤ (l.length : Int) := by omega
      have hcut := cut_mid (P := Try.prog) 23 80 .i64 .i64 Try.underlying23 hi0 2 hsz A l.length c f4 (f4 + n) q0 ql q1 HC.out
      have hr := Kd.C_mid (lo := f4.toNat) (hi := (f4 + n).toNat) (c := c) HR.out (by omega) (by omega) HC.out
      obtain ⟨A1, hA1⟩ : ∃ A1, A1 = (if c = f4.toNat then A else (A : Option Addr).map (·.add (f4.toNat * 2))) := ⟨_, rfl⟩
      obtain ⟨c1, hc1⟩ : ∃ c1, c1 = c - f4.toNat := ⟨_, rfl⟩
      rw [← hys] at hr
      replace hr : Kd.C k80 w A1 ys.length ys := by rw [hA1]; exact hr
      rw [← ly, ← hA1, ← hc1] at hcut
      have HY := Aside0.mk hr
      have LY := Aside0.mk ly2
      replace q0 := eq_true q0
      replace ql := eq_true ql
      replace q1 := eq_true q1
      clear hr hys ly ly2 e hi0 hsz hA1 hc1 h2 h3 h4 HR HC HL
      go_enter Try.func35, Try.ntmps35
      go_wp2
      go_loopw [59] (fun v w' => ∃ i : Nat, v = .int .i64 (i : Int) ∧ i ≤ ys.length ∧ Aside0 ((ys.all fun x => x.f0 == m) = ((ys.drop i).all fun x => x.f0 == m)) ∧ Aside0 (w'.heap[w.heap.size]? = some (.cells #[.bool b0, .bool b1, .bool b2, .bool b3, .bool b4, .bool true, .bool true, .bool m] 63 (0, 0))) ∧ Aside0 (Below w.heap.size w w')) (fun v _ => ys.length - (intOf v).toNat)
      case atStart => exact ⟨0, rfl, by omega, ⟨rfl⟩, ⟨by (with_reducible repeat (first | refine blk_drewN ?_ _ | refine blk_drew ?_)); exact blk_alloc (blk_new w _) _⟩, ⟨by repeat (first | exact B2.out | apply below_alloc | apply pw_below_drewN | apply below_drew1)⟩⟩
      case round =>
        clear B2
        obtain ⟨i, rfl, hi, HA, HK, HB⟩ := hrel
        by_cases hlt : i < ys.length
        · have k1 : decide ((i : Int) < (ys.length : Int)) = true := decide_eq_true (by omega)
          obtain ⟨ad, ea, x0, x1⟩ := at_T80 (Kd.C_below HY.out HB.out) (i : Int) (by omega) (by omega)
          cases ea
          simp only [Int.toNat_natCast] at x0 x1
          have p0 : (0 ≤ (i : Int)) = True := eq_true (by omega)
          have p1 : ((i : Int) < (ys.length : Int)) = True := eq_true (by omega)
          obtain ⟨y, hy⟩ : ∃ y, y = rd_T80 ys (i : Int) := ⟨_, rfl⟩
          rw [← hy] at x0 x1
          have hst := all_drop_step (m := m) hlt
          rw [← hy] at hst
          clear hy
          have y7 := blk_cell HK.out 7
          have hs := blk_lt HK.out
          have hne : ¬ w.heap.size = wr.heap.size := by omega
          by_cases hc : y.f0 = m
          · have k2 : (y.f0 != m) = false := by simp [hc]
            have HS := Aside0.mk hst
            clear hst
            have HI := Aside0.mk (show wrap64 ((i : Int) + 1) = ((i + 1 : Nat) : Int) from wrap_of (by have := LY.out; omega) (by have := LY.out; omega))
            go_wp2
            go_roundw
            case measure => rw [HI.out]; simp [intOf]; omega
            case rel => exact ⟨i + 1, by rw [HI.out], by omega, ⟨by rw [HA.out, HS.out, hc]; simp⟩, ⟨by (with_reducible repeat (first | refine blk_drewN ?_ _ | refine blk_drew ?_)); exact blk_alloc HK.out _⟩, ⟨by repeat (first | exact HB.out | apply below_alloc | apply pw_below_drewN | apply below_drew1)⟩⟩
          · have k2 : (y.f0 != m) = true := by simp [hc]
            have k3 : (y.f0 == m) = false := beq_eq_false_iff_ne.2 hc
            have e5 : (ys.all fun x => x.f0 == m) = false := by rw [HA.out, hst, k3, Bool.false_and]
            clear hst
            go_wp2
            go_ret
            exact ⟨by first | exact rfl | (rw [e5]; exact rfl), by repeat (first | exact HB.out | apply below_alloc | apply pw_below_drewN | apply below_drew1)⟩
        · have k1 : decide ((i : Int) < (ys.length : Int)) = false := decide_eq_false (by omega)
          have e5 : (ys.all fun x => x.f0 == m) = true := by rw [HA.out, List.drop_eq_nil_of_le (by omega)]; rfl
          go_wp2
          go_ret
          exact ⟨by first | exact rfl | (rw [e5]; exact rfl), by repeat (first | exact HB.out | apply below_alloc | apply pw_below_drewN | apply below_drew1)⟩
    · subst hn
      subst hf
      have z1 : ((0 : Int) != 0) = false := by decide
      have ew : wrap64 ((l.length : Int) - 1) = (l.length : Int) - 1 := wrap_of (by have := HL.out; omega) (by have := HL.out; omega)
      by_cases h2 : (l.length : Int) < 1
      · have d2 : decide ((l.length : Int) < 1) = true := decide_eq_true h2
        have e : plr m f4 1 l = false := plr_no (Or.inr (Or.inl h2))
        rw [e]
        clear e
        go_enter Try.func35, Try.ntmps35
        go_wp2
        go_ret
        exact ⟨rfl, by repeat (first | exact B2.out | apply below_alloc | apply pw_below_drewN | apply below_drew1)⟩
      have d2 : decide ((l.length : Int) < 1) = false := decide_eq_false h2
      by_cases h3 : f4 < 0
      · have d3 : decide (f4 < 0) = true := decide_eq_true h3
        have e : plr m f4 1 l = false := plr_no (Or.inr (Or.inr (Or.inl h3)))
        rw [e]
        clear e
        go_enter Try.func35, Try.ntmps35
        go_wp2
        go_ret
        exact ⟨rfl, by repeat (first | exact B2.out | apply below_alloc | apply pw_below_drewN | apply below_drew1)⟩
      have d3 : decide (f4 < 0) = false := decide_eq_false h3
      by_cases h4 : (l.length : Int) - 1 < f4
      · have d4 : decide ((l.length : Int) - 1 < f4) = true := decide_eq_true h4
        have e : plr m f4 1 l = false := plr_no (Or.inr (Or.inr (Or.inr h4)))
        rw [e]
        clear e
        go_enter Try.func35, Try.ntmps35
        go_wp2
        go_ret
        exact ⟨rfl, by repeat (first | exact B2.out | apply below_alloc | apply pw_below_drewN | apply below_drew1)⟩
      have d4 : decide ((l.length : Int) - 1 < f4) = false := decide_eq_false h4
      have ew2 : wrap64 (f4 + 1) = f4 + 1 := wrap_of (by have := HL.out; omega) (by have := HL.out; omega)
      obtain ⟨ys, hys⟩ : ∃ ys : List S80, ys = (l.take (f4 + 1).toNat).drop f4.toNat := ⟨_, rfl⟩
      have e : plr m f4 1 l = ys.all fun x => x.f0 == m := by
        unfold plr
        rw [show (decide ((1 : Int) ≤ 1) && decide ( 1 ≤ (l.length : Int)) && decide (0 ≤ f4) && decide (f4 ≤ (l.length : Int) - 1)) = true by simp; omega, Bool.true_and, hys, List.drop_take]
        congr 2
        omega
      rw [e]
      have ly : ys.length = (f4 + 1).toNat - f4.toNat := by rw [hys, List.length_drop, List.length_take]; omega
      have ly2 : ys.length ≤ 1000 := by have := HL.out; omega
      obtain ⟨i0, hi0, _, hsz, _⟩ := info_parts info80
      have q0 : (0 : Int) ≤ f4 := by omega
      have ql : f4 ≤ f4 + 1 := by omega
      have q1 : f4 + 1 ≤ (l.length : Int) := by omega
      have hcut := cut_mid (P := Try.prog) 23 80 .i64 .i64 Try.underlying23 hi0 2 hsz A l.length c f4 (f4 + 1) q0 ql q1 HC.out
      have hr := Kd.C_mid (lo := f4.toNat) (hi := (f4 + 1).toNat) (c := c) HR.out (by omega) (by omega) HC.out
      obtain ⟨A1, hA1⟩ : ∃ A1, A1 = (if c = f4.toNat then A else (A : Option Addr).map (·.add (f4.toNat * 2))) := ⟨_, rfl⟩
      obtain ⟨c1, hc1⟩ : ∃ c1, c1 = c - f4.toNat := ⟨_, rfl⟩
      rw [← hys] at hr
      replace hr : Kd.C k80 w A1 ys.length ys := by rw [hA1]; exact hr
      rw [← ly, ← hA1, ← hc1] at hcut
      have HY := Aside0.mk hr
      have LY := Aside0.mk ly2
      replace q0 := eq_true q0
      replace ql := eq_true ql
      replace q1 := eq_true q1
      clear hr hys ly ly2 e hi0 hsz hA1 hc1 h2 h3 h4 HR HC HL
      go_enter Try.func35, Try.ntmps35
      go_wp2
      go_loopw [59] (fun v w' => ∃ i : Nat, v = .int .i64 (i : Int) ∧ i ≤ ys.length ∧ Aside0 ((ys.all fun x => x.f0 == m) = ((ys.drop i).all fun x => x.f0 == m)) ∧ Aside0 (w'.heap[w.heap.size]? = some (.cells #[.bool b0, .bool b1, .bool b2, .bool b3, .bool b4, .bool true, .bool false, .bool m] 63 (0, 0))) ∧ Aside0 (Below w.heap.size w w')) (fun v _ => ys.length - (intOf v).toNat)
      case atStart => exact ⟨0, rfl, by omega, ⟨rfl⟩, ⟨by (with_reducible repeat (first | refine blk_drewN ?_ _ | refine blk_drew ?_)); exact blk_alloc (blk_new w _) _⟩, ⟨by repeat (first | exact B2.out | apply below_alloc | apply pw_below_drewN | apply below_drew1)⟩⟩
      case round =>
        clear B2
        obtain ⟨i, rfl, hi, HA, HK, HB⟩ := hrel
        by_cases hlt : i < ys.length
        · have k1 : decide ((i : Int) < (ys.length : Int)) = true := decide_eq_true (by omega)
          obtain ⟨ad, ea, x0, x1⟩ := at_T80 (Kd.C_below HY.out HB.out) (i : Int) (by omega) (by omega)
          cases ea
          simp only [Int.toNat_natCast] at x0 x1
          have p0 : (0 ≤ (i : Int)) = True := eq_true (by omega)
          have p1 : ((i : Int) < (ys.length : Int)) = True := eq_true (by omega)
          obtain ⟨y, hy⟩ : ∃ y, y = rd_T80 ys (i : Int) := ⟨_, rfl⟩
          rw [← hy] at x0 x1
          have hst := all_drop_step (m := m) hlt
          rw [← hy] at hst
          clear hy
          have y7 := blk_cell HK.out 7
          have hs := blk_lt HK.out
          have hne : ¬ w.heap.size = wr.heap.size := by omega
          by_cases hc : y.f0 = m
          · have k2 : (y.f0 != m) = false := by simp [hc]
            have HS := Aside0.mk hst
            clear hst
            have HI := Aside0.mk (show wrap64 ((i : Int) + 1) = ((i + 1 : Nat) : Int) from wrap_of (by have := LY.out; omega) (by have := LY.out; omega))
            go_wp2
            go_roundw
            case measure => rw [HI.out]; simp [intOf]; omega
            case rel => exact ⟨i + 1, by rw [HI.out], by omega, ⟨by rw [HA.out, HS.out, hc]; simp⟩, ⟨by (with_reducible repeat (first | refine blk_drewN ?_ _ | refine blk_drew ?_)); exact blk_alloc HK.out _⟩, ⟨by repeat (first | exact HB.out | apply below_alloc | apply pw_below_drewN | apply below_drew1)⟩⟩
          · have k2 : (y.f0 != m) = true := by simp [hc]
            have k3 : (y.f0 == m) = false := beq_eq_false_iff_ne.2 hc
            have e5 : (ys.all fun x => x.f0 == m) = false := by rw [HA.out, hst, k3, Bool.false_and]
            clear hst
            go_wp2
            go_ret
            exact ⟨by first | exact rfl | (rw [e5]; exact rfl), by repeat (first | exact HB.out | apply below_alloc | apply pw_below_drewN | apply below_drew1)⟩
        · have k1 : decide ((i : Int) < (ys.length : Int)) = false := decide_eq_false (by omega)
          have e5 : (ys.all fun x => x.f0 == m) = true := by rw [HA.out, List.drop_eq_nil_of_le (by omega)]; rfl
          go_wp2
          go_ret
          exact ⟨by first | exact rfl | (rw [e5]; exact rfl), by repeat (first | exact HB.out | apply below_alloc | apply pw_below_drewN | apply below_drew1)⟩
  by_cases hR : r = true
  · subst hR
    have e : plg true true m f4 f5 l = plr m f4 f5 l := by simp [plg, plr]
    rw [e]
    exact main f5 (Or.inl ⟨rfl, rfl⟩)
  · have hR' : r = false := by simpa using hR
    subst hR'
    by_cases h5 : f5 = 0
    · have e : plg true false m f4 f5 l = plr m f4 1 l := by simp [plg, plr, h5]
      rw [e]
      exact main 1 (Or.inr ⟨rfl, h5, rfl⟩)
    · have e : plg true false m f4 f5 l = false := by simp [plg, h5]
      have c1 : (f5 != 0) = true := by simpa using h5
      rw [e]
      clear main hR h5 e
      go_enter Try.func35, Try.ntmps35
      go_wp2
      go_ret
      exact ⟨rfl, by repeat (first | exact B2.out | apply below_alloc | apply pw_below_drewN | apply below_drew1)⟩
theorem places_any (x : S40) (A : Option Addr) (c : Nat) (l : List S80) (w : World) (hr : Kd.C k80 w A l.length l) (hc : l.length ≤ c) (hl : l.length ≤ 1000) :
    Calls Try.prog 35 #[.agg #[.bool (usD x.f0), .bool (usA x.f0), .bool (usB x.f0), .bool (usK x.f0), .bool (usT x.f0), .bool (usP x.f0), .bool (usR x.f0), .bool (usM x.f0)], .agg #[.int .i64 x.f0, .int .i64 x.f1, .int .i64 x.f2, .int .i64 x.f3, .int .i64 x.f4, .int .i64 x.f5, .int .i64 x.f6, .int .i64 x.f7], .slice A l.length c] w fun e w' => e = .returned (.bool (plc x l)) ∧ Below w.heap.size w w' :=
  places_gen _ _ _ _ _ _ _ _ _ _ _ _ _ _ _ _ A c l w hr hc hl
end Go.Proofs.Ytdmbnlpcfgphpaa.Q
