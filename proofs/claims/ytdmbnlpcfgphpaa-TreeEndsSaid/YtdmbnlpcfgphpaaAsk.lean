/- The contract of runner.ask: a location is asked. -/
import Derived.Test.YtdmbnlpcfgphpaaCas
import Derived.StillTailTactics
namespace Go.Proofs.Ytdmbnlpcfgphpaa.Q
open Go.RowKit Go.Proofs.YtdmbnlpcfgphpaaW.PrintWords Go.Proofs.YtdmbnlpcfgphpaaW.PrintLast Go.Proofs.YtdmbnlpcfgphpaaW.PrintMore
set_option linter.unusedVariables false
set_option linter.unusedSimpArgs false
theorem ask_nil {w W : World} {g : Nat} {T : List Int} {Aa : Option Addr} {ca : Nat} {vt : Value} {acts : List S47} (S : Rn w W g T Aa ca [] vt acts) (x : S40) (kind loc : Int) :
    Calls Try.prog 49 #[.pointer (some ⟨g, 0, none⟩), aIns x, .int .i64 kind, .int .i64 loc] W fun e W' => e = .returned (.bool false) ∧ Rn w W' g T Aa ca [] vt acts ∧ KeepBut W W' g none := by
  have SS := Aside0.mk S
  clear S
  unfold aIns
  go_enter Try.func49, Try.ntmps49
  go_wp2_with (go_at_call 52; refine (answer_nil (SS.out.alloc _)).mono ?_; rintro e w' ⟨rfl, rfl⟩)
  go_ret
  exact ⟨rfl, SS.out.alloc _, kb_alloc (KeepBut.refl _ _ _)⟩
def newOf (x : S40) (n : Int) (T : List Int) : Int := if x.f0 = 10 then rd T x.f2 else if x.f0 = 11 then IntKind.i64.wrap (n + rd T x.f2) else 0
set_option maxHeartbeats 1000000 in
set_option maxRecDepth 100000 in
theorem ask_plain {w W : World} {g : Nat} {T : List Int} {Aa : Option Addr} {ca : Nat} {n : Int} {ans : List Int} {vt : Value} {acts : List S47} (S : Rn w W g T Aa ca (n :: ans) vt acts) (x : S40) (kind loc : Int) (h10 : x.f0 ≠ 10) (h11 : x.f0 ≠ 11) (hd0 : 0 ≤ x.f1) (hd1 : x.f1 < 400) (hl : acts.length ≤ 1000) :
    Calls Try.prog 49 #[.pointer (some ⟨g, 0, none⟩), aIns x, .int .i64 kind, .int .i64 loc] W fun e W' => e = .returned (.bool true) ∧ (∃ Ab v1, Rn w W' g (T.set x.f1.toNat n) Ab (ca - 1) ans v1 (acts ++ [⟨kind, loc, n, 0⟩])) ∧ KeepBut W W' g vt.ownBlock := by
  have hne : ¬ W.heap.size = g := by have := S.lt; omega
  have SS := Aside0.mk S
  clear S
  have c1 : (x.f0 == 10) = false := beq_eq_false_iff_ne.2 h10
  have c2 : (x.f0 == 11) = false := beq_eq_false_iff_ne.2 h11
  clear h10 h11
  unfold aIns
  go_enter Try.func49, Try.ntmps49
  go_wp2_with (go_at_call 52; refine (answer_cons (SS.out.alloc _)).mono ?_; rintro e w2 ⟨rfl, ⟨Ab, hs⟩, hk⟩; have S2 := Aside0.mk hs; have HK := Aside0.mk hk; have KX := Aside0.mk (hk.blk (blk_new W _) hne (by simp)); clear hs hk; have x0 := blk_cell KX.out 0; have x1 := blk_cell KX.out 1; have x2 := blk_cell KX.out 2; have hown := S2.out.own_ne; have hca := S2.out.cacts; have hlt := S2.out.lt; have hcd := S2.out.ctemp x.f1 hd0 hd1; have hfr := S2.out.frozen x.f1.toNat; have hxl := blk_lt KX.out)

  go_region_law (fail)
  have hn4 : ¬ (401 : Nat) = x.f1.toNat := by omega
  have S5 := Aside0.mk (((S2.out.put_temp x.f1 hd0 hd1 n).alloc (.cells #[.int .i64 kind, .int .i64 loc, .int .i64 n, .int .i64 0] 47)).drew.drew)
  have HK5 : Aside0 (KeepBut w2 ((w2.setCell ⟨g, x.f1.toNat, none⟩ (.int .i64 n)).alloc (.cells #[.int .i64 kind, .int .i64 loc, .int .i64 n, .int .i64 0] 47)).drew.drew g none) := ⟨keep_alloc ((KeepBut.refl _ _ _).set_ _ _) _⟩
  go_wp2
  go_region_law
    ((refine Kd.R_append_step k47 (w0 := w) w.heap.size (by rfl) _ _ 29 47 _ 32 rfl Try.underlying29 info47 rfl (by decide) (by decide) vt acts ⟨kind, loc, n, 0⟩ [.int .i64 kind, .int .i64 loc, .int .i64 n, .int .i64 0] (fun q => q ≠ g) (fun _ => False) (by rfl) (by simp [Act.eval]) (k47_mkM _ _ _ ⟨kind, loc, n, 0⟩) (fun _ h => h.elim) (fun k hk he => absurd hk (by subst he; simp; omega)) S5.out.RT S5.out.HB S5.out.HB.size (by omega) ?_; intro v1 w1 hR hB hg hat; obtain ⟨A1, c1, rfl⟩ := Kd.R_slice hR; have HE := Aside0.mk (S5.out.appended (o := .cells #[] 0) hR hB hg); have hc1 := blk_cell (blk_grown S5.out.blk hg hown) 401; rw [rcells_acts _ _ _ S5.out.TL] at hc1; have hf1 := blk_frozen (blk_grown S5.out.blk hg hown) 401; clear hR hB hg hat))
  all_goals go_wp2
  all_goals go_ret
  all_goals (have h_ := HE.out; simp only [List.length_append, List.length_cons, List.length_nil, Nat.zero_add] at h_; exact ⟨rfl, ⟨_, _, h_.1⟩, kb_then (kb_alloc HK.out) (kb_then HK5.out h_.2)⟩)
set_option maxHeartbeats 1000000 in
set_option maxRecDepth 100000 in
theorem ask_swap {w W : World} {g : Nat} {T : List Int} {Aa : Option Addr} {ca : Nat} {n : Int} {ans : List Int} {vt : Value} {acts : List S47} (S : Rn w W g T Aa ca (n :: ans) vt acts) (x : S40) (kind loc : Int) (h10 : x.f0 = 10) (ha0 : 0 ≤ x.f2) (ha1 : x.f2 < 400) (hd0 : 0 ≤ x.f1) (hd1 : x.f1 < 400) (hl : acts.length ≤ 1000) :
    Calls Try.prog 49 #[.pointer (some ⟨g, 0, none⟩), aIns x, .int .i64 kind, .int .i64 loc] W fun e W' => e = .returned (.bool true) ∧ (∃ Ab v1, Rn w W' g (T.set x.f1.toNat n) Ab (ca - 1) ans v1 (acts ++ [⟨kind, loc, n, rd T x.f2⟩])) ∧ KeepBut W W' g vt.ownBlock := by
  have hne : ¬ W.heap.size = g := by have := S.lt; omega
  have SS := Aside0.mk S
  clear S
  have c1 : (x.f0 == 10) = true := by rw [h10]; rfl
  have c2 : (x.f0 == 11) = false := by rw [h10]; rfl
  clear h10
  unfold aIns
  go_enter Try.func49, Try.ntmps49
  go_wp2_with (go_at_call 52; refine (answer_cons (SS.out.alloc _)).mono ?_; rintro e w2 ⟨rfl, ⟨Ab, hs⟩, hk⟩; have S2 := Aside0.mk hs; have HK := Aside0.mk hk; have KX := Aside0.mk (hk.blk (blk_new W _) hne (by simp)); clear hs hk; have x0 := blk_cell KX.out 0; have x1 := blk_cell KX.out 1; have x2 := blk_cell KX.out 2; have hown := S2.out.own_ne; have hca := S2.out.cacts; have hlt := S2.out.lt; have hcd := S2.out.ctemp x.f1 hd0 hd1; have hfr := S2.out.frozen x.f1.toNat; have hxl := blk_lt KX.out; have hcA := S2.out.ctemp x.f2 ha0 ha1; have hfn := S2.out.frozen)

  go_region_law (fail)
  go_wp2
  go_region_law (fail)
  have hn4 : ¬ (401 : Nat) = x.f1.toNat := by omega
  have S5 := Aside0.mk (((S2.out.put_temp x.f1 hd0 hd1 n).alloc (.cells #[.int .i64 kind, .int .i64 loc, .int .i64 n, .int .i64 (rd T x.f2)] 47)).drew.drew.drew)
  have HK5 : Aside0 (KeepBut w2 ((w2.setCell ⟨g, x.f1.toNat, none⟩ (.int .i64 n)).alloc (.cells #[.int .i64 kind, .int .i64 loc, .int .i64 n, .int .i64 (rd T x.f2)] 47)).drew.drew.drew g none) := ⟨keep_alloc ((KeepBut.refl _ _ _).set_ _ _) _⟩
  go_wp2
  go_region_law
    ((refine Kd.R_append_step k47 (w0 := w) w.heap.size (by rfl) _ _ 29 47 _ 32 rfl Try.underlying29 info47 rfl (by decide) (by decide) vt acts ⟨kind, loc, n, rd T x.f2⟩ [.int .i64 kind, .int .i64 loc, .int .i64 n, .int .i64 (rd T x.f2)] (fun q => q ≠ g) (fun _ => False) (by rfl) (by simp [Act.eval]) (k47_mkM _ _ _ ⟨kind, loc, n, rd T x.f2⟩) (fun _ h => h.elim) (fun k hk he => absurd hk (by subst he; simp; omega)) S5.out.RT S5.out.HB S5.out.HB.size (by omega) ?_; intro v1 w1 hR hB hg hat; obtain ⟨A1, c1, rfl⟩ := Kd.R_slice hR; have HE := Aside0.mk (S5.out.appended (o := .cells #[] 0) hR hB hg); have hc1 := blk_cell (blk_grown S5.out.blk hg hown) 401; rw [rcells_acts _ _ _ S5.out.TL] at hc1; have hf1 := blk_frozen (blk_grown S5.out.blk hg hown) 401; clear hR hB hg hat))
  all_goals go_wp2
  all_goals go_ret
  all_goals (have h_ := HE.out; simp only [List.length_append, List.length_cons, List.length_nil, Nat.zero_add] at h_; exact ⟨rfl, ⟨_, _, h_.1⟩, kb_then (kb_alloc HK.out) (kb_then HK5.out h_.2)⟩)
set_option maxHeartbeats 1000000 in
set_option maxRecDepth 100000 in
theorem ask_inc {w W : World} {g : Nat} {T : List Int} {Aa : Option Addr} {ca : Nat} {n : Int} {ans : List Int} {vt : Value} {acts : List S47} (S : Rn w W g T Aa ca (n :: ans) vt acts) (x : S40) (kind loc : Int) (h10 : x.f0 = 11) (ha0 : 0 ≤ x.f2) (ha1 : x.f2 < 400) (hd0 : 0 ≤ x.f1) (hd1 : x.f1 < 400) (hl : acts.length ≤ 1000) :
    Calls Try.prog 49 #[.pointer (some ⟨g, 0, none⟩), aIns x, .int .i64 kind, .int .i64 loc] W fun e W' => e = .returned (.bool true) ∧ (∃ Ab v1, Rn w W' g (T.set x.f1.toNat n) Ab (ca - 1) ans v1 (acts ++ [⟨kind, loc, n, IntKind.i64.wrap (n + rd T x.f2)⟩])) ∧ KeepBut W W' g vt.ownBlock := by
  have hne : ¬ W.heap.size = g := by have := S.lt; omega
  have SS := Aside0.mk S
  clear S
  have c1 : (x.f0 == 10) = false := by rw [h10]; rfl
  have c2 : (x.f0 == 11) = true := by rw [h10]; rfl
  clear h10
  unfold aIns
  go_enter Try.func49, Try.ntmps49
  go_wp2_with (go_at_call 52; refine (answer_cons (SS.out.alloc _)).mono ?_; rintro e w2 ⟨rfl, ⟨Ab, hs⟩, hk⟩; have S2 := Aside0.mk hs; have HK := Aside0.mk hk; have KX := Aside0.mk (hk.blk (blk_new W _) hne (by simp)); clear hs hk; have x0 := blk_cell KX.out 0; have x1 := blk_cell KX.out 1; have x2 := blk_cell KX.out 2; have hown := S2.out.own_ne; have hca := S2.out.cacts; have hlt := S2.out.lt; have hcd := S2.out.ctemp x.f1 hd0 hd1; have hfr := S2.out.frozen x.f1.toNat; have hxl := blk_lt KX.out; have hcA := S2.out.ctemp x.f2 ha0 ha1; have hfn := S2.out.frozen)

  go_region_law (fail)
  go_wp2
  go_region_law (fail)
  have hn4 : ¬ (401 : Nat) = x.f1.toNat := by omega
  have S5 := Aside0.mk (((S2.out.put_temp x.f1 hd0 hd1 n).alloc (.cells #[.int .i64 kind, .int .i64 loc, .int .i64 n, .int .i64 (IntKind.i64.wrap (n + rd T x.f2))] 47)).drew.drew.drew)
  have HK5 : Aside0 (KeepBut w2 ((w2.setCell ⟨g, x.f1.toNat, none⟩ (.int .i64 n)).alloc (.cells #[.int .i64 kind, .int .i64 loc, .int .i64 n, .int .i64 (IntKind.i64.wrap (n + rd T x.f2))] 47)).drew.drew.drew g none) := ⟨keep_alloc ((KeepBut.refl _ _ _).set_ _ _) _⟩
  go_wp2
  go_region_law
    ((refine Kd.R_append_step k47 (w0 := w) w.heap.size (by rfl) _ _ 29 47 _ 32 rfl Try.underlying29 info47 rfl (by decide) (by decide) vt acts ⟨kind, loc, n, IntKind.i64.wrap (n + rd T x.f2)⟩ [.int .i64 kind, .int .i64 loc, .int .i64 n, .int .i64 (IntKind.i64.wrap (n + rd T x.f2))] (fun q => q ≠ g) (fun _ => False) (by rfl) (by simp [Act.eval]) (k47_mkM _ _ _ ⟨kind, loc, n, IntKind.i64.wrap (n + rd T x.f2)⟩) (fun _ h => h.elim) (fun k hk he => absurd hk (by subst he; simp; omega)) S5.out.RT S5.out.HB S5.out.HB.size (by omega) ?_; intro v1 w1 hR hB hg hat; obtain ⟨A1, c1, rfl⟩ := Kd.R_slice hR; have HE := Aside0.mk (S5.out.appended (o := .cells #[] 0) hR hB hg); have hc1 := blk_cell (blk_grown S5.out.blk hg hown) 401; rw [rcells_acts _ _ _ S5.out.TL] at hc1; have hf1 := blk_frozen (blk_grown S5.out.blk hg hown) 401; clear hR hB hg hat))
  all_goals go_wp2
  all_goals go_ret
  all_goals (have h_ := HE.out; simp only [List.length_append, List.length_cons, List.length_nil, Nat.zero_add] at h_; exact ⟨rfl, ⟨_, _, h_.1⟩, kb_then (kb_alloc HK.out) (kb_then HK5.out h_.2)⟩)
end Go.Proofs.Ytdmbnlpcfgphpaa.Q
