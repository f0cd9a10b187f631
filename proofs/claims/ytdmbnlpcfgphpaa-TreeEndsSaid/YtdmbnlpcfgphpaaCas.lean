/- The contract of runner.cases: a location is held against a number. -/
import Derived.Test.YtdmbnlpcfgphpaaAns
import Derived.Test.YtdmbnlpcfgphpaaWri
namespace Go.Proofs.Ytdmbnlpcfgphpaa.Q
open Go.RowKit Go.Proofs.YtdmbnlpcfgphpaaW.PrintWords Go.Proofs.YtdmbnlpcfgphpaaW.PrintLast Go.Proofs.YtdmbnlpcfgphpaaW.PrintMore
set_option linter.unusedVariables false
set_option linter.unusedSimpArgs false
def aIns (x : S40) : Value := .agg #[.int .i64 x.f0, .int .i64 x.f1, .int .i64 x.f2, .int .i64 x.f3, .int .i64 x.f4, .int .i64 x.f5, .int .i64 x.f6, .int .i64 x.f7]
theorem kb_none {w w1 : World} {g : Nat} {row : Option Nat} (h : KeepBut w w1 g none) : KeepBut w w1 g row := ⟨h.1, fun i h1 h2 _ => h.2 i h1 h2 (by simp)⟩
theorem kb_alloc {w w1 : World} {g : Nat} {row : Option Nat} {o : Obj} (h : KeepBut (w.alloc o) w1 g row) : KeepBut w w1 g row :=
  ⟨Nat.le_trans (below_alloc (Below.refl _ _) o).size h.1, fun i h1 h2 h3 => (h.2 i (Nat.lt_of_lt_of_le h1 (below_alloc (Below.refl _ _) o).size) h2 h3).trans (Below.heap_alloc w o i h1)⟩
theorem kb_then {w w1 w2 : World} {g : Nat} {row : Option Nat} (h : KeepBut w w1 g none) (k : KeepBut w1 w2 g row) : KeepBut w w2 g row :=
  ⟨Nat.le_trans h.1 k.1, fun i h1 h2 h3 => (k.2 i (Nat.lt_of_lt_of_le h1 h.1) h2 h3).trans (h.2 i h1 h2 (by simp))⟩
theorem cases_nil {w W : World} {g : Nat} {T : List Int} {Aa : Option Addr} {ca : Nat} {vt : Value} {acts : List S47} (S : Rn w W g T Aa ca [] vt acts) (i : Int) (x : S40) (a b : Int) :
    Calls Try.prog 48 #[.pointer (some ⟨g, 0, none⟩), .int .i64 i, aIns x, .int .i64 a, .int .i64 b] W fun e W' => e = .returned (.tuple #[.int .i64 0, .int .i64 4]) ∧ Rn w W' g T Aa ca [] vt acts ∧ KeepBut W W' g none := by
  have SS := Aside0.mk S
  clear S
  unfold aIns
  go_enter Try.func48, Try.ntmps48
  go_wp2_with (go_at_call 52; refine (answer_nil (SS.out.alloc _)).mono ?_; rintro e w' ⟨rfl, rfl⟩)
  go_ret2
  exact ⟨rfl, SS.out.alloc _, kb_alloc (KeepBut.refl _ _ _)⟩
set_option maxHeartbeats 1000000 in
set_option maxRecDepth 100000 in
theorem cases_ne {w W : World} {g : Nat} {T : List Int} {Aa : Option Addr} {ca : Nat} {n : Int} {ans : List Int} {vt : Value} {acts : List S47} (S : Rn w W g T Aa ca (n :: ans) vt acts) (i : Int) (x : S40) (a b : Int) (hn : n ≠ a) (hl : acts.length ≤ 1000) :
    Calls Try.prog 48 #[.pointer (some ⟨g, 0, none⟩), .int .i64 i, aIns x, .int .i64 a, .int .i64 b] W fun e W' => e = .returned (.tuple #[.int .i64 x.f7, .int .i64 0]) ∧ (∃ Ab v1, Rn w W' g T Ab (ca - 1) ans v1 (acts ++ [⟨3, x.f4, n, 0⟩])) ∧ KeepBut W W' g vt.ownBlock := by
  have hne : ¬ W.heap.size = g := by have := S.lt; omega
  have SS := Aside0.mk S
  clear S
  have c1 : (n != a) = true := by simpa using hn
  clear hn
  unfold aIns
  go_enter Try.func48, Try.ntmps48
  go_wp2_with (go_at_call 52; refine (answer_cons (SS.out.alloc _)).mono ?_; rintro e w2 ⟨rfl, ⟨Ab, hs⟩, hk⟩; have S2 := Aside0.mk hs; have HK := Aside0.mk hk; have KX := Aside0.mk (hk.blk (blk_new W _) hne (by simp)); clear hs hk; have x4 := blk_cell KX.out 4; have x7 := blk_cell KX.out 7; have hown := S2.out.own_ne; have hca := S2.out.cacts; have hlt := S2.out.lt)
  go_region_law
    ((refine Kd.R_append_step k47 (w0 := w) w.heap.size (by rfl) _ _ 29 47 _ 32 rfl Try.underlying29 info47 rfl (by decide) (by decide) vt acts ⟨3, x.f4, n, 0⟩ [.int .i64 3, .int .i64 x.f4, .int .i64 n, .int .i64 0] (fun q => q ≠ g) (fun _ => False) (by rfl) (by rfl) (k47_mkM _ _ _ ⟨3, x.f4, n, 0⟩) (fun _ h => h.elim) (fun k hk he => absurd hk (by subst he; simp; omega)) S2.out.drew.RT S2.out.drew.HB S2.out.drew.HB.size (by omega) ?_; intro v1 w1 hR hB hg hat; obtain ⟨A1, c1, rfl⟩ := Kd.R_slice hR; have HE := Aside0.mk (S2.out.drew.appended (o := .cells #[] 0) hR hB hg); have hc1 := blk_cell (blk_grown S2.out.drew.blk hg hown) 401; rw [rcells_acts _ _ _ S2.out.TL] at hc1; have hf1 := blk_frozen (blk_grown S2.out.drew.blk hg hown) 401; clear x4 x7; have KX1 := Aside0.mk (blk_grown (blk_drew KX.out) hg (Kd.R_ne S2.out.RT KX.out (by decide))); have x7 := blk_cell KX1.out 7; clear hR hB hg hat))
  all_goals go_wp2
  all_goals go_ret2
  all_goals (have h_ := HE.out; simp only [List.length_append, List.length_cons, List.length_nil, Nat.zero_add] at h_; exact ⟨rfl, ⟨_, _, h_.1⟩, kb_then (kb_alloc HK.out) h_.2⟩)
set_option maxHeartbeats 1000000 in
set_option maxRecDepth 100000 in
theorem cases_eq {w W : World} {g : Nat} {T : List Int} {Aa : Option Addr} {ca : Nat} {n : Int} {ans : List Int} {vt : Value} {acts : List S47} (S : Rn w W g T Aa ca (n :: ans) vt acts) (i : Int) (x : S40) (b : Int) (hi : 0 ≤ i) (hi' : i ≤ 1000) (hl : acts.length ≤ 1000) :
    Calls Try.prog 48 #[.pointer (some ⟨g, 0, none⟩), .int .i64 i, aIns x, .int .i64 n, .int .i64 b] W fun e W' => e = .returned (.tuple #[.int .i64 (i + 1), .int .i64 0]) ∧ (∃ Ab v1, Rn w W' g T Ab (ca - 1) ans v1 (acts ++ [⟨5, x.f4, n, b⟩])) ∧ KeepBut W W' g vt.ownBlock := by
  have hne : ¬ W.heap.size = g := by have := S.lt; omega
  have SS := Aside0.mk S
  clear S
  have c1 : (n != n) = false := by simp
  have e1 : wrap64 (i + 1) = i + 1 := wrap_of (by omega) (by omega)
  unfold aIns
  go_enter Try.func48, Try.ntmps48
  go_wp2_with (go_at_call 52; refine (answer_cons (SS.out.alloc _)).mono ?_; rintro e w2 ⟨rfl, ⟨Ab, hs⟩, hk⟩; have S2 := Aside0.mk hs; have HK := Aside0.mk hk; have KX := Aside0.mk (hk.blk (blk_new W _) hne (by simp)); clear hs hk; have x4 := blk_cell KX.out 4; have x7 := blk_cell KX.out 7; have hown := S2.out.own_ne; have hca := S2.out.cacts; have hlt := S2.out.lt)
  go_region_law
    ((refine Kd.R_append_step k47 (w0 := w) w.heap.size (by rfl) _ _ 29 47 _ 32 rfl Try.underlying29 info47 rfl (by decide) (by decide) vt acts ⟨5, x.f4, n, b⟩ [.int .i64 5, .int .i64 x.f4, .int .i64 n, .int .i64 b] (fun q => q ≠ g) (fun _ => False) (by rfl) (by rfl) (k47_mkM _ _ _ ⟨5, x.f4, n, b⟩) (fun _ h => h.elim) (fun k hk he => absurd hk (by subst he; simp; omega)) S2.out.drew.RT S2.out.drew.HB S2.out.drew.HB.size (by omega) ?_; intro v1 w1 hR hB hg hat; obtain ⟨A1, c1, rfl⟩ := Kd.R_slice hR; have HE := Aside0.mk (S2.out.drew.appended (o := .cells #[] 0) hR hB hg); have hc1 := blk_cell (blk_grown S2.out.drew.blk hg hown) 401; rw [rcells_acts _ _ _ S2.out.TL] at hc1; have hf1 := blk_frozen (blk_grown S2.out.drew.blk hg hown) 401; clear hR hB hg hat))
  all_goals go_wp2
  all_goals go_ret2
  all_goals (have h_ := HE.out; simp only [List.length_append, List.length_cons, List.length_nil, Nat.zero_add] at h_; exact ⟨rfl, ⟨_, _, h_.1⟩, kb_then (kb_alloc HK.out) h_.2⟩)
end Go.Proofs.Ytdmbnlpcfgphpaa.Q
