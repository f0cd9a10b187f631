/- The deferred closure of lex.Tokens: what recover makes of a fault. -/
import Derived.Test.YtepofemoodaknaaQx0
import Derived.RegionTactic
import Derived.ChangeAlike
import Derived.Defers
import Derived.Recover
namespace Go.Proofs.Ytepofemoodaknaa.Q
open Go.RowKit Go.Proofs.YtepofemoodaknaaW.PrintWords Go.Proofs.YtepofemoodaknaaW.PrintLast Go.Proofs.YtepofemoodaknaaW.PrintMore Go.Proofs.Ytepofemoodaknaa
theorem catch_idle (p0 p1 p2 : Addr) (w : World) :
    CallsD Try.prog 14 #[.pointer (some p0), .pointer (some p1), .pointer (some p2)] .returning w fun e u' w' => e = .returned (.tuple #[]) ∧ u' = .returning ∧ w' = w := by
  refine callsD_of_wpS Try.func14 rfl fun c₀ cs hu => ?_
  apply wpS_seq
  apply wpS_region
  simp [wpOpsS, go_sem, recoverD, hu, Try.ntmps14, Exit.thenS]
  refine wpS_of_wp ?_
  go_wp2
  cases c₀
  simp_all [bodyPostS, results, Try.results14]
theorem catch_panicking (b0 b1 b2 : Nat) (e0 at_ : Int) (x0 x1 x2 : Value) (w : World) (h0 : w.cell? ⟨b0, 0, none⟩ = some x0) (h1 : w.cell? ⟨b1, 0, none⟩ = some x1) (h2 : w.cell? ⟨b2, 0, none⟩ = some x2)
    (f0 : w.frozen? ⟨b0, 0, none⟩ = false) (f1 : w.frozen? ⟨b1, 0, none⟩ = false) (f2 : w.frozen? ⟨b2, 0, none⟩ = false) (l0 : b0 < w.heap.size) (l1 : b1 < w.heap.size) (l2 : b2 < w.heap.size) (h01 : b0 ≠ b1) (h02 : b0 ≠ b2) (h12 : b1 ≠ b2) :
    CallsD Try.prog 14 #[.pointer (some ⟨b0, 0, none⟩), .pointer (some ⟨b1, 0, none⟩), .pointer (some ⟨b2, 0, none⟩)] (.panicking [{ v := .iface 37 (.agg #[.int .i64 e0, .int .i64 at_]), recovered := false }]) w fun e u' w' =>
      e = .returned (.tuple #[]) ∧ u' = .panicking [{ v := .iface 37 (.agg #[.int .i64 e0, .int .i64 at_]), recovered := true }] ∧ w' = ((((w.setCell ⟨b0, 0, none⟩ (.slice none 0 0)).setCell ⟨b1, 0, none⟩ (.int .i64 e0)).setCell ⟨b2, 0, none⟩ (.int .i64 at_)).alloc (.cells #[.int .i64 e0, .int .i64 at_] 37)).drew := by
  have hta : ∀ (v : Value) (W : World), (Instr.typeAssert (.iface 37 v) 20 37 false).run Try.prog W = .ok v W := fun v W => by rfl
  have g0 : ∀ o, (w.alloc o).cell? ⟨b0, 0, none⟩ = some x0 := fun o => by rw [World.cell?_alloc_lt _ _ _ l0]; exact h0
  have g1 : ∀ o, (w.alloc o).cell? ⟨b1, 0, none⟩ = some x1 := fun o => by rw [World.cell?_alloc_lt _ _ _ l1]; exact h1
  have g2 : ∀ o, (w.alloc o).cell? ⟨b2, 0, none⟩ = some x2 := fun o => by rw [World.cell?_alloc_lt _ _ _ l2]; exact h2
  have k0 : ∀ o, (w.alloc o).frozen? ⟨b0, 0, none⟩ = false := fun o => by rw [World.frozen?_alloc_old _ _ _ (Nat.ne_of_lt l0)]; exact f0
  have k1 : ∀ o, (w.alloc o).frozen? ⟨b1, 0, none⟩ = false := fun o => by rw [World.frozen?_alloc_old _ _ _ (Nat.ne_of_lt l1)]; exact f1
  have k2 : ∀ o, (w.alloc o).frozen? ⟨b2, 0, none⟩ = false := fun o => by rw [World.frozen?_alloc_old _ _ _ (Nat.ne_of_lt l2)]; exact f2
  have n0 : ¬ w.heap.size = b0 := by omega
  have n1 : ¬ w.heap.size = b1 := by omega
  have n2 : ¬ w.heap.size = b2 := by omega
  refine callsD_of_wpS Try.func14 rfl fun c₀ cs hu => ?_
  apply wpS_seq
  apply wpS_region
  simp [wpOpsS, go_sem, recoverD, hu, Try.ntmps14, Exit.thenS]
  refine wpS_of_wp ?_
  have hfr : ∀ x : Value, (#[Value.pointer (some ⟨b0, 0, none⟩), .pointer (some ⟨b1, 0, none⟩), .pointer (some ⟨b2, 0, none⟩)] ++ (((Array.replicate 11 undef).setIfInBounds 2 x).setIfInBounds 0 x) : Array Value) = #[.pointer (some ⟨b0, 0, none⟩), .pointer (some ⟨b1, 0, none⟩), .pointer (some ⟨b2, 0, none⟩), x, undef, x, undef, undef, undef, undef, undef, undef, undef, undef] := fun x => rfl
  rw [hfr]
  clear hfr
  go_wp2
  go_region
  all_goals go_wp2
  cases c₀
  simp_all [bodyPostS, results, Try.results14]
end Go.Proofs.Ytepofemoodaknaa.Q
