-- Printed by qprint.py (a program of this session, round the print): not a text of print.sh. Lean checks it.
import Derived.Test.YtdmbnlpcfgphpaaQx0
import Derived.Test.YtdmbnlpcfgphpaaAga
namespace Go.Proofs.Ytdmbnlpcfgphpaa.Q
open Go.RowKit Go.Proofs.YtdmbnlpcfgphpaaW.PrintWords Go.Proofs.YtdmbnlpcfgphpaaW.PrintLast Go.Proofs.YtdmbnlpcfgphpaaW.PrintMore
attribute [local go_sem] max2_int min2_int max_two min_two max_three min_three max_four min_four   -- for this text's walks alone
set_option linter.unusedVariables false
set_option linter.unusedSimpArgs false

/-! ### again_Again: function 26: my own text -/
def again_Again.f (l0 : List S40) (l1 : List S80) : Option (List (S40) × Int) := if l1.length ≤ 1000 then some (agA l0 l1) else none
theorem again_Again.calls (A0 : Option Addr) (c0 : Nat) (l0 : List S40) (A1 : Option Addr) (c1 : Nat) (l1 : List S80) (r1 : List (S40)) (r2 : Int) (w : World) (hr0 : Kd.C k40 w A0 l0.length l0) (hc0 : l0.length ≤ c0) (hr1 : Kd.C k80 w A1 l1.length l1) (hc1 : l1.length ≤ c1) (h : again_Again.f l0 l1 = some (r1, r2)) :
    Calls Try.prog 26 #[.slice A0 l0.length c0, .slice A1 l1.length c1] w fun e w' => ∃ v0_ : Value, e = .returned (.tuple #[v0_, .int .i64 r2]) ∧ Kd.R k40 40 w' w.heap.size (fun _ => True) v0_ r1 ∧ Below w.heap.size w w' := by
  unfold again_Again.f at h
  split at h
  · rename_i hs
    have hR : agA l0 l1 = (r1, r2) := Option.some.inj h
    refine (again_any A0 c0 l0 A1 c1 l1 w hr0 hc0 hr1 hc1 hs).mono ?_
    rintro e w' ⟨v, h1, h2, h3⟩
    rw [hR] at h1 h2
    exact ⟨v, h1, h2, h3⟩
  · cases h

end Go.Proofs.Ytdmbnlpcfgphpaa.Q
