-- Printed by qprint.py (a program of this session, round the print): not a text of print.sh. Lean checks it.
import Derived.Test.YtepofemoodaknaaQx0
import Derived.Test.YtepofemoodaknaaToks
namespace Go.Proofs.Ytepofemoodaknaa.Q
open Go.RowKit Go.Proofs.YtepofemoodaknaaW.PrintWords Go.Proofs.YtepofemoodaknaaW.PrintLast Go.Proofs.YtepofemoodaknaaW.PrintMore
attribute [local go_sem] max2_int min2_int max_two min_two max_three min_three max_four min_four   -- for this text's walks alone
set_option linter.unusedVariables false
set_option linter.unusedSimpArgs false

/-! ### lex_Tokens: function 9: my own text -/
def lex_Tokens.f (a0 : ByteArray) : Option (List (S32) × Int × Int) := if a0.size ≤ 140737488355328 then some (toksAll a0) else none
theorem lex_Tokens.calls (a0 : ByteArray) (r1 : List (S32)) (r2 : Int) (r3 : Int) (w : World) (h : lex_Tokens.f a0 = some (r1, r2, r3)) :
    Calls Try.prog 9 #[.string a0] w fun e w' => ∃ v0_ : Value, e = .returned (.tuple #[v0_, .int .i64 r2, .int .i64 r3]) ∧ Kd.R k32 32 w' w.heap.size (fun _ => True) v0_ r1 ∧ Below w.heap.size w w' := by
  unfold lex_Tokens.f at h
  split at h
  · rename_i hs
    have hR : toksAll a0 = (r1, r2, r3) := Option.some.inj h
    refine (tokens_any a0 w hs).mono ?_
    rintro e w' ⟨v, h1, h2, h3⟩
    rw [hR] at h1 h2
    exact ⟨v, h1, h2, h3⟩
  · cases h

end Go.Proofs.Ytepofemoodaknaa.Q
