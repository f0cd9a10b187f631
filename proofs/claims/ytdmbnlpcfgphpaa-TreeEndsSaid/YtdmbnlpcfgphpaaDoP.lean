/- What runner.do leaves. -/
import Derived.Test.YtdmbnlpcfgphpaaAsk
namespace Go.Proofs.Ytdmbnlpcfgphpaa.Q
open Go.RowKit Go.Proofs.YtdmbnlpcfgphpaaW.PrintWords Go.Proofs.YtdmbnlpcfgphpaaW.PrintLast Go.Proofs.YtdmbnlpcfgphpaaW.PrintMore
set_option linter.unusedVariables false
def DoPost (w W : World) (g : Nat) (vt : Value) (next fin : Int) (T' ans' : List Int) (acts' : List S47) (e : Ending) (W' : World) : Prop :=
  e = .returned (.tuple #[.int .i64 next, .int .i64 fin]) ∧ (∃ Ab cb v1, Rn w W' g T' Ab cb ans' v1 acts') ∧ KeepBut W W' g vt.ownBlock
theorem cases_eq' {w W : World} {g : Nat} {T : List Int} {Aa : Option Addr} {ca : Nat} {n : Int} {ans : List Int} {vt : Value} {acts : List S47} (S : Rn w W g T Aa ca (n :: ans) vt acts) (i : Int) (x : S40) (a b : Int) (hn : n = a) (hi : 0 ≤ i) (hi' : i ≤ 1000) (hl : acts.length ≤ 1000) :
    Calls Try.prog 48 #[.pointer (some ⟨g, 0, none⟩), .int .i64 i, aIns x, .int .i64 a, .int .i64 b] W fun e W' => e = .returned (.tuple #[.int .i64 (i + 1), .int .i64 0]) ∧ (∃ Ab v1, Rn w W' g T Ab (ca - 1) ans v1 (acts ++ [⟨5, x.f4, n, b⟩])) ∧ KeepBut W W' g vt.ownBlock := by
  subst hn
  exact cases_eq S i x b hi hi' hl
end Go.Proofs.Ytdmbnlpcfgphpaa.Q
