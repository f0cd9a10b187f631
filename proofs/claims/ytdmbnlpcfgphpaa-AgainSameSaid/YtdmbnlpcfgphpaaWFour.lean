-- Cut from a text of print.sh (a program of this session): declarations that no text of the claim names are left out. Lean checks it.
import Derived.Test.YtdmbnlpcfgphpaaWTab
/-! ### 56. Four, five, six operations that may come up next, in any order -/
namespace Go.Proofs.YtdmbnlpcfgphpaaW.PrintLast
section
variable {P : Program} {ops : Array Oper} {Q : Exit → Act → World → Prop} {md : Region.Mode} {S : World → Prop} {ds : List Nat} {T : Bool × List (List Nat × List Nat)}
end
end Go.Proofs.YtdmbnlpcfgphpaaW.PrintLast
