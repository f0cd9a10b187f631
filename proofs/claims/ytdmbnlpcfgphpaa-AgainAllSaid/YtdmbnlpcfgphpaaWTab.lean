-- Cut from a text of print.sh (a program of this session): declarations that no text of the claim names are left out. Lean checks it.
import Derived.Test.YtdmbnlpcfgphpaaWLast
import Derived.Test.YtdmbnlpcfgphpaaWWords
/-! ### 50. A region's order in a table, made once a region: each step asks the table (numbers alone), not the operations -/
namespace Go.Proofs.YtdmbnlpcfgphpaaW.PrintLast
open Go.Proofs.YtdmbnlpcfgphpaaW.PrintWords (Aside0)
section
variable {md : Region.Mode} {ops : Array Oper} {T : Bool × List (List Nat × List Nat)} {l l' li lj lk : Array Bool} {ds : List Nat} {i j k : Nat}
end
end Go.Proofs.YtdmbnlpcfgphpaaW.PrintLast
