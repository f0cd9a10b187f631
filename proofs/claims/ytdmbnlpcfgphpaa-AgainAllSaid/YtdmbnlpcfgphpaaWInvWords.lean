-- Cut from a text of print.sh (a program of this session): declarations that no text of the claim names are left out. Lean checks it.
import Derived.Test.YtdmbnlpcfgphpaaWInv
import Derived.Test.YtdmbnlpcfgphpaaWFootNe
namespace Go.Proofs.YtdmbnlpcfgphpaaW.PrintWords
open Go.RowKit
end Go.Proofs.YtdmbnlpcfgphpaaW.PrintWords
namespace Go.Proofs.YtdmbnlpcfgphpaaW.PrintLast
section
variable {ops : Array Oper} {a : Act} {o og : Oper} {g : Nat} {t : Tmp} {u : Bool}
end
end Go.Proofs.YtdmbnlpcfgphpaaW.PrintLast
