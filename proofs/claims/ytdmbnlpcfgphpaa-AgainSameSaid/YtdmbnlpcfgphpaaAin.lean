/- A piece as a value. -/
import Derived.Test.YtdmbnlpcfgphpaaTree
import Derived.Test.YtdmbnlpcfgphpaaPst
import Derived.Test.YtdmbnlpcfgphpaaRight
import Derived.Lib.Hide
import Derived.Deep.RegionLaw
import Derived.StillTailTactics
namespace Go.Proofs.Ytdmbnlpcfgphpaa.Q
open Go.RowKit
def aIns (x : S40) : Value := .agg #[.int .i64 x.f0, .int .i64 x.f1, .int .i64 x.f2, .int .i64 x.f3, .int .i64 x.f4, .int .i64 x.f5, .int .i64 x.f6, .int .i64 x.f7]
end Go.Proofs.Ytdmbnlpcfgphpaa.Q
