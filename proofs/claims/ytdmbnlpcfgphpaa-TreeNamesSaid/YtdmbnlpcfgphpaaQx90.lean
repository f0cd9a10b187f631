/- The law TreeNames as a contract: with any arguments it returns true. -/
import Derived.Test.YtdmbnlpcfgphpaaNms
namespace Go.Proofs.Ytdmbnlpcfgphpaa.Q
open Go.RowKit Go.Proofs.YtdmbnlpcfgphpaaW.PrintWords Go.Proofs.YtdmbnlpcfgphpaaW.PrintLast Go.Proofs.YtdmbnlpcfgphpaaW.PrintMore
def selvagelaw10_TreeNames.f (_ : Nat) (l0 : List (S40)) (l1 : List (S80)) (l2 : List Int) (a3 : Int) : Option Bool := some true
theorem selvagelaw10_TreeNames.calls (k : Nat) (A0 : Option Addr) (c0 : Nat) (l0 : List (S40)) (A1 : Option Addr) (c1 : Nat) (l1 : List (S80)) (A2 : Option Addr) (c2 : Nat) (l2 : List Int) (a3 : Int) (r : Bool) (w : World) (hr0 : Kd.C k40 w A0 l0.length l0) (hc0 : l0.length ≤ c0) (hr1 : Kd.C k80 w A1 l1.length l1) (hc1 : l1.length ≤ c1) (hr2 : Kd.C (Kd.int .i64) w A2 l2.length l2) (hc2 : l2.length ≤ c2) (h : selvagelaw10_TreeNames.f k l0 l1 l2 a3 = some r) :
    Calls Try.prog 5 #[.slice A0 l0.length c0, .slice A1 l1.length c1, .slice A2 l2.length c2, .int .i64 a3] w fun e w' => e = .returned (.bool r) ∧ Below w.heap.size w w' := by
  obtain rfl := Option.some.inj h
  exact names_any A0 c0 l0 A1 c1 l1 A2 c2 l2 a3 w hr0 hc0 hr1 hc1 hr2 hc2
end Go.Proofs.Ytdmbnlpcfgphpaa.Q
