/- The pure statement of the law AgainOnce: over lists and numbers alone; the conditions are what every argument of its type meets. -/
import Derived.Test.YtdmbnlpcfgphpaaQm
namespace Go.Proofs.Ytdmbnlpcfgphpaa.StAgainOnce
open Go.RowKit Go.Proofs.YtdmbnlpcfgphpaaW.PrintWords Go.Proofs.YtdmbnlpcfgphpaaW.PrintLast Go.Proofs.Ytdmbnlpcfgphpaa.Q
def good40 (x : S40) : Prop := (Lit.int .i64 x.f0).wf = true ∧ (Lit.int .i64 x.f1).wf = true ∧ (Lit.int .i64 x.f2).wf = true ∧ (Lit.int .i64 x.f3).wf = true ∧ (Lit.int .i64 x.f4).wf = true ∧ (Lit.int .i64 x.f5).wf = true ∧ (Lit.int .i64 x.f6).wf = true ∧ (Lit.int .i64 x.f7).wf = true
def good80 (x : S80) : Prop := True ∧ (Lit.int .i64 x.f1).wf = true
def Pure : Prop := ∀ (l0 : List S40) (l1 : List S80) (l2 : List Int), (∀ x ∈ l0, good40 x) → l0.length * 64 ≤ 140737488351232 → (∀ x ∈ l1, good80 x) → l1.length * 16 ≤ 140737488351232 → (∀ x ∈ l2, (Lit.int .i64 x).wf = true) → l2.length * 8 ≤ 140737488351232 → ∃ k, selvagelaw13_AgainOnce.f k l0 l1 l2 = some true
end Go.Proofs.Ytdmbnlpcfgphpaa.StAgainOnce
