/- The pure statement of the law ActPieces: over lists and numbers alone; the conditions are what every argument of its type meets. -/
import Derived.Test.YtankmlddfcfkfaaPActPiecesx4
namespace Go.Proofs.Ytankmlddfcfkfaa.StActPieces
open Go.RowKit Go.Proofs.YtankmlddfcfkfaaW.PrintWords Go.Proofs.YtankmlddfcfkfaaW.PrintLast Go.Proofs.Ytankmlddfcfkfaa.PActPieces
def good34 (x : S34) : Prop := (Lit.int .i64 x.f0).wf = true ∧ (Lit.int .i64 x.f1).wf = true ∧ (Lit.int .i64 x.f2).wf = true ∧ (Lit.int .i64 x.f3).wf = true
def Pure : Prop := ∀ (l0 : List S34) (l1 : List S34), (∀ x ∈ l0, good34 x) → l0.length * 32 ≤ 140737488351232 → (∀ x ∈ l1, good34 x) → l1.length * 32 ≤ 140737488351232 → ∃ k, selvagelaw08_ActPieces.f k l0 l1 = some true
end Go.Proofs.Ytankmlddfcfkfaa.StActPieces
