/- The pure statement of the law ActTiles: over lists and numbers alone; the conditions are what every argument of its type meets. -/
import Derived.Test.YtankmlddfcfkfaaPActTilesx4
namespace Go.Proofs.Ytankmlddfcfkfaa.StActTiles
open Go.RowKit Go.Proofs.YtankmlddfcfkfaaW.PrintWords Go.Proofs.YtankmlddfcfkfaaW.PrintLast Go.Proofs.Ytankmlddfcfkfaa.PActTiles
def good27 (x : S27) : Prop := (Lit.int .i64 x.f0).wf = true ∧ x.f1.size ≤ 140737488351232 ∧ (Lit.int .i64 x.f2).wf = true ∧ (Lit.int .i64 x.f3).wf = true
def Pure : Prop := ∀ (l0 : List S27), (∀ x ∈ l0, good27 x) → l0.length * 40 ≤ 140737488351232 → ∃ k, selvagelaw08_ActTiles.f k l0 = some true
end Go.Proofs.Ytankmlddfcfkfaa.StActTiles
