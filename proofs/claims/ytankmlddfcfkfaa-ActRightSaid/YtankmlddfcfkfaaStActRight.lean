/- The pure statement of the law ActRight: over lists and numbers alone; the conditions are what every argument of its type meets. -/
import Derived.Test.YtankmlddfcfkfaaPActRightx4
namespace Go.Proofs.Ytankmlddfcfkfaa.StActRight
open Go.RowKit Go.Proofs.YtankmlddfcfkfaaW.PrintWords Go.Proofs.YtankmlddfcfkfaaW.PrintLast Go.Proofs.Ytankmlddfcfkfaa.PActRight
structure S34 where
  f0 : Int
  f1 : Int
  f2 : Int
  f3 : Int
def k34 : Kd S34 := Kd.iso (Kd.pair (Kd.int .i64) (Kd.pair (Kd.int .i64) (Kd.pair (Kd.int .i64) (Kd.int .i64)))) (fun x : S34 => (x.f0, x.f1, x.f2, x.f3))
theorem k34_open {w : World} {x : S34} {cs : List Value} (h : k34.K w x cs) : cs = [.int .i64 x.f0, .int .i64 x.f1, .int .i64 x.f2, .int .i64 x.f3] := by
  obtain ⟨_, _, rfl, rfl, ⟨_, _, rfl, rfl, ⟨_, _, rfl, rfl, rfl⟩⟩⟩ := h
  exact rfl
def good34 (x : S34) : Prop := (Lit.int .i64 x.f0).wf = true ∧ (Lit.int .i64 x.f1).wf = true ∧ (Lit.int .i64 x.f2).wf = true ∧ (Lit.int .i64 x.f3).wf = true
def good31 (x : S31) : Prop := True ∧ (Lit.int .i64 x.f1).wf = true
def Pure : Prop := ∀ (x0 : S34) (l1 : List S31), good34 x0 → (∀ x ∈ l1, good31 x) → l1.length * 16 ≤ 140737488351232 → ∃ k, selvagelaw08_ActRight.f k x0.f0 x0.f1 x0.f2 x0.f3 l1 = some true
end Go.Proofs.Ytankmlddfcfkfaa.StActRight
