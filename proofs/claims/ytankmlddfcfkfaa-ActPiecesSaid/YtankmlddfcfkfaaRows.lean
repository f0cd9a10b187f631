/-
  No cell of these rows narrows 'for every input' (looked for: loops, veiled, ifaces, maps, wideKeys, modest, calm, conditions, laid).
  DERIVED. THE GIVEN ROWS OF THIS SEAT. 4 by the template 'for every input the law returns true; each argument reads behind the call as it read before'; 0 by the template 'total and deterministic' (their statements: YtankmlddfcfkfaaTotals.lean).
  GIVEN WITH THE SEED: the statements are not yours to turn. If you find one false, say at which input.
  Laid BY PROGRAM, IN A SANDBOX (cutbox-rows.mjs): the forced cells as the released guide's own fill.sh prints them over the translation 2d731dab21a71093… (all of the seat's roots in one cut). By AI agents, Wed Nov 11 2026. No macro, syntax, notation, axiom, sorry.
-/
import Derived.Test.YtankmlddfcfkfaaChecked
import GoSem.Claim
import GoSem.ClaimJoined
import GoSem.ClaimMapViews
import Derived.JoinedTies
import Derived.KernelRfl
namespace Go.Proofs.Ytankmlddfcfkfaa
/- THE CELL 'sum', in the pinned program and in every row, IS THE sha256 OF THE DUMP (.gsa) THAT YtankmlddfcfkfaaProg.lean LOADS. Nothing in Lean hashes anything: it is a label: what it is worth is what the hold of that sum in a sandbox is worth. -/
noncomputable def Try.pinned : Pinned := { name := "ytankmlddfcfkfaa", sum := "2d731dab21a71093ef2bb36ec8dc1e6566893fcb9b58209ad013fe97de2d4807", checked := Try.checked }
namespace Rows
def none {H : Type} : Left H := { results := [], args := [] }

/-- 'selvagelaw08.ActTiles': WHATEVER THE INPUT: true; the input reads as it did. -/
def actTilesSpec : ChangeSpec := { name := "actTiles", fn := fun _ => fun
  | [d] => { results := [.lit (.bool true)], args := [d] }
  | _ => none }
def actTilesRow : OpenClaim := { program := "ytankmlddfcfkfaa", sum := "2d731dab21a71093ef2bb36ec8dc1e6566893fcb9b58209ad013fe97de2d4807", func := "selvage/selvagelaw08.ActTiles", spec := "actTiles", apart := false }
def ActTilesSaid : Prop := actTilesRow.holds Try.pinned (OpenSpec.ofChange actTilesSpec)

/-- ITS FALSE NEIGHBOUR: 'it returns false'. Refute it at one input. -/
def actTilesWrong : ChangeSpec := { name := "actTiles", fn := fun _ => fun
  | [d] => { results := [.lit (.bool false)], args := [d] }
  | _ => none }
def ActTilesWrongFalsely : Prop := actTilesRow.holds Try.pinned (OpenSpec.ofChange actTilesWrong)

/-- 'selvagelaw08.ActRight': WHATEVER THE INPUT: true; the input reads as it did. -/
def actRightSpec : ChangeSpec := { name := "actRight", fn := fun _ => fun
  | [d1, d2] => { results := [.lit (.bool true)], args := [d1, d2] }
  | _ => none }
def actRightRow : OpenClaim := { program := "ytankmlddfcfkfaa", sum := "2d731dab21a71093ef2bb36ec8dc1e6566893fcb9b58209ad013fe97de2d4807", func := "selvage/selvagelaw08.ActRight", spec := "actRight", apart := false }
def ActRightSaid : Prop := actRightRow.holds Try.pinned (OpenSpec.ofChange actRightSpec)

/-- ITS FALSE NEIGHBOUR: 'it returns false'. Refute it at one input. -/
def actRightWrong : ChangeSpec := { name := "actRight", fn := fun _ => fun
  | [d1, d2] => { results := [.lit (.bool false)], args := [d1, d2] }
  | _ => none }
def ActRightWrongFalsely : Prop := actRightRow.holds Try.pinned (OpenSpec.ofChange actRightWrong)

/-- 'selvagelaw08.ActAnswers': WHATEVER THE INPUT: true; the input reads as it did. -/
def actAnswersSpec : ChangeSpec := { name := "actAnswers", fn := fun _ => fun
  | [d] => { results := [.lit (.bool true)], args := [d] }
  | _ => none }
def actAnswersRow : OpenClaim := { program := "ytankmlddfcfkfaa", sum := "2d731dab21a71093ef2bb36ec8dc1e6566893fcb9b58209ad013fe97de2d4807", func := "selvage/selvagelaw08.ActAnswers", spec := "actAnswers", apart := false }
def ActAnswersSaid : Prop := actAnswersRow.holds Try.pinned (OpenSpec.ofChange actAnswersSpec)

/-- ITS FALSE NEIGHBOUR: 'it returns false'. Refute it at one input. -/
def actAnswersWrong : ChangeSpec := { name := "actAnswers", fn := fun _ => fun
  | [d] => { results := [.lit (.bool false)], args := [d] }
  | _ => none }
def ActAnswersWrongFalsely : Prop := actAnswersRow.holds Try.pinned (OpenSpec.ofChange actAnswersWrong)

/-- 'selvagelaw08.ActPieces': WHATEVER THE INPUT: true; the input reads as it did. -/
def actPiecesSpec : ChangeSpec := { name := "actPieces", fn := fun _ => fun
  | [d1, d2] => { results := [.lit (.bool true)], args := [d1, d2] }
  | _ => none }
def actPiecesRow : OpenClaim := { program := "ytankmlddfcfkfaa", sum := "2d731dab21a71093ef2bb36ec8dc1e6566893fcb9b58209ad013fe97de2d4807", func := "selvage/selvagelaw08.ActPieces", spec := "actPieces", apart := false }
def ActPiecesSaid : Prop := actPiecesRow.holds Try.pinned (OpenSpec.ofChange actPiecesSpec)

/-- ITS FALSE NEIGHBOUR: 'it returns false'. Refute it at one input. -/
def actPiecesWrong : ChangeSpec := { name := "actPieces", fn := fun _ => fun
  | [d1, d2] => { results := [.lit (.bool false)], args := [d1, d2] }
  | _ => none }
def ActPiecesWrongFalsely : Prop := actPiecesRow.holds Try.pinned (OpenSpec.ofChange actPiecesWrong)

/- THE SECOND FORM. 'bulk': how many values and letters a reading holds, each counted each time it is reached (what is shared counts as often as it is met; a slice's spare places count too). A statement '..UptoSaid' is the law's where the arguments, and the package variables that the reading takes, are together of bulk at most 1048576: NARROWER than '..Said'. Prove '..Said' where nothing that the law and all that it calls make is longer than what came in: it says more and counts as full. Else prove '..UptoSaid'. A law counts once. -/
mutual
def uptoBulk {H : Type} : DataW H → Nat
  | .lit (.string bytes) => bytes.length + 1
  | .lit _ => 1
  | .nil => 1
  | .ptr d => uptoBulk d + 1
  | .slice elems spare => uptoBulkAll elems + uptoBulkAll spare + 1
  | .agg parts => uptoBulkAll parts + 1
  | .iface _ d => uptoBulk d + 1
  | .map entries => uptoBulkEntries entries + 1
  | .held _ => 1
def uptoBulkAll {H : Type} : List (DataW H) → Nat
  | [] => 0
  | d :: r => uptoBulk d + uptoBulkAll r
def uptoBulkEntries {H : Type} : List (Lit × DataW H) → Nat
  | [] => 0
  | x :: r => uptoBulkEntry x + uptoBulkEntries r
def uptoBulkEntry {H : Type} : Lit × DataW H → Nat
  | (.string bytes, d) => bytes.length + uptoBulk d + 1
  | (_, d) => uptoBulk d + 1
 end
def uptoSmall : (H : Type) → List (DataW H) → Bool := fun _ ds => decide (uptoBulkAll ds ≤ 1048576)
def OpenSpec.upto (s : _root_.Go.ChangeSpec) : _root_.Go.OpenSpec := { _root_.Go.OpenSpec.ofChange s with cond := some uptoSmall }

/-- 'selvagelaw08.ActTiles', WHERE WHAT IT READS IS OF BULK AT MOST 1048576: true; the input reads as it did. -/
def actTilesUptoRow : OpenClaim := { program := "ytankmlddfcfkfaa", sum := "2d731dab21a71093ef2bb36ec8dc1e6566893fcb9b58209ad013fe97de2d4807", func := "selvage/selvagelaw08.ActTiles", spec := "actTiles", apart := false, narrowed := true }
def ActTilesUptoSaid : Prop := actTilesUptoRow.holds Try.pinned (OpenSpec.upto actTilesSpec)

/-- 'selvagelaw08.ActRight', WHERE WHAT IT READS IS OF BULK AT MOST 1048576: true; the input reads as it did. -/
def actRightUptoRow : OpenClaim := { program := "ytankmlddfcfkfaa", sum := "2d731dab21a71093ef2bb36ec8dc1e6566893fcb9b58209ad013fe97de2d4807", func := "selvage/selvagelaw08.ActRight", spec := "actRight", apart := false, narrowed := true }
def ActRightUptoSaid : Prop := actRightUptoRow.holds Try.pinned (OpenSpec.upto actRightSpec)

/-- 'selvagelaw08.ActAnswers', WHERE WHAT IT READS IS OF BULK AT MOST 1048576: true; the input reads as it did. -/
def actAnswersUptoRow : OpenClaim := { program := "ytankmlddfcfkfaa", sum := "2d731dab21a71093ef2bb36ec8dc1e6566893fcb9b58209ad013fe97de2d4807", func := "selvage/selvagelaw08.ActAnswers", spec := "actAnswers", apart := false, narrowed := true }
def ActAnswersUptoSaid : Prop := actAnswersUptoRow.holds Try.pinned (OpenSpec.upto actAnswersSpec)

/-- 'selvagelaw08.ActPieces', WHERE WHAT IT READS IS OF BULK AT MOST 1048576: true; the input reads as it did. -/
def actPiecesUptoRow : OpenClaim := { program := "ytankmlddfcfkfaa", sum := "2d731dab21a71093ef2bb36ec8dc1e6566893fcb9b58209ad013fe97de2d4807", func := "selvage/selvagelaw08.ActPieces", spec := "actPieces", apart := false, narrowed := true }
def ActPiecesUptoSaid : Prop := actPiecesUptoRow.holds Try.pinned (OpenSpec.upto actPiecesSpec)

end Rows
end Go.Proofs.Ytankmlddfcfkfaa
