/-
  No cell of these rows narrows 'for every input' (looked for: loops, veiled, ifaces, maps, wideKeys, modest, calm, conditions, laid).
  DERIVED. THE GIVEN ROWS OF THIS SEAT. 8 by the template 'for every input the law returns true; each argument reads behind the call as it read before'; 0 by the template 'total and deterministic' (their statements: YtdmbnlpcfgphpaaTotals.lean).
  GIVEN WITH THE SEED: the statements are not yours to turn. If you find one false, say at which input.
  Laid BY PROGRAM, IN A SANDBOX (cutbox-rows.mjs): the forced cells as the released guide's own fill.sh prints them over the translation fa145c52e3367296… (all of the seat's roots in one cut). By AI agents, Wed Nov 11 2026. No macro, syntax, notation, axiom, sorry.
-/
import Derived.Test.YtdmbnlpcfgphpaaChecked
import GoSem.Claim
import GoSem.ClaimJoined
import GoSem.ClaimMapViews
import Derived.JoinedTies
import Derived.KernelRfl
namespace Go.Proofs.Ytdmbnlpcfgphpaa
/- THE CELL 'sum', in the pinned program and in every row, IS THE sha256 OF THE DUMP (.gsa) THAT YtdmbnlpcfgphpaaProg.lean LOADS. Nothing in Lean hashes anything: it is a label: what it is worth is what the hold of that sum in a sandbox is worth. -/
noncomputable def Try.pinned : Pinned := { name := "ytdmbnlpcfgphpaa", sum := "fa145c52e3367296e89537a575bf8b695affe1e34edde63ea07acc43dbf5984c", checked := Try.checked }
namespace Rows
def none {H : Type} : Left H := { results := [], args := [] }

/-- 'selvagelaw10.TreeRuns': WHATEVER THE INPUT: true; the input reads as it did. -/
def treeRunsSpec : ChangeSpec := { name := "treeRuns", fn := fun _ => fun
  | [d1, d2, d3] => { results := [.lit (.bool true)], args := [d1, d2, d3] }
  | _ => none }
def treeRunsRow : OpenClaim := { program := "ytdmbnlpcfgphpaa", sum := "fa145c52e3367296e89537a575bf8b695affe1e34edde63ea07acc43dbf5984c", func := "selvage/selvagelaw10.TreeRuns", spec := "treeRuns", unfollowed := true, recurses := true, apart := false }
def TreeRunsSaid : Prop := treeRunsRow.holds Try.pinned (OpenSpec.ofChange treeRunsSpec)

/-- ITS FALSE NEIGHBOUR: 'it returns false'. Refute it at one input. -/
def treeRunsWrong : ChangeSpec := { name := "treeRuns", fn := fun _ => fun
  | [d1, d2, d3] => { results := [.lit (.bool false)], args := [d1, d2, d3] }
  | _ => none }
def TreeRunsWrongFalsely : Prop := treeRunsRow.holds Try.pinned (OpenSpec.ofChange treeRunsWrong)

/-- 'selvagelaw10.TreeMore': WHATEVER THE INPUT: true; the input reads as it did. -/
def treeMoreSpec : ChangeSpec := { name := "treeMore", fn := fun _ => fun
  | [d1, d2, d3, d4] => { results := [.lit (.bool true)], args := [d1, d2, d3, d4] }
  | _ => none }
def treeMoreRow : OpenClaim := { program := "ytdmbnlpcfgphpaa", sum := "fa145c52e3367296e89537a575bf8b695affe1e34edde63ea07acc43dbf5984c", func := "selvage/selvagelaw10.TreeMore", spec := "treeMore", unfollowed := true, recurses := true, apart := false }
def TreeMoreSaid : Prop := treeMoreRow.holds Try.pinned (OpenSpec.ofChange treeMoreSpec)

/-- ITS FALSE NEIGHBOUR: 'it returns false'. Refute it at one input. -/
def treeMoreWrong : ChangeSpec := { name := "treeMore", fn := fun _ => fun
  | [d1, d2, d3, d4] => { results := [.lit (.bool false)], args := [d1, d2, d3, d4] }
  | _ => none }
def TreeMoreWrongFalsely : Prop := treeMoreRow.holds Try.pinned (OpenSpec.ofChange treeMoreWrong)

/-- 'selvagelaw10.TreeNames': WHATEVER THE INPUT: true; the input reads as it did. -/
def treeNamesSpec : ChangeSpec := { name := "treeNames", fn := fun _ => fun
  | [d1, d2, d3, d4] => { results := [.lit (.bool true)], args := [d1, d2, d3, d4] }
  | _ => none }
def treeNamesRow : OpenClaim := { program := "ytdmbnlpcfgphpaa", sum := "fa145c52e3367296e89537a575bf8b695affe1e34edde63ea07acc43dbf5984c", func := "selvage/selvagelaw10.TreeNames", spec := "treeNames", unfollowed := true, recurses := true, apart := false }
def TreeNamesSaid : Prop := treeNamesRow.holds Try.pinned (OpenSpec.ofChange treeNamesSpec)

/-- ITS FALSE NEIGHBOUR: 'it returns false'. Refute it at one input. -/
def treeNamesWrong : ChangeSpec := { name := "treeNames", fn := fun _ => fun
  | [d1, d2, d3, d4] => { results := [.lit (.bool false)], args := [d1, d2, d3, d4] }
  | _ => none }
def TreeNamesWrongFalsely : Prop := treeNamesRow.holds Try.pinned (OpenSpec.ofChange treeNamesWrong)

/-- 'selvagelaw10.TreeEnds': WHATEVER THE INPUT: true; the input reads as it did. -/
def treeEndsSpec : ChangeSpec := { name := "treeEnds", fn := fun _ => fun
  | [d1, d2, d3] => { results := [.lit (.bool true)], args := [d1, d2, d3] }
  | _ => none }
def treeEndsRow : OpenClaim := { program := "ytdmbnlpcfgphpaa", sum := "fa145c52e3367296e89537a575bf8b695affe1e34edde63ea07acc43dbf5984c", func := "selvage/selvagelaw10.TreeEnds", spec := "treeEnds", unfollowed := true, recurses := true, apart := false }
def TreeEndsSaid : Prop := treeEndsRow.holds Try.pinned (OpenSpec.ofChange treeEndsSpec)

/-- ITS FALSE NEIGHBOUR: 'it returns false'. Refute it at one input. -/
def treeEndsWrong : ChangeSpec := { name := "treeEnds", fn := fun _ => fun
  | [d1, d2, d3] => { results := [.lit (.bool false)], args := [d1, d2, d3] }
  | _ => none }
def TreeEndsWrongFalsely : Prop := treeEndsRow.holds Try.pinned (OpenSpec.ofChange treeEndsWrong)

/-- 'selvagelaw13.AgainAll': WHATEVER THE INPUT: true; the input reads as it did. -/
def againAllSpec : ChangeSpec := { name := "againAll", fn := fun _ => fun
  | [d1, d2, d3] => { results := [.lit (.bool true)], args := [d1, d2, d3] }
  | _ => none }
def againAllRow : OpenClaim := { program := "ytdmbnlpcfgphpaa", sum := "fa145c52e3367296e89537a575bf8b695affe1e34edde63ea07acc43dbf5984c", func := "selvage/selvagelaw13.AgainAll", spec := "againAll", inPlace := ["maps.clone"], recurses := true, apart := false }
def AgainAllSaid : Prop := againAllRow.holds Try.pinned (OpenSpec.ofChange againAllSpec)

/-- ITS FALSE NEIGHBOUR: 'it returns false'. Refute it at one input. -/
def againAllWrong : ChangeSpec := { name := "againAll", fn := fun _ => fun
  | [d1, d2, d3] => { results := [.lit (.bool false)], args := [d1, d2, d3] }
  | _ => none }
def AgainAllWrongFalsely : Prop := againAllRow.holds Try.pinned (OpenSpec.ofChange againAllWrong)

/-- 'selvagelaw13.AgainCount': WHATEVER THE INPUT: true; the input reads as it did. -/
def againCountSpec : ChangeSpec := { name := "againCount", fn := fun _ => fun
  | [d1, d2] => { results := [.lit (.bool true)], args := [d1, d2] }
  | _ => none }
def againCountRow : OpenClaim := { program := "ytdmbnlpcfgphpaa", sum := "fa145c52e3367296e89537a575bf8b695affe1e34edde63ea07acc43dbf5984c", func := "selvage/selvagelaw13.AgainCount", spec := "againCount", inPlace := ["maps.clone"], recurses := true, apart := false }
def AgainCountSaid : Prop := againCountRow.holds Try.pinned (OpenSpec.ofChange againCountSpec)

/-- ITS FALSE NEIGHBOUR: 'it returns false'. Refute it at one input. -/
def againCountWrong : ChangeSpec := { name := "againCount", fn := fun _ => fun
  | [d1, d2] => { results := [.lit (.bool false)], args := [d1, d2] }
  | _ => none }
def AgainCountWrongFalsely : Prop := againCountRow.holds Try.pinned (OpenSpec.ofChange againCountWrong)

/-- 'selvagelaw13.AgainSame': WHATEVER THE INPUT: true; the input reads as it did. -/
def againSameSpec : ChangeSpec := { name := "againSame", fn := fun _ => fun
  | [d1, d2, d3] => { results := [.lit (.bool true)], args := [d1, d2, d3] }
  | _ => none }
def againSameRow : OpenClaim := { program := "ytdmbnlpcfgphpaa", sum := "fa145c52e3367296e89537a575bf8b695affe1e34edde63ea07acc43dbf5984c", func := "selvage/selvagelaw13.AgainSame", spec := "againSame", inPlace := ["maps.clone"], unfollowed := true, recurses := true, apart := false }
def AgainSameSaid : Prop := againSameRow.holds Try.pinned (OpenSpec.ofChange againSameSpec)

/-- ITS FALSE NEIGHBOUR: 'it returns false'. Refute it at one input. -/
def againSameWrong : ChangeSpec := { name := "againSame", fn := fun _ => fun
  | [d1, d2, d3] => { results := [.lit (.bool false)], args := [d1, d2, d3] }
  | _ => none }
def AgainSameWrongFalsely : Prop := againSameRow.holds Try.pinned (OpenSpec.ofChange againSameWrong)

/-- 'selvagelaw13.AgainOnce': WHATEVER THE INPUT: true; the input reads as it did. -/
def againOnceSpec : ChangeSpec := { name := "againOnce", fn := fun _ => fun
  | [d1, d2, d3] => { results := [.lit (.bool true)], args := [d1, d2, d3] }
  | _ => none }
def againOnceRow : OpenClaim := { program := "ytdmbnlpcfgphpaa", sum := "fa145c52e3367296e89537a575bf8b695affe1e34edde63ea07acc43dbf5984c", func := "selvage/selvagelaw13.AgainOnce", spec := "againOnce", inPlace := ["maps.clone"], unfollowed := true, recurses := true, apart := false }
def AgainOnceSaid : Prop := againOnceRow.holds Try.pinned (OpenSpec.ofChange againOnceSpec)

/-- ITS FALSE NEIGHBOUR: 'it returns false'. Refute it at one input. -/
def againOnceWrong : ChangeSpec := { name := "againOnce", fn := fun _ => fun
  | [d1, d2, d3] => { results := [.lit (.bool false)], args := [d1, d2, d3] }
  | _ => none }
def AgainOnceWrongFalsely : Prop := againOnceRow.holds Try.pinned (OpenSpec.ofChange againOnceWrong)

/- THE SECOND FORM. 'bulk': how many values and letters a reading holds, each counted each time it is reached (what is shared counts as often as it is met; a slice's spare places count too). A statement '..UptoSaid' is the law's where the arguments, and the package variables that the reading takes, are together of bulk at most 1048576: NARROWER than '..Said'. Prove '..Said' where nothing that the law and all that it calls make is longer than what came in: it says more and counts as full. Else prove '..UptoSaid'. A law counts once. -/
mutual
def uptoBulk {H : Type} : DataW H → Nat
  | .lit (.string bytes) => bytes.length + 1
  | .lit _ => 1
  | .nil => 1
  | .ptr d => uptoBulk d + 1
  | .slice elems spare => uptoBulkAll elems + uptoBulkAll spare + 1
  | .agg parts => uptoBulkAll parts + 1
  | .iface _ d => uptoBulk d + 1
  | .map entries => uptoBulkEntries entries + 1
  | .held _ => 1
def uptoBulkAll {H : Type} : List (DataW H) → Nat
  | [] => 0
  | d :: r => uptoBulk d + uptoBulkAll r
def uptoBulkEntries {H : Type} : List (Lit × DataW H) → Nat
  | [] => 0
  | x :: r => uptoBulkEntry x + uptoBulkEntries r
def uptoBulkEntry {H : Type} : Lit × DataW H → Nat
  | (.string bytes, d) => bytes.length + uptoBulk d + 1
  | (_, d) => uptoBulk d + 1
 end
def uptoSmall : (H : Type) → List (DataW H) → Bool := fun _ ds => decide (uptoBulkAll ds ≤ 1048576)
def OpenSpec.upto (s : _root_.Go.ChangeSpec) : _root_.Go.OpenSpec := { _root_.Go.OpenSpec.ofChange s with cond := some uptoSmall }

/-- 'selvagelaw10.TreeRuns', WHERE WHAT IT READS IS OF BULK AT MOST 1048576: true; the input reads as it did. -/
def treeRunsUptoRow : OpenClaim := { program := "ytdmbnlpcfgphpaa", sum := "fa145c52e3367296e89537a575bf8b695affe1e34edde63ea07acc43dbf5984c", func := "selvage/selvagelaw10.TreeRuns", spec := "treeRuns", unfollowed := true, recurses := true, apart := false, narrowed := true }
def TreeRunsUptoSaid : Prop := treeRunsUptoRow.holds Try.pinned (OpenSpec.upto treeRunsSpec)

/-- 'selvagelaw10.TreeMore', WHERE WHAT IT READS IS OF BULK AT MOST 1048576: true; the input reads as it did. -/
def treeMoreUptoRow : OpenClaim := { program := "ytdmbnlpcfgphpaa", sum := "fa145c52e3367296e89537a575bf8b695affe1e34edde63ea07acc43dbf5984c", func := "selvage/selvagelaw10.TreeMore", spec := "treeMore", unfollowed := true, recurses := true, apart := false, narrowed := true }
def TreeMoreUptoSaid : Prop := treeMoreUptoRow.holds Try.pinned (OpenSpec.upto treeMoreSpec)

/-- 'selvagelaw10.TreeNames', WHERE WHAT IT READS IS OF BULK AT MOST 1048576: true; the input reads as it did. -/
def treeNamesUptoRow : OpenClaim := { program := "ytdmbnlpcfgphpaa", sum := "fa145c52e3367296e89537a575bf8b695affe1e34edde63ea07acc43dbf5984c", func := "selvage/selvagelaw10.TreeNames", spec := "treeNames", unfollowed := true, recurses := true, apart := false, narrowed := true }
def TreeNamesUptoSaid : Prop := treeNamesUptoRow.holds Try.pinned (OpenSpec.upto treeNamesSpec)

/-- 'selvagelaw10.TreeEnds', WHERE WHAT IT READS IS OF BULK AT MOST 1048576: true; the input reads as it did. -/
def treeEndsUptoRow : OpenClaim := { program := "ytdmbnlpcfgphpaa", sum := "fa145c52e3367296e89537a575bf8b695affe1e34edde63ea07acc43dbf5984c", func := "selvage/selvagelaw10.TreeEnds", spec := "treeEnds", unfollowed := true, recurses := true, apart := false, narrowed := true }
def TreeEndsUptoSaid : Prop := treeEndsUptoRow.holds Try.pinned (OpenSpec.upto treeEndsSpec)

/-- 'selvagelaw13.AgainAll', WHERE WHAT IT READS IS OF BULK AT MOST 1048576: true; the input reads as it did. -/
def againAllUptoRow : OpenClaim := { program := "ytdmbnlpcfgphpaa", sum := "fa145c52e3367296e89537a575bf8b695affe1e34edde63ea07acc43dbf5984c", func := "selvage/selvagelaw13.AgainAll", spec := "againAll", inPlace := ["maps.clone"], recurses := true, apart := false, narrowed := true }
def AgainAllUptoSaid : Prop := againAllUptoRow.holds Try.pinned (OpenSpec.upto againAllSpec)

/-- 'selvagelaw13.AgainCount', WHERE WHAT IT READS IS OF BULK AT MOST 1048576: true; the input reads as it did. -/
def againCountUptoRow : OpenClaim := { program := "ytdmbnlpcfgphpaa", sum := "fa145c52e3367296e89537a575bf8b695affe1e34edde63ea07acc43dbf5984c", func := "selvage/selvagelaw13.AgainCount", spec := "againCount", inPlace := ["maps.clone"], recurses := true, apart := false, narrowed := true }
def AgainCountUptoSaid : Prop := againCountUptoRow.holds Try.pinned (OpenSpec.upto againCountSpec)

/-- 'selvagelaw13.AgainSame', WHERE WHAT IT READS IS OF BULK AT MOST 1048576: true; the input reads as it did. -/
def againSameUptoRow : OpenClaim := { program := "ytdmbnlpcfgphpaa", sum := "fa145c52e3367296e89537a575bf8b695affe1e34edde63ea07acc43dbf5984c", func := "selvage/selvagelaw13.AgainSame", spec := "againSame", inPlace := ["maps.clone"], unfollowed := true, recurses := true, apart := false, narrowed := true }
def AgainSameUptoSaid : Prop := againSameUptoRow.holds Try.pinned (OpenSpec.upto againSameSpec)

/-- 'selvagelaw13.AgainOnce', WHERE WHAT IT READS IS OF BULK AT MOST 1048576: true; the input reads as it did. -/
def againOnceUptoRow : OpenClaim := { program := "ytdmbnlpcfgphpaa", sum := "fa145c52e3367296e89537a575bf8b695affe1e34edde63ea07acc43dbf5984c", func := "selvage/selvagelaw13.AgainOnce", spec := "againOnce", inPlace := ["maps.clone"], unfollowed := true, recurses := true, apart := false, narrowed := true }
def AgainOnceUptoSaid : Prop := againOnceUptoRow.holds Try.pinned (OpenSpec.upto againOnceSpec)

end Rows
end Go.Proofs.Ytdmbnlpcfgphpaa
