/- Any text has the document's words, or its first fault, at its place: the pure statement of LexReads, proved; no further condition. -/
import Derived.Test.YtepofemoodaknaaQx23
import Derived.Test.YtepofemoodaknaaSim3
namespace Go.Proofs.Ytepofemoodaknaa.Pure
open Go.RowKit Go.Proofs.Ytepofemoodaknaa.Q Go.Proofs.YtepofemoodaknaaW.PrintWords Go.Proofs.YtepofemoodaknaaW.PrintLast Go.Proofs.Ytepofemoodaknaa
namespace Reads
theorem same_l (l : List S32) (hl : l.length ≤ 10000) : ∀ (m i : Nat), l.length = i + m → Ev (fun k => selvageref04_Same.l0 k l l (i : Int)) true
  | 0, i, hm => by
    refine Ev.step (f := fun _ => some true) (fun k => ?_) (Ev.now _)
    simp only [selvageref04_Same.l0]
    rw [if_neg (by omega)]
  | m + 1, i, hm => by
    have ih := same_l l hl m (i + 1) (by omega)
    refine Ev.step (fun k => ?_) ih
    simp only [selvageref04_Same.l0]
    rw [if_pos (by omega), if_pos (by omega), if_pos (by omega), wrap_of (by omega) (by omega)]
    simp
theorem same_f (l : List S32) (hl : l.length ≤ 10000) : Ev (fun k => selvageref04_Same.f k l l) true := by
  refine Ev.congr (fun k => ?_) (same_l l hl l.length 0 (by omega))
  unfold selvageref04_Same.f
  rw [if_pos rfl]
  rfl
end Reads
theorem LexReads : selvagelaw04_LexReads.Pure := by
  intro s hs
  refine Ev.rounds (g := fun k => selvagelaw04_LexReads.f k s) ?_
  unfold selvagelaw04_LexReads.f
  refine Ev.bind F.awake ?_
  simp only [if_true]
  by_cases h : (s.size : Int) > 10000
  · simp only [if_pos h]
    exact Ev.now _
  simp only [if_neg h, F.toks_f s (by omega), Option.bind_some]
  refine Ev.bind (F.ref_toks s) ?_
  rcases hr : toksAll s with ⟨R, y, x⟩
  have hl : R.length ≤ 10000 := by
    by_cases hy : y = 0
    · subst hy
      have := F.all_ok hr
      omega
    · rw [(F.all_bad hr hy).1]; simp
  simp only
  refine Ev.bind (Reads.same_f R hl) ?_
  simp only [if_true]
  refine Ev.bind (F.isName_ev s (by omega)) ?_
  refine Ev.bind (F.ref_name s hs) ?_
  rw [beq_self_eq_true]
  exact Ev.now _
end Go.Proofs.Ytepofemoodaknaa.Pure
