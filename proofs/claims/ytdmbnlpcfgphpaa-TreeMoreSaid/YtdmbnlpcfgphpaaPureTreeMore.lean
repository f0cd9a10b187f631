/- The law TreeMore of the printed functions: with more answers right code goes on from where it starved, and does the same otherwise. -/
import Derived.Test.YtdmbnlpcfgphpaaStTreeMore
import Derived.Test.YtdmbnlpcfgphpaaPmore
import Derived.Test.YtdmbnlpcfgphpaaPsame
namespace Go.Proofs.Ytdmbnlpcfgphpaa.StTreeMore
open Go.RowKit Go.Proofs.YtdmbnlpcfgphpaaW.PrintWords Go.Proofs.YtdmbnlpcfgphpaaW.PrintLast Go.Proofs.Ytdmbnlpcfgphpaa.Q
theorem awake_10 : selvagelaw10_awake.f 10 = some true := by kernel_rfl
theorem awake_ev (k : Nat) (hk : 10 ≤ k) : selvagelaw10_awake.f k = some true := at_rounds selvagelaw10_awake.mono hk awake_10
theorem all : Pure := by
  intro l0 l1 l2 l3 _ _ _ _ _ _ _ _
  refine ⟨1999 + 1, ?_⟩
  unfold selvagelaw10_TreeMore.f
  rw [awake_ev _ (by omega), Option.bind_some, if_pos rfl]
  have done_ : selvagelaw10_TreeMore.j0 (1999 + 1) l0 l1 l2 l3 true = some true := by simp only [selvagelaw10_TreeMore.j0]; rfl
  by_cases h1 : (l0.length : Int) > 410
  · rw [if_pos h1]; exact done_
  rw [if_neg h1]
  by_cases h2 : (l1.length : Int) > 16
  · rw [if_pos h2]; exact done_
  rw [if_neg h2]
  by_cases h3 : (l2.length : Int) > 200
  · rw [if_pos h3]; exact done_
  rw [if_neg h3]
  by_cases h4 : (l3.length : Int) > 200
  · rw [decide_eq_true h4]; exact done_
  rw [decide_eq_false h4]
  simp only [selvagelaw10_TreeMore.j0]
  rw [if_neg (by decide)]
  have e1 : ∀ q, tree_Run.f l0 l1 q = some (runAll l0 l1 q) := fun q => by unfold tree_Run.f; rw [if_pos (by omega)]
  rw [e1, Option.bind_some, Option.bind_some, if_pos (by simp; omega), Option.bind_some, if_pos (by simp; omega), e1, Option.bind_some, List.nil_append]
  have ha := runAll_len l0 l1 l2
  have hb := runAll_len l0 l1 (l2 ++ l3)
  have key : ((runAll l0 l1 l2).2 ≠ 4 → runAll l0 l1 (l2 ++ l3) = runAll l0 l1 l2) ∧ ((runAll l0 l1 l2).2 = 4 → (runAll l0 l1 l2).1 <+: (runAll l0 l1 (l2 ++ l3)).1) := by
    unfold runAll
    cases hR : right l0 l1
    · exact ⟨fun _ => rfl, fun h => by simp at h⟩
    · exact runF_more l0 l3 l0.length 0 zT l2 []
  obtain ⟨k1, k2⟩ := key
  generalize runAll l0 l1 (l2 ++ l3) = B at k1 k2 hb ⊢
  generalize runAll l0 l1 l2 = A at k1 k2 ha ⊢
  by_cases hs : A.2 = 4
  · rw [if_pos hs]
    have hp := k2 hs
    have hle := hp.length_le
    rw [if_pos (by omega), if_pos (by omega), if_pos (by omega), Int.toNat_natCast, ← List.prefix_iff_eq_take.1 hp, same_self _ (by omega) _ (by omega)]
    rfl
  · rw [if_neg hs, k1 hs, trace_self _ _ (by omega) _ (by omega)]
    rfl
end Go.Proofs.Ytdmbnlpcfgphpaa.StTreeMore
namespace Go.Proofs.Ytdmbnlpcfgphpaa.Pure
theorem TreeMore : Go.Proofs.Ytdmbnlpcfgphpaa.StTreeMore.Pure := Go.Proofs.Ytdmbnlpcfgphpaa.StTreeMore.all
end Go.Proofs.Ytdmbnlpcfgphpaa.Pure
