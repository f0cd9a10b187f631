/- Equal lists are the same: by the printed functions. -/
import Derived.Test.YtdmbnlpcfgphpaaPst
import Derived.Test.YtdmbnlpcfgphpaaQx8
import Derived.Test.YtdmbnlpcfgphpaaQx9
namespace Go.Proofs.Ytdmbnlpcfgphpaa.Q
open Go.RowKit Go.Proofs.YtdmbnlpcfgphpaaW.PrintWords Go.Proofs.YtdmbnlpcfgphpaaW.PrintLast Go.Proofs.YtdmbnlpcfgphpaaW.PrintMore
set_option linter.unusedVariables false
set_option linter.unusedSimpArgs false
theorem same_l0 (l : List S47) (hl : l.length ≤ 100000) : ∀ (r i k : Nat), l.length = i + r → r < k → selvageref08_Same.l0 k l l (i : Int) = some true
  | 0, i, k + 1, h, _ => by
    simp only [selvageref08_Same.l0]
    rw [if_neg (by omega)]
  | r + 1, i, k + 1, h, hk => by
    simp only [selvageref08_Same.l0]
    rw [if_pos (by omega), if_pos (by omega), if_pos (by omega), show wrap64 ((i : Int) + 1) = ((i + 1 : Nat) : Int) by rw [wrap_of (by omega) (by omega)]; omega]
    rw [if_neg (by simp)]
    exact same_l0 l hl r (i + 1) k (by omega) (by omega)
theorem same_self (l : List S47) (hl : l.length ≤ 100000) (k : Nat) (hk : l.length < k) : selvageref08_Same.f k l l = some true := by
  unfold selvageref08_Same.f
  rw [if_pos rfl]
  exact same_l0 l hl l.length 0 k (by omega) hk
theorem trace_self (l : List S47) (s : Int) (hl : l.length ≤ 100000) (k : Nat) (hk : l.length < k) : selvageref08_SameTrace.f k l s l s = some true := by
  unfold selvageref08_SameTrace.f
  rw [if_pos rfl, same_self l hl k hk]
  rfl
end Go.Proofs.Ytdmbnlpcfgphpaa.Q
