-- Printed by qprint.py (a program of this session, round the print): not a text of print.sh. Lean checks it.
import Derived.Test.YtdmbnlpcfgphpaaQx0
import Derived.Test.YtdmbnlpcfgphpaaFul
namespace Go.Proofs.Ytdmbnlpcfgphpaa.Q
open Go.RowKit Go.Proofs.YtdmbnlpcfgphpaaW.PrintWords Go.Proofs.YtdmbnlpcfgphpaaW.PrintLast Go.Proofs.YtdmbnlpcfgphpaaW.PrintMore
attribute [local go_sem] max2_int min2_int max_two min_two max_three min_three max_four min_four   -- for this text's walks alone
set_option linter.unusedVariables false
set_option linter.unusedSimpArgs false

/-! ### again_Full: function 27: my own text -/
def again_Full.f (l0 : List S40) (l1 : List S80) (l2 : List Int) : Option (List (Int) × Int) := if l1.length ≤ 1000 ∧ l2.length ≤ 100000 ∧ (l0.all fun x => (Lit.int .i64 x.f6).wf) = true ∧ (l2.all fun x => (Lit.int .i64 x).wf) = true then some (agF l0 l1 l2) else none
theorem again_Full.calls (A0 : Option Addr) (c0 : Nat) (l0 : List S40) (A1 : Option Addr) (c1 : Nat) (l1 : List S80) (A2 : Option Addr) (c2 : Nat) (l2 : List Int) (r1 : List (Int)) (r2 : Int) (w : World) (hr0 : Kd.C k40 w A0 l0.length l0) (hc0 : l0.length ≤ c0) (hr1 : Kd.C k80 w A1 l1.length l1) (hc1 : l1.length ≤ c1) (hr2 : Kd.C (Kd.int .i64) w A2 l2.length l2) (hc2 : l2.length ≤ c2) (h : again_Full.f l0 l1 l2 = some (r1, r2)) :
    Calls Try.prog 27 #[.slice A0 l0.length c0, .slice A1 l1.length c1, .slice A2 l2.length c2] w fun e w' => ∃ v0_ : Value, e = .returned (.tuple #[v0_, .int .i64 r2]) ∧ Kd.R (Kd.int .i64) 2 w' w.heap.size (fun _ => True) v0_ r1 ∧ Below w.heap.size w w' := by
  unfold again_Full.f at h
  split at h
  · rename_i hs
    have hR : agF l0 l1 l2 = (r1, r2) := Option.some.inj h
    refine (full_any A0 c0 l0 A1 c1 l1 A2 c2 l2 w hr0 hc0 hr1 hc1 hs.1 hr2 hc2 hs.2.1 (fun i hi => ?_) (fun x hx => ?_)).mono ?_
    · have h1 := List.all_eq_true.1 hs.2.2.1 (ins l0 i) (by unfold ins; rw [List.getD_eq_getElem?_getD, List.getElem?_eq_getElem hi]; exact List.getElem_mem hi)
      exact h1
    · exact List.all_eq_true.1 hs.2.2.2 x hx
    · rintro e w' ⟨v, h1, h2, h3⟩
      rw [hR] at h1 h2
      exact ⟨v, h1, h2, h3⟩
  · cases h

end Go.Proofs.Ytdmbnlpcfgphpaa.Q
