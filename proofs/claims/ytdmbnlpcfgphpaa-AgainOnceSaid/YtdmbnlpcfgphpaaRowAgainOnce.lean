/- The row of the law AgainOnce: for every input the law returns true and its arguments read as before. -/
import Derived.Test.YtdmbnlpcfgphpaaRows
import Derived.Test.YtdmbnlpcfgphpaaPureAgainOnce
import Derived.Test.YtdmbnlpcfgphpaaOpen
import Derived.WalkKit
import Derived.ProofKit
import Derived.OpenShut
import Derived.ShutString
import Derived.ChangeOld
import Derived.Below
import Derived.SizedLaws
namespace Go.Proofs.Ytdmbnlpcfgphpaa.againOnce
open Go.ChangeShapes Go.WideShapes Go.ChangeAt Go.RowKit Go.Proofs.YtdmbnlpcfgphpaaW.PrintWords Go.Proofs.Ytdmbnlpcfgphpaa.Q Go.Proofs.Ytdmbnlpcfgphpaa.Opn Go.Proofs.Ytdmbnlpcfgphpaa.StAgainOnce
set_option linter.unusedVariables false
theorem o40 : Opn Try.prog 40 k40 good40 := Opn.struct Try.underlying40 (by kernel_rfl) (by kernel_rfl) (ts := [3, 3, 3, 3, 3, 3, 2, 3]) rfl (OpnF.cons (Opn.int Try.underlying3 (by kernel_rfl)) (by kernel_rfl) (OpnF.cons (Opn.int Try.underlying3 (by kernel_rfl)) (by kernel_rfl) (OpnF.cons (Opn.int Try.underlying3 (by kernel_rfl)) (by kernel_rfl) (OpnF.cons (Opn.int Try.underlying3 (by kernel_rfl)) (by kernel_rfl) (OpnF.cons (Opn.int Try.underlying3 (by kernel_rfl)) (by kernel_rfl) (OpnF.cons (Opn.int Try.underlying3 (by kernel_rfl)) (by kernel_rfl) (OpnF.cons (Opn.int Try.underlying2 (by kernel_rfl)) (by kernel_rfl) (OpnF.one (Opn.int Try.underlying3 (by kernel_rfl)) (by kernel_rfl))))))))) (fun x : S40 => (x.f0, x.f1, x.f2, x.f3, x.f4, x.f5, x.f6, x.f7)) (fun a => ⟨a.1, a.2.1, a.2.2.1, a.2.2.2.1, a.2.2.2.2.1, a.2.2.2.2.2.1, a.2.2.2.2.2.2.1, a.2.2.2.2.2.2.2⟩) (fun _ => rfl)
theorem o80 : Opn Try.prog 80 k80 good80 := Opn.struct Try.underlying80 (by kernel_rfl) (by kernel_rfl) (ts := [4, 2]) rfl (OpnF.cons (Opn.bool Try.underlying4 (by kernel_rfl)) (by kernel_rfl) (OpnF.one (Opn.int Try.underlying2 (by kernel_rfl)) (by kernel_rfl))) (fun x : S80 => (x.f0, x.f1)) (fun a => ⟨a.1, a.2⟩) (fun _ => rfl)
theorem own : ownKnob Try.prog.godebug = none := by kernel_rfl
theorem laidOut : laidOutB Try.prog = true := by kernel_rfl
set_option maxRecDepth 100000 in
theorem lifted (os : Os) (started : os.Started) (H : Type) (enc : TypeId × Value → H) :
    ReturnsInHanded {} Try.checked os 10 .any (Rows.againOnceSpec.pre6 enc Try.prog Try.f10 Rows.againOnceRow.domain false) (Rows.againOnceSpec.post enc Try.prog Try.f10 false true false false) := by
  refine returnsInHanded_of_change_sized (C := Try.checked) own started (by kernel_rfl) Try.func10
    (ChangeSpec.witness6 (enc := enc) (C := Try.checked) false ⟨#[], #[.slice none 0 0, .slice none 0 0, .slice none 0 0], []⟩ 8 (by kernel_rfl) (by kernel_rfl) (by kernel_rfl) (by kernel_rfl)) ?_
  intro W base args ds gs before hval0 hW hcnd hsz0 _
  have hsz : (DataW.weightsEach Try.prog (Try.f10.params.toList ++ Rows.againOnceSpec.plain.varTypes Try.prog) (ds ++ gs)).all (· ≤ reachBytes) = true := hsz0
  have hval : ∀ (j : Nat) t v, Try.f10.params[j]? = some t → args[j]? = some v → Value.okWide Try.prog W .any base t v := hval0
  have hW' := hW
  obtain ⟨p, q, hA0, hV, rfl, hfz, hnd⟩ := hW
  have hA : DataW.TrodAll enc Try.prog W 0 (fun _ => true) true Try.f10.params.toList args.toList ds p := hA0
  rw [Try.params10] at hA hval hsz
  obtain ⟨v0, vs0, d0, ds0, p0, q0, hargs, rfl, rfl, h0, r0⟩ := trodAll_cons hA
  obtain ⟨v1, vs1, d1, ds1, p1, q1, rfl, rfl, rfl, h1, r1⟩ := trodAll_cons r0
  obtain ⟨v2, vs2, d2, ds2, p2, q2, rfl, rfl, rfl, h2, r2⟩ := trodAll_cons r1
  obtain ⟨rfl, rfl, rfl⟩ := trodAll_nil r2
  obtain rfl : args = #[v0, v1, v2] := by cases args; simp_all
  obtain ⟨rfl, rfl⟩ := trodVars_none hV
  have k0 := h0
  have lt0 : ∀ x ∈ p0, x.block < W.heap.size := by obtain ⟨m, hm⟩ := k0; exact DataW.trod_lt m _ _ _ hm
  obtain ⟨A0, c0, l0, rfl, r0_, m0, w0, y0⟩ := Opn.arg_slice (j := 0) (Opn.slice (t := 22) Try.underlying22 (by kernel_rfl) (B := 64) (by kernel_rfl) o40) Try.underlying22 hsz rfl rfl (hval 0 22 v0 rfl rfl) h0
  have k1 := h1
  have lt1 : ∀ x ∈ p1, x.block < W.heap.size := by obtain ⟨m, hm⟩ := k1; exact DataW.trod_lt m _ _ _ hm
  obtain ⟨A1, c1, l1, rfl, r1_, m1, w1, y1⟩ := Opn.arg_slice (j := 1) (Opn.slice (t := 23) Try.underlying23 (by kernel_rfl) (B := 16) (by kernel_rfl) o80) Try.underlying23 hsz rfl rfl (hval 1 23 v1 rfl rfl) h1
  have k2 := h2
  have lt2 : ∀ x ∈ p2, x.block < W.heap.size := by obtain ⟨m, hm⟩ := k2; exact DataW.trod_lt m _ _ _ hm
  obtain ⟨A2, c2, l2, rfl, r2_, m2, w2, y2⟩ := Opn.arg_slice (j := 2) (Opn.slice (t := 24) Try.underlying24 (by kernel_rfl) (B := 8) (by kernel_rfl) (Opn.int Try.underlying2 (by kernel_rfl))) Try.underlying24 hsz rfl rfl (hval 2 24 v2 rfl rfl) h2
  clear hA0 hval0 hsz0 hsz
  obtain ⟨k, hk⟩ := Pure.AgainOnce l0 l1 l2 w0 y0 w1 y1 w2 y2
  refine (selvagelaw13_AgainOnce.calls k _ _ l0 _ _ l1 _ _ l2 true W r0_ m0 r1_ m1 r2_ m2 hk).mono fun e W' ⟨he, bel⟩ => ?_
  subst he
  exact ⟨_, rfl, _, _, _, [], _, [], hW', trodAll_mk1 (shut_bool Try.underlying4 _), (trodAll_cons_mk (Below.trod laidOut (by kernel_rfl) (of_decide_eq_true (by kernel_rfl)) k0 bel lt0) (trodAll_cons_mk (Below.trod laidOut (by kernel_rfl) (of_decide_eq_true (by kernel_rfl)) k1 bel lt1) (trodAll_cons_mk (Below.trod laidOut (by kernel_rfl) (of_decide_eq_true (by kernel_rfl)) k2 bel lt2) trodAll_mk0))), rfl, bel.frame _, fun h => by cases h⟩
theorem over : Rows.againOnceRow.holds Try.pinned (OpenSpec.ofChange Rows.againOnceSpec) :=
  OpenClaim.holds_of_wide 10 Try.f10 rfl rfl rfl rfl rfl rfl rfl ⟨rfl, rfl, rfl, rfl, rfl⟩ rfl rfl rfl rfl rfl (by kernel_rfl) Try.func10 (by kernel_rfl)
    (of_decide_eq_true (by kernel_rfl)) (by unfold Func.isWrapper; first | (rw [if_pos (by decide +kernel)]; kernel_rfl) | (rw [if_neg (by decide +kernel)]; exact ⟨rfl, rfl⟩))
    (fun os started H enc _ => lifted os started H enc)
theorem proved : Rows.AgainOnceSaid := over
#print axioms proved
end Go.Proofs.Ytdmbnlpcfgphpaa.againOnce
namespace Go.Proofs.Ytdmbnlpcfgphpaa
/-- The row, under a short name, for the claim. -/
theorem againOnce_holds : Rows.AgainOnceSaid := againOnce.proved
end Go.Proofs.Ytdmbnlpcfgphpaa
