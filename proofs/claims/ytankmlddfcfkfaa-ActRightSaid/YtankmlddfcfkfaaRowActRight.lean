/- The row of the law ActRight: for every input the law returns true and its arguments read as before. -/
import Derived.Test.YtankmlddfcfkfaaRows
import Derived.Test.YtankmlddfcfkfaaPureActRight
import Derived.Test.YtankmlddfcfkfaaOpen
import Derived.WalkKit
import Derived.ProofKit
import Derived.OpenShut
import Derived.ShutString
import Derived.ChangeOld
import Derived.Below
import Derived.SizedLaws
namespace Go.Proofs.Ytankmlddfcfkfaa.actRight
open Go.ChangeShapes Go.WideShapes Go.ChangeAt Go.RowKit Go.Proofs.YtankmlddfcfkfaaW.PrintWords Go.Proofs.Ytankmlddfcfkfaa.PActRight Go.Proofs.Ytankmlddfcfkfaa.Opn Go.Proofs.Ytankmlddfcfkfaa.StActRight
set_option linter.unusedVariables false
theorem o34 : Opn Try.prog 34 k34 good34 := Opn.struct Try.underlying34 (by kernel_rfl) (by kernel_rfl) (ts := [3, 3, 2, 2]) rfl (OpnF.cons (Opn.int Try.underlying3 (by kernel_rfl)) (by kernel_rfl) (OpnF.cons (Opn.int Try.underlying3 (by kernel_rfl)) (by kernel_rfl) (OpnF.cons (Opn.int Try.underlying2 (by kernel_rfl)) (by kernel_rfl) (OpnF.one (Opn.int Try.underlying2 (by kernel_rfl)) (by kernel_rfl))))) (fun x : S34 => (x.f0, x.f1, x.f2, x.f3)) (fun a => ⟨a.1, a.2.1, a.2.2.1, a.2.2.2⟩) (fun _ => rfl)
theorem o31 : Opn Try.prog 31 k31 good31 := Opn.struct Try.underlying31 (by kernel_rfl) (by kernel_rfl) (ts := [4, 2]) rfl (OpnF.cons (Opn.bool Try.underlying4 (by kernel_rfl)) (by kernel_rfl) (OpnF.one (Opn.int Try.underlying2 (by kernel_rfl)) (by kernel_rfl))) (fun x : S31 => (x.f0, x.f1)) (fun a => ⟨a.1, a.2⟩) (fun _ => rfl)
theorem own : ownKnob Try.prog.godebug = none := by kernel_rfl
theorem laidOut : laidOutB Try.prog = true := by kernel_rfl
set_option maxRecDepth 100000 in
theorem lifted (os : Os) (started : os.Started) (H : Type) (enc : TypeId × Value → H) :
    ReturnsInHanded {} Try.checked os 4 .any (Rows.actRightSpec.pre6 enc Try.prog Try.f4 Rows.actRightRow.domain false) (Rows.actRightSpec.post enc Try.prog Try.f4 false true false false) := by
  refine returnsInHanded_of_change_sized (C := Try.checked) own started (by kernel_rfl) Try.func4
    (ChangeSpec.witness6 (enc := enc) (C := Try.checked) false ⟨#[], #[.agg #[.int .i64 0, .int .i64 0, .int .i64 0, .int .i64 0], .slice none 0 0], []⟩ 8 (by kernel_rfl) (by kernel_rfl) (by kernel_rfl) (by kernel_rfl)) ?_
  intro W base args ds gs before hval0 hW hcnd hsz0 _
  have hsz : (DataW.weightsEach Try.prog (Try.f4.params.toList ++ Rows.actRightSpec.plain.varTypes Try.prog) (ds ++ gs)).all (· ≤ reachBytes) = true := hsz0
  have hval : ∀ (j : Nat) t v, Try.f4.params[j]? = some t → args[j]? = some v → Value.okWide Try.prog W .any base t v := hval0
  have hW' := hW
  obtain ⟨p, q, hA0, hV, rfl, hfz, hnd⟩ := hW
  have hA : DataW.TrodAll enc Try.prog W 0 (fun _ => true) true Try.f4.params.toList args.toList ds p := hA0
  rw [Try.params4] at hA hval hsz
  obtain ⟨v0, vs0, d0, ds0, p0, q0, hargs, rfl, rfl, h0, r0⟩ := trodAll_cons hA
  obtain ⟨v1, vs1, d1, ds1, p1, q1, rfl, rfl, rfl, h1, r1⟩ := trodAll_cons r0
  obtain ⟨rfl, rfl, rfl⟩ := trodAll_nil r1
  obtain rfl : args = #[v0, v1] := by cases args; simp_all
  obtain ⟨rfl, rfl⟩ := trodVars_none hV
  have k0 := h0
  have lt0 : ∀ x ∈ p0, x.block < W.heap.size := by obtain ⟨m, hm⟩ := k0; exact DataW.trod_lt m _ _ _ hm
  obtain ⟨x0, c0, rfl, q0_, w0⟩ := o34.arg_agg (j := 0) Try.underlying34 hsz rfl rfl (hval 0 34 v0 rfl rfl) h0
  have q0_ := k34_open q0_
  obtain ⟨c0⟩ := c0
  simp only at q0_
  subst q0_
  have k1 := h1
  have lt1 : ∀ x ∈ p1, x.block < W.heap.size := by obtain ⟨m, hm⟩ := k1; exact DataW.trod_lt m _ _ _ hm
  obtain ⟨A1, c1, l1, rfl, r1_, m1, w1, y1⟩ := Opn.arg_slice (j := 1) (Opn.slice (t := 24) Try.underlying24 (by kernel_rfl) (B := 16) (by kernel_rfl) o31) Try.underlying24 hsz rfl rfl (hval 1 24 v1 rfl rfl) h1
  clear hA0 hval0 hsz0 hsz
  obtain ⟨k, hk⟩ := Pure.ActRight x0 l1 w0 w1 y1
  refine (selvagelaw08_ActRight.calls k x0.f0 x0.f1 x0.f2 x0.f3 _ _ l1 true W r1_ m1 hk).mono fun e W' ⟨he, bel⟩ => ?_
  subst he
  exact ⟨_, rfl, _, _, _, [], _, [], hW', trodAll_mk1 (shut_bool Try.underlying4 _), (trodAll_cons_mk (Below.trod laidOut (by kernel_rfl) (of_decide_eq_true (by kernel_rfl)) k0 bel lt0) (trodAll_cons_mk (Below.trod laidOut (by kernel_rfl) (of_decide_eq_true (by kernel_rfl)) k1 bel lt1) trodAll_mk0)), rfl, bel.frame _, fun h => by cases h⟩
theorem over : Rows.actRightRow.holds Try.pinned (OpenSpec.ofChange Rows.actRightSpec) :=
  OpenClaim.holds_of_wide 4 Try.f4 rfl rfl rfl rfl rfl rfl rfl ⟨rfl, rfl, rfl, rfl, rfl⟩ rfl rfl rfl rfl rfl (by kernel_rfl) Try.func4 (by kernel_rfl)
    (of_decide_eq_true (by kernel_rfl)) (by unfold Func.isWrapper; first | (rw [if_pos (by decide +kernel)]; kernel_rfl) | (rw [if_neg (by decide +kernel)]; exact ⟨rfl, rfl⟩))
    (fun os started H enc _ => lifted os started H enc)
theorem proved : Rows.ActRightSaid := over
#print axioms proved
end Go.Proofs.Ytankmlddfcfkfaa.actRight
namespace Go.Proofs.Ytankmlddfcfkfaa
/-- The row, under a short name, for the claim. -/
theorem actRight_holds : Rows.ActRightSaid := actRight.proved
end Go.Proofs.Ytankmlddfcfkfaa
