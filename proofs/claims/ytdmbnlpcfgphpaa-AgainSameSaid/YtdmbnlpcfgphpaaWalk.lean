/- The contract of walk: the way through all ways. -/
import Derived.Test.YtdmbnlpcfgphpaaWk
import Derived.Test.YtdmbnlpcfgphpaaAg
import Derived.Test.YtdmbnlpcfgphpaaRight
namespace Go.Proofs.Ytdmbnlpcfgphpaa.Q
open Go.RowKit Go.Maps Go.Proofs.YtdmbnlpcfgphpaaW.PrintWords Go.Proofs.YtdmbnlpcfgphpaaW.PrintLast Go.Proofs.YtdmbnlpcfgphpaaW.PrintMore
set_option linter.unusedVariables false
set_option linter.unusedSimpArgs false
def BdK (K : KM) : Prop := ∀ u v, K u = some v → 0 ≤ v ∧ v < 400
def Lb (code : List S40) : Prop := ∀ i, i < code.length → 0 ≤ (ins code i).f4 ∧ (ins code i).f4 ≤ 1000 ∧ 0 ≤ (ins code i).f5 ∧ (ins code i).f5 ≤ 1000
theorem bd_none : BdK (fun _ => none) := fun _ _ h => by cases h
theorem bd_put {K : KM} (h : BdK K) {d v : Int} (hv : 0 ≤ v ∧ v < 400) : BdK (fun u => if u = d then some v else K u) := fun u x hx => by
  dsimp only at hx
  split at hx
  · cases hx; exact hv
  · exact h u x hx
theorem bd_mnt {M : KM} (h : BdK M) {t : Int} (ht : 0 ≤ t ∧ t < 400) : 0 ≤ mnt M t ∧ mnt M t < 400 := by
  unfold mnt
  cases hM : M t with
  | none => exact ht
  | some v => exact h t v hM
theorem bd_kstep {x : S40} {M K : KM} (hM : BdK M) (hK : BdK K) (h1 : 0 ≤ x.f1 ∧ x.f1 < 400) (h2 : 0 ≤ x.f2 ∧ x.f2 < 400) : BdK (kstep x M K) := by
  unfold kstep
  split
  · split
    · exact hK
    · exact bd_put hK h1
  split
  · exact bd_put hK (bd_mnt hM h2)
  split
  · intro u v h
    dsimp only at h
    split at h
    · cases h
    · exact hK u v h
  split
  · exact bd_none
  · exact hK
theorem bd_mstep {x : S40} {M K : KM} (hM : BdK M) (hK : BdK K) : BdK (mstep x K M) := by
  unfold mstep
  split
  · split
    · rename_i v hv
      exact bd_put hM (hK _ _ hv)
    · exact hM
  · exact hM
theorem bd_wlk {code : List S40} (t : Tr code) : ∀ (f i : Nat) (K : KM) (s : List Bool × KM), i < code.length → BdK K → BdK s.2 → BdK (wlk code f i K s).2
  | 0, _, _, _, _, _, h => h
  | f + 1, i, K, s, hi, hK, hM => by
    unfold wlk
    have h1 := tmp_bd (t.tD i hi)
    have h2 := tmp_bd (t.tA i hi)
    by_cases h18 : (ins code i).f0 = 18
    · rw [if_pos h18]; exact hM
    · rw [if_neg h18]
      have hi1 := t.nx i hi h18
      refine bd_wlk t f (i + 1) _ _ hi1 (bd_kstep hM hK h1 h2) ?_
      by_cases h7 : (ins code i).f7 ≠ 0
      · have h := t.to_ne hi h7
        rw [if_pos h7]
        exact bd_wlk t f _ _ _ (by omega) (bd_kstep hM hK h1 h2) (bd_mstep hM hK)
      · rw [if_neg h7]; exact bd_mstep hM hK
section
variable {ops : Array Oper} {rest : List Oper} {o : Oper} {a : Act} {Q : Exit → Act → World → Prop}
variable {w W : World} {A : Option Addr} {n c b gs cs gm km : Nat} {sp : List Bool} {M : KM}
theorem Wk.store_mark (S : Wk w W A n c b gs cs gm km sp M) (hgd : o.guard = none) (hN : o.dst = none) (p x : Operand) (ho : o.op = .store 4 p x) (j : Int) (v : Bool) (h0 : 0 ≤ j) (h1 : j < n) (haddr : a.eval p = .pointer (some ⟨gs, j.toNat, none⟩)) (hx : a.eval x = .bool v)
    (h : ∀ w1, Wk w w1 A n c b gs cs gm km (sp.set j.toNat v) M → W.grownBy w1 (some gs) → wpList Try.prog ops Q rest a w1) : wpList Try.prog ops Q (o :: rest) a W := by
  refine wpList_plain hgd fun K hK => ?_
  obtain ⟨hc, hf⟩ := S.cs_ j h0 h1
  have hrun : (execOp a.eval o).run Try.prog W = .ok .skip (W.setCell ⟨gs, j.toNat, none⟩ (.bool v)) := by
    unfold execOp
    simp only [ho, haddr, hx]
    go_simp
  unfold Oper.wp
  rw [hrun]
  show K (a.put o.dst undef) _
  rw [hN]
  exact hK a _ (h _ (S.mark j v) (Kd.R_putg S.RS j v).2)
end
theorem rd_none {d a b loc len k t : Int} {K M : KM} {sp : List Bool} {i : Nat} (h : K loc = none) : kstep ⟨6, d, a, b, loc, len, k, t⟩ M K = (fun u => if u = loc then some d else K u) ∧ sstep ⟨6, d, a, b, loc, len, k, t⟩ i K sp = sp ∧ mstep ⟨6, d, a, b, loc, len, k, t⟩ K M = M := by
  simp [kstep, sstep, mstep, h]
theorem rd_some {d a b loc len k t v : Int} {K M : KM} {sp : List Bool} {i : Nat} (h : K loc = some v) : kstep ⟨6, d, a, b, loc, len, k, t⟩ M K = K ∧ sstep ⟨6, d, a, b, loc, len, k, t⟩ i K sp = sp.set i true ∧ mstep ⟨6, d, a, b, loc, len, k, t⟩ K M = fun u => if u = d then some v else M u := by
  simp [kstep, sstep, mstep, h]
set_option maxHeartbeats 8000000 in
set_option maxRecDepth 100000 in
theorem walk_any {w : World} {A : Option Addr} {c : Nat} {code : List S40} (t : Tr code) (hL : Lb code) (hr : Kd.C k40 w A code.length code) (hc : code.length ≤ c) : ∀ (f i0 : Nat) (W : World) (b gs cs gm km0 : Nat) (sp0 : List Bool) (M0 : KM) (gk kk0 : Nat) (K0 : KM),
    i0 < code.length → code.length - i0 ≤ f → Wk w W A code.length c b gs cs gm km0 sp0 M0 → MapI W gk kk0 K0 → w.heap.size ≤ gk → gk ≠ gs → gk ≠ gm → gk ≠ b → BdK M0 → BdK K0 → km0 + cn code i0 ≤ 400 → kk0 + (code.length - i0) ≤ 400 →
    Calls Try.prog 50 #[.pointer (some ⟨b, 0, none⟩), .int .i64 (i0 : Int), .map (some gk)] W fun e W' => e = .returned (.tuple #[]) ∧ (∃ km1, km1 ≤ km0 + cn code i0 ∧ Wk w W' A code.length c b gs cs gm km1 (wy code i0 K0 (sp0, M0)).1 (wy code i0 K0 (sp0, M0)).2) ∧ KpB W W' gs gm gk := by
  intro f
  induction f with
  | zero => intro i0; intros; omega
  | succ f ih =>
  intro i0 W b gs cs gm km0 sp0 M0 gk kk0 K0 hi0 hf S0 hK0 hgk n1 n2 n3 bM bK hkm hkk
  have HC := Aside0.mk hr
  have HIH := Aside0.mk ih
  have HT := Aside0.mk t
  have HLb := Aside0.mk hL
  have SS := Aside0.mk S0
  have KK := Aside0.mk hK0
  have HF := Aside0.mk hf
  clear hr ih t hL S0 hK0 hf
  have HBM := Aside0.mk bM
  have HBK := Aside0.mk bK
  clear bM bK
  have n4 := HT.out.n4
  obtain ⟨R, hRR⟩ : ∃ R, R = wy code i0 K0 (sp0, M0) := ⟨_, rfl⟩
  rw [← hRR]
  have HRR := Aside0.mk hRR
  clear hRR
  go_enter Try.func50, Try.ntmps50
  go_wp2
  go_loopw [1] (fun v w' => ∃ (i : Nat) (km kk : Nat) (sp : List Bool) (M K : KM), v = .int .i64 (i : Int) ∧ i < code.length ∧ Aside0 (i0 ≤ i ∧ km + cn code i ≤ km0 + cn code i0 ∧ kk + (code.length - i) ≤ 400) ∧ Aside0 (Wk w w' A code.length c b gs cs gm km sp M) ∧ Aside0 (MapI w' gk kk K) ∧ Aside0 (BdK M) ∧ Aside0 (BdK K) ∧ Aside0 (KpB W w' gs gm gk) ∧ Aside0 (R = wy code i K (sp, M))) (fun v _ => code.length - (intOf v).toNat)
  case atStart => exact ⟨i0, km0, kk0, sp0, M0, K0, rfl, hi0, ⟨Nat.le_refl _, Nat.le_refl _, hkk⟩, SS, KK, HBM, HBK, ⟨KpB.refl _ _ _ _⟩, HRR⟩
  case round =>
    clear SS KK HBM HBK HRR
    obtain ⟨i, km, kk, sp, M, K, rfl, hi, HN, SS, KK, HBM, HBK, HKp, HRR⟩ := hrel
    obtain ⟨ad1, ea, k0, k1, k2, k3, k4, k5, k6, k7⟩ := at_T40 (Kd.C_below HC.out SS.out.HB) (i : Int) (by omega) (by omega)
    cases ea
    rw [ins_at] at k0 k1 k2 k3 k4 k5 k6 k7
    obtain ⟨j, hj⟩ : ∃ j : Int, (i : Int) = j := ⟨_, rfl⟩
    rw [hj] at k0 k1 k2 k3 k4 k5 k6 k7 ⊢
    have q1 : (j < (code.length : Int)) = True := eq_true (by omega)
    have q0 : (0 ≤ j) = True := eq_true (by omega)
    have hok := HT.out.ok i hi
    have hno := HT.out.noto i hi
    have hlo := HLb.out i hi
    have hb1 := tmp_bd (HT.out.tD i hi)
    have hb2 := tmp_bd (HT.out.tA i hi)
    have hto := HT.out.tgt i hi
    have HG : Aside0 ((ins code i).f0 ≠ 18 → i + 1 < code.length ∧ wy code i K (sp, M) = wy code (i + 1) (kstep (ins code i) M K) (if (ins code i).f7 ≠ 0 then wy code (ins code i).f7.toNat (kstep (ins code i) M K) (sstep (ins code i) i K sp, mstep (ins code i) K M) else (sstep (ins code i) i K sp, mstep (ins code i) K M)) ∧ cn code i = 1 + (if (ins code i).f7 ≠ 0 then cn code (ins code i).f7.toNat else 0) + cn code (i + 1)) := ⟨fun h => ⟨HT.out.nx i hi h, wy_step HT.out hi h K (sp, M), cn_step HT.out hi h⟩⟩
    have HST : Aside0 ((ins code i).f0 = 18 → wy code i K (sp, M) = (sp, M)) := ⟨fun h => wy_stop hi h K (sp, M)⟩
    generalize ins code i = X at *
    obtain ⟨o, d, a, bb, loc, len, kk_, tt⟩ := X
    dsimp only at hok hno hlo hb1 hb2 hto k0 k1 k2 k3 k4 k5 k6 k7
    rcases op_cases hok with rfl | rfl | rfl | rfl | rfl | rfl | rfl | rfl | rfl | rfl | rfl | rfl | rfl | rfl | rfl | rfl | rfl | rfl
    · as_aux_lemma =>
        obtain rfl := hno (by decide)
        have hlt7 := KK.out.lt
        obtain ⟨hi1, hwy, hcn⟩ := HG.out (show ¬ (1 : Int) = 18 by decide)
        have e1 : wrap64 (j + 1) = j + 1 := wrap_of (by omega) (by omega)
        have HJ := Aside0.mk hj
        have HWY := Aside0.mk hwy
        have HCN := Aside0.mk hcn
        have HB0 := Aside0.mk (And.intro hb1 (And.intro hb2 hlo))
        clear HG HST hto hj hwy hcn hok hno hlo hb1 hb2
        have b0 := SS.out.c0
        go_wp2
        refine ⟨⟨i + 1, km, kk, sp, M, K, by rw [e1, ← HJ.out]; rfl, hi1, ⟨by have h1 := HN.out; have hcn := HCN.out; rw [if_neg (by simp)] at hcn; omega⟩, ⟨SS.out.alloc _⟩, ⟨KK.out.alloc _⟩, ⟨HBM.out⟩, ⟨HBK.out⟩, ⟨HKp.out.trans (KpB.below (below_alloc (Below.refl _ _) _))⟩, ⟨by have h1 := HRR.out; rw [HWY.out, if_neg (by simp)] at h1; exact h1⟩⟩, by have := HJ.out; simp [intOf]; omega⟩
    · as_aux_lemma =>
        obtain rfl := hno (by decide)
        have hlt7 := KK.out.lt
        obtain ⟨hi1, hwy, hcn⟩ := HG.out (show ¬ (2 : Int) = 18 by decide)
        have e1 : wrap64 (j + 1) = j + 1 := wrap_of (by omega) (by omega)
        have HJ := Aside0.mk hj
        have HWY := Aside0.mk hwy
        have HCN := Aside0.mk hcn
        have HB0 := Aside0.mk (And.intro hb1 (And.intro hb2 hlo))
        clear HG HST hto hj hwy hcn hok hno hlo hb1 hb2
        have b0 := SS.out.c0
        go_wp2
        refine ⟨⟨i + 1, km, kk, sp, M, K, by rw [e1, ← HJ.out]; rfl, hi1, ⟨by have h1 := HN.out; have hcn := HCN.out; rw [if_neg (by simp)] at hcn; omega⟩, ⟨SS.out.alloc _⟩, ⟨KK.out.alloc _⟩, ⟨HBM.out⟩, ⟨HBK.out⟩, ⟨HKp.out.trans (KpB.below (below_alloc (Below.refl _ _) _))⟩, ⟨by have h1 := HRR.out; rw [HWY.out, if_neg (by simp)] at h1; exact h1⟩⟩, by have := HJ.out; simp [intOf]; omega⟩
    · as_aux_lemma =>
        obtain rfl := hno (by decide)
        have hlt7 := KK.out.lt
        obtain ⟨hi1, hwy, hcn⟩ := HG.out (show ¬ (3 : Int) = 18 by decide)
        have e1 : wrap64 (j + 1) = j + 1 := wrap_of (by omega) (by omega)
        have HJ := Aside0.mk hj
        have HWY := Aside0.mk hwy
        have HCN := Aside0.mk hcn
        have HB0 := Aside0.mk (And.intro hb1 (And.intro hb2 hlo))
        clear HG HST hto hj hwy hcn hok hno hlo hb1 hb2
        have b0 := SS.out.c0
        go_wp2
        refine ⟨⟨i + 1, km, kk, sp, M, K, by rw [e1, ← HJ.out]; rfl, hi1, ⟨by have h1 := HN.out; have hcn := HCN.out; rw [if_neg (by simp)] at hcn; omega⟩, ⟨SS.out.alloc _⟩, ⟨KK.out.alloc _⟩, ⟨HBM.out⟩, ⟨HBK.out⟩, ⟨HKp.out.trans (KpB.below (below_alloc (Below.refl _ _) _))⟩, ⟨by have h1 := HRR.out; rw [HWY.out, if_neg (by simp)] at h1; exact h1⟩⟩, by have := HJ.out; simp [intOf]; omega⟩
    · as_aux_lemma =>
        obtain rfl := hno (by decide)
        have hlt7 := KK.out.lt
        obtain ⟨hi1, hwy, hcn⟩ := HG.out (show ¬ (4 : Int) = 18 by decide)
        have e1 : wrap64 (j + 1) = j + 1 := wrap_of (by omega) (by omega)
        have HJ := Aside0.mk hj
        have HWY := Aside0.mk hwy
        have HCN := Aside0.mk hcn
        have HB0 := Aside0.mk (And.intro hb1 (And.intro hb2 hlo))
        clear HG HST hto hj hwy hcn hok hno hlo hb1 hb2
        have b0 := SS.out.c0
        go_wp2
        refine ⟨⟨i + 1, km, kk, sp, M, K, by rw [e1, ← HJ.out]; rfl, hi1, ⟨by have h1 := HN.out; have hcn := HCN.out; rw [if_neg (by simp)] at hcn; omega⟩, ⟨SS.out.alloc _⟩, ⟨KK.out.alloc _⟩, ⟨HBM.out⟩, ⟨HBK.out⟩, ⟨HKp.out.trans (KpB.below (below_alloc (Below.refl _ _) _))⟩, ⟨by have h1 := HRR.out; rw [HWY.out, if_neg (by simp)] at h1; exact h1⟩⟩, by have := HJ.out; simp [intOf]; omega⟩
    · as_aux_lemma =>
        obtain rfl := hno (by decide)
        have hlt7 := KK.out.lt
        obtain ⟨hi1, hwy, hcn⟩ := HG.out (show ¬ (5 : Int) = 18 by decide)
        have e1 : wrap64 (j + 1) = j + 1 := wrap_of (by omega) (by omega)
        have HJ := Aside0.mk hj
        have HWY := Aside0.mk hwy
        have HCN := Aside0.mk hcn
        have HB0 := Aside0.mk (And.intro hb1 (And.intro hb2 hlo))
        clear HG HST hto hj hwy hcn hok hno hlo hb1 hb2
        have b0 := SS.out.c0
        go_wp2
        refine ⟨⟨i + 1, km, kk, sp, M, K, by rw [e1, ← HJ.out]; rfl, hi1, ⟨by have h1 := HN.out; have hcn := HCN.out; rw [if_neg (by simp)] at hcn; omega⟩, ⟨SS.out.alloc _⟩, ⟨KK.out.alloc _⟩, ⟨HBM.out⟩, ⟨HBK.out⟩, ⟨HKp.out.trans (KpB.below (below_alloc (Below.refl _ _) _))⟩, ⟨by have h1 := HRR.out; rw [HWY.out, if_neg (by simp)] at h1; exact h1⟩⟩, by have := HJ.out; simp [intOf]; omega⟩
    · as_aux_lemma =>
        obtain rfl := hno (by decide)
        have hlt7 := KK.out.lt
        obtain ⟨hi1, hwy, hcn⟩ := HG.out (show ¬ (6 : Int) = 18 by decide)
        have e1 : wrap64 (j + 1) = j + 1 := wrap_of (by omega) (by omega)
        have HJ := Aside0.mk hj
        have HWY := Aside0.mk hwy
        have HCN := Aside0.mk hcn
        have HB0 := Aside0.mk (And.intro hb1 (And.intro hb2 hlo))
        clear HG HST hto hj hwy hcn hok hno hlo hb1 hb2
        have b0 := SS.out.c0
        have SSx := Aside0.mk (SS.out.alloc (.cells #[.int .i64 6, .int .i64 d, .int .i64 a, .int .i64 bb, .int .i64 loc, .int .i64 len, .int .i64 kk_, .int .i64 0] 40))
        have KKx := Aside0.mk (KK.out.alloc (.cells #[.int .i64 6, .int .i64 d, .int .i64 a, .int .i64 bb, .int .i64 loc, .int .i64 len, .int .i64 kk_, .int .i64 0] 40))
        have KXx := Aside0.mk (blk_new wr (.cells #[.int .i64 6, .int .i64 d, .int .i64 a, .int .i64 bb, .int .i64 loc, .int .i64 len, .int .i64 kk_, .int .i64 0] 40))
        have KPx : Aside0 (KpB wr (wr.alloc (.cells #[.int .i64 6, .int .i64 d, .int .i64 a, .int .i64 bb, .int .i64 loc, .int .i64 len, .int .i64 kk_, .int .i64 0] 40)) gs gm gk) := ⟨KpB.below (below_alloc (Below.refl _ _) _)⟩
        have hbx : Aside0 (wr.heap.size ≠ gk ∧ wr.heap.size ≠ gs ∧ wr.heap.size ≠ gm ∧ w.heap.size ≤ wr.heap.size) := ⟨by have := SS.out.ls; have := SS.out.lm; have := SS.out.HB.size; omega⟩
        have hlw : Aside0 (wf64 loc ∧ wf64 a ∧ wf64 d) := ⟨by have := HB0.out; exact ⟨wf64_of (by omega) (by omega), wf64_of (by omega) (by omega), wf64_of (by omega) (by omega)⟩⟩
        cases hKl : K loc with
        | none =>
          have hrd := Aside0.mk (rd_none (d := d) (a := a) (b := bb) (len := len) (k := kk_) (t := 0) (M := M) (sp := sp) (i := i) hKl)
          go_wp2_with (first | (at_lookup; refine MapI.look (KK.out.alloc _) rfl _ _ rfl rfl loc rfl hlw.out.1 ?_; rw [hKl]) | (at_mapUpdate; refine MapI.put (KK.out.alloc _) rfl _ _ _ rfl rfl loc d rfl rfl hlw.out.1 hlw.out.2.2 (by have := HN.out; omega) ?_; intro w4 hm hg; have S4 := Aside0.mk (SSx.out.grown hg hgk n3 n1 n2); have K4 := Aside0.mk hm; have KX4 := Aside0.mk (blk_grown KXx.out hg (fun he => hbx.out.1 (Option.some.inj he))); have KP4 : Aside0 (KpB wr w4 gs gm gk) := ⟨KPx.out.trans (KpB.grown hg (Or.inr (Or.inr rfl)))⟩; clear hm hg; have x7 := blk_cell KX4.out 7))
          refine ⟨⟨i + 1, km, kk + 1, sp, M, fun u => if u = loc then some d else K u, by rw [e1, ← HJ.out]; rfl, hi1, ⟨by have h1 := HN.out; have hcn := HCN.out; rw [if_neg (by simp)] at hcn; omega⟩, ⟨S4.out⟩, ⟨K4.out⟩, ⟨HBM.out⟩, ⟨bd_put HBK.out HB0.out.1⟩, ⟨HKp.out.trans KP4.out⟩, ⟨by have h1 := HRR.out; rw [HWY.out, if_neg (by simp)] at h1; rw [hrd.out.1, hrd.out.2.1, hrd.out.2.2] at h1; exact h1⟩⟩, by have := HJ.out; simp [intOf]; omega⟩
        | some v =>
          have hrd := Aside0.mk (rd_some (d := d) (a := a) (b := bb) (len := len) (k := kk_) (t := 0) (M := M) (sp := sp) (i := i) hKl)
          have hvv : Aside0 (0 ≤ v ∧ v < 400) := ⟨HBK.out _ _ hKl⟩
          have hvw : Aside0 (wf64 v) := ⟨by have := hvv.out; exact wf64_of (by omega) (by omega)⟩
          have b1 := SSx.out.c1
          go_wp2_with (first | (at_lookup; refine MapI.look (KK.out.alloc _) rfl _ _ rfl rfl loc rfl hlw.out.1 ?_; rw [hKl]) | ((with_reducible refine gate_ (.store 4 (.tmp 36) (.const (.bool true))) rfl ?_); refine SSx.out.store_mark rfl rfl _ _ rfl j true (of_eq_true q0) (of_eq_true q1) ?ha rfl ?_; (case ha => rfl); intro w4 hs hg; have S4 := Aside0.mk hs; have K4 := Aside0.mk (KKx.out.kept hg (fun he => n1 (Option.some.inj he))); have KX4 := Aside0.mk (blk_grown KXx.out hg (fun he => hbx.out.2.1 (Option.some.inj he))); have KP4 : Aside0 (KpB wr w4 gs gm gk) := ⟨KPx.out.trans (KpB.grown hg (Or.inl rfl))⟩; clear hs hg))
          have b2 := S4.out.c2
          have x1 := blk_cell KX4.out 1
          obtain ⟨w5, hrun, hm, hg⟩ := S4.out.drew.MM.put_own d v hlw.out.2.2 hvw.out (by have := HN.out; omega)
          have S5 := Aside0.mk (S4.out.drew.mean hg hm)
          have K5 : Aside0 (MapI w5 gk kk K) := ⟨K4.out.drew.kept hg (fun he => n2 (Option.some.inj he))⟩
          have KX5 : Aside0 (w5.heap[wr.heap.size]? = some (.cells #[.int .i64 6, .int .i64 d, .int .i64 a, .int .i64 bb, .int .i64 loc, .int .i64 len, .int .i64 kk_, .int .i64 0] 40 (0, 0))) := ⟨(hg.block _ (blk_lt KX4.out) (fun he => hbx.out.2.2.1 (Option.some.inj he))).trans KX4.out⟩
          have KP5 : Aside0 (KpB w4 w5 gs gm gk) := ⟨hg.size, fun i_ h0 h1 h2 h3 => hg.block i_ h0 (fun he => h2 (Option.some.inj he))⟩
          clear hm hg
          have x7 := blk_cell KX5.out 7
          have x1b := blk_cell KX5.out 1
          have b2b := S5.out.c2
          go_region_held3 (fun w' => w'.cell? ⟨b, 2, none⟩ = some (.map (some gm)) ∧ w'.cell? ⟨wr.heap.size, 1, none⟩ = some (.int .i64 d)) (first | go_keep | assumption | exact ⟨b2b, x1b⟩)
            (fail)
          go_wp2
          refine ⟨⟨i + 1, km + 1, kk, _, _, K, by rw [e1, ← HJ.out]; rfl, hi1, ⟨by have h1 := HN.out; have hcn := HCN.out; rw [if_neg (by simp)] at hcn; omega⟩, ⟨S5.out⟩, ⟨K5.out⟩, ⟨bd_put HBM.out hvv.out⟩, ⟨HBK.out⟩, ⟨HKp.out.trans (KP4.out.trans KP5.out)⟩, ⟨by have h1 := HRR.out; rw [HWY.out, if_neg (by simp)] at h1; have hj2 : j.toNat = i := (by have := HJ.out; omega); rw [hj2]; rw [hrd.out.1, hrd.out.2.1, hrd.out.2.2] at h1; exact h1⟩⟩, by have := HJ.out; simp [intOf]; omega⟩
    · as_aux_lemma =>
        obtain rfl := hno (by decide)
        have hlt7 := KK.out.lt
        obtain ⟨hi1, hwy, hcn⟩ := HG.out (show ¬ (7 : Int) = 18 by decide)
        have e1 : wrap64 (j + 1) = j + 1 := wrap_of (by omega) (by omega)
        have HJ := Aside0.mk hj
        have HWY := Aside0.mk hwy
        have HCN := Aside0.mk hcn
        have HB0 := Aside0.mk (And.intro hb1 (And.intro hb2 hlo))
        clear HG HST hto hj hwy hcn hok hno hlo hb1 hb2
        have b0 := SS.out.c0
        go_wp2
        have SSx := Aside0.mk (SS.out.alloc (.cells #[.int .i64 7, .int .i64 d, .int .i64 a, .int .i64 bb, .int .i64 loc, .int .i64 len, .int .i64 kk_, .int .i64 0] 40))
        have KKx := Aside0.mk (KK.out.alloc (.cells #[.int .i64 7, .int .i64 d, .int .i64 a, .int .i64 bb, .int .i64 loc, .int .i64 len, .int .i64 kk_, .int .i64 0] 40))
        have KXx := Aside0.mk (blk_new wr (.cells #[.int .i64 7, .int .i64 d, .int .i64 a, .int .i64 bb, .int .i64 loc, .int .i64 len, .int .i64 kk_, .int .i64 0] 40))
        have KPx : Aside0 (KpB wr (wr.alloc (.cells #[.int .i64 7, .int .i64 d, .int .i64 a, .int .i64 bb, .int .i64 loc, .int .i64 len, .int .i64 kk_, .int .i64 0] 40)) gs gm gk) := ⟨KpB.below (below_alloc (Below.refl _ _) _)⟩
        have hbx : Aside0 (wr.heap.size ≠ gk ∧ wr.heap.size ≠ gs ∧ wr.heap.size ≠ gm ∧ w.heap.size ≤ wr.heap.size) := ⟨by have := SS.out.ls; have := SS.out.lm; have := SS.out.HB.size; omega⟩
        have hlw : Aside0 (wf64 loc ∧ wf64 a ∧ wf64 d) := ⟨by have := HB0.out; exact ⟨wf64_of (by omega) (by omega), wf64_of (by omega) (by omega), wf64_of (by omega) (by omega)⟩⟩
        have x2 := blk_cell KXx.out 2
        have x4 := blk_cell KXx.out 4
        have hvm : Aside0 (wf64 (mnt M a)) := ⟨by have := bd_mnt HBM.out HB0.out.2.1; exact wf64_of (by omega) (by omega)⟩
        generalize wr.alloc (.cells #[.int .i64 7, .int .i64 d, .int .i64 a, .int .i64 bb, .int .i64 loc, .int .i64 len, .int .i64 kk_, .int .i64 0] 40) = wx at SSx KKx KXx KPx x2 x4 ⊢
        obtain ⟨w4, hrun, hm, hg⟩ := KKx.out.drew.put_own loc (mnt M a) hlw.out.1 hvm.out (by have := HN.out; omega)
        have S4 : Aside0 (Wk w w4 (some ad1) code.length c b gs cs gm km sp M) := ⟨SSx.out.drew.grown hg hgk n3 n1 n2⟩
        have K4 := Aside0.mk hm
        have KX4 : Aside0 (w4.heap[wr.heap.size]? = some (.cells #[.int .i64 7, .int .i64 d, .int .i64 a, .int .i64 bb, .int .i64 loc, .int .i64 len, .int .i64 kk_, .int .i64 0] 40 (0, 0))) := ⟨(hg.block _ (blk_lt KXx.out) (fun he => hbx.out.1 (Option.some.inj he))).trans KXx.out⟩
        have KP4 : Aside0 (KpB wx w4 gs gm gk) := ⟨hg.size, fun i_ h0 h1 h2 h3 => hg.block i_ h0 (fun he => h3 (Option.some.inj he))⟩
        clear hm hg
        have x7 := blk_cell KX4.out 7
        have x2b := blk_cell KX4.out 2
        have x4b := blk_cell KX4.out 4
        go_region_held3 (fun w' => w'.cell? ⟨wr.heap.size, 2, none⟩ = some (.int .i64 a) ∧ w'.cell? ⟨wr.heap.size, 4, none⟩ = some (.int .i64 loc)) (first | go_keep | assumption | exact ⟨x2b, x4b⟩)
          (first
            | (go_at_call 42; refine (meant_any (by repeat (first | exact SSx.out | apply Wk.drewN | apply Wk.drew)) a hlw.out.2.1).mono ?_; rintro e w3 ⟨rfl, rfl⟩)
            | fail)
        go_wp2
        refine ⟨⟨i + 1, km, kk + 1, sp, M, fun u => if u = loc then some (mnt M a) else K u, by rw [e1, ← HJ.out]; rfl, hi1, ⟨by have h1 := HN.out; have hcn := HCN.out; rw [if_neg (by simp)] at hcn; omega⟩, ⟨S4.out⟩, ⟨K4.out⟩, ⟨HBM.out⟩, ⟨bd_put HBK.out (bd_mnt HBM.out HB0.out.2.1)⟩, ⟨HKp.out.trans (KPx.out.trans KP4.out)⟩, ⟨by have h1 := HRR.out; rw [HWY.out, if_neg (by simp)] at h1; exact h1⟩⟩, by have := HJ.out; simp [intOf]; omega⟩
    · as_aux_lemma =>
        obtain rfl := hno (by decide)
        have hlt7 := KK.out.lt
        obtain ⟨hi1, hwy, hcn⟩ := HG.out (show ¬ (8 : Int) = 18 by decide)
        have e1 : wrap64 (j + 1) = j + 1 := wrap_of (by omega) (by omega)
        have HJ := Aside0.mk hj
        have HWY := Aside0.mk hwy
        have HCN := Aside0.mk hcn
        have HB0 := Aside0.mk (And.intro hb1 (And.intro hb2 hlo))
        clear HG HST hto hj hwy hcn hok hno hlo hb1 hb2
        have b0 := SS.out.c0
        go_wp2_with ((with_reducible refine gate_ (.call { callee := .builtin .clear, args := #[.tmp 77], argTypes := #[61] }) rfl ?_); refine MapI.clr (KK.out.alloc _) rfl _ rfl rfl ?_; intro w2 hm hg; have K2 := Aside0.mk hm; have G2 := Aside0.mk hg; have KX2 := Aside0.mk (blk_grown (blk_new wr (.cells #[.int .i64 8, .int .i64 d, .int .i64 a, .int .i64 bb, .int .i64 loc, .int .i64 len, .int .i64 kk_, .int .i64 0] 40)) hg (fun he => by have := Option.some.inj he; omega)); clear hm hg; have x7 := blk_cell KX2.out 7)
        refine ⟨⟨i + 1, km, kk, sp, M, fun _ => none, by rw [e1, ← HJ.out]; rfl, hi1, ⟨by have h1 := HN.out; have hcn := HCN.out; rw [if_neg (by simp)] at hcn; omega⟩, ⟨(SS.out.alloc _).grown G2.out hgk n3 n1 n2⟩, ⟨K2.out⟩, ⟨HBM.out⟩, ⟨bd_none⟩, ⟨HKp.out.trans ((KpB.below (below_alloc (Below.refl _ _) _)).trans (KpB.grown G2.out (Or.inr (Or.inr rfl))))⟩, ⟨by have h1 := HRR.out; rw [HWY.out, if_neg (by simp)] at h1; exact h1⟩⟩, by have := HJ.out; simp [intOf]; omega⟩
    · as_aux_lemma =>
        obtain rfl := hno (by decide)
        have hlt7 := KK.out.lt
        obtain ⟨hi1, hwy, hcn⟩ := HG.out (show ¬ (9 : Int) = 18 by decide)
        have e1 : wrap64 (j + 1) = j + 1 := wrap_of (by omega) (by omega)
        have HJ := Aside0.mk hj
        have HWY := Aside0.mk hwy
        have HCN := Aside0.mk hcn
        have HB0 := Aside0.mk (And.intro hb1 (And.intro hb2 hlo))
        clear HG HST hto hj hwy hcn hok hno hlo hb1 hb2
        have b0 := SS.out.c0
        go_wp2_with ((with_reducible refine gate_ (.call { callee := .builtin .clear, args := #[.tmp 77], argTypes := #[61] }) rfl ?_); refine MapI.clr (KK.out.alloc _) rfl _ rfl rfl ?_; intro w2 hm hg; have K2 := Aside0.mk hm; have G2 := Aside0.mk hg; have KX2 := Aside0.mk (blk_grown (blk_new wr (.cells #[.int .i64 9, .int .i64 d, .int .i64 a, .int .i64 bb, .int .i64 loc, .int .i64 len, .int .i64 kk_, .int .i64 0] 40)) hg (fun he => by have := Option.some.inj he; omega)); clear hm hg; have x7 := blk_cell KX2.out 7)
        refine ⟨⟨i + 1, km, kk, sp, M, fun _ => none, by rw [e1, ← HJ.out]; rfl, hi1, ⟨by have h1 := HN.out; have hcn := HCN.out; rw [if_neg (by simp)] at hcn; omega⟩, ⟨(SS.out.alloc _).grown G2.out hgk n3 n1 n2⟩, ⟨K2.out⟩, ⟨HBM.out⟩, ⟨bd_none⟩, ⟨HKp.out.trans ((KpB.below (below_alloc (Below.refl _ _) _)).trans (KpB.grown G2.out (Or.inr (Or.inr rfl))))⟩, ⟨by have h1 := HRR.out; rw [HWY.out, if_neg (by simp)] at h1; exact h1⟩⟩, by have := HJ.out; simp [intOf]; omega⟩
    · as_aux_lemma =>
        obtain rfl := hno (by decide)
        have hlt7 := KK.out.lt
        obtain ⟨hi1, hwy, hcn⟩ := HG.out (show ¬ (10 : Int) = 18 by decide)
        have e1 : wrap64 (j + 1) = j + 1 := wrap_of (by omega) (by omega)
        have HJ := Aside0.mk hj
        have HWY := Aside0.mk hwy
        have HCN := Aside0.mk hcn
        have HB0 := Aside0.mk (And.intro hb1 (And.intro hb2 hlo))
        clear HG HST hto hj hwy hcn hok hno hlo hb1 hb2
        have b0 := SS.out.c0
        go_wp2_with ((with_reducible refine gate_ (.call { callee := .builtin .clear, args := #[.tmp 77], argTypes := #[61] }) rfl ?_); refine MapI.clr (KK.out.alloc _) rfl _ rfl rfl ?_; intro w2 hm hg; have K2 := Aside0.mk hm; have G2 := Aside0.mk hg; have KX2 := Aside0.mk (blk_grown (blk_new wr (.cells #[.int .i64 10, .int .i64 d, .int .i64 a, .int .i64 bb, .int .i64 loc, .int .i64 len, .int .i64 kk_, .int .i64 0] 40)) hg (fun he => by have := Option.some.inj he; omega)); clear hm hg; have x7 := blk_cell KX2.out 7)
        refine ⟨⟨i + 1, km, kk, sp, M, fun _ => none, by rw [e1, ← HJ.out]; rfl, hi1, ⟨by have h1 := HN.out; have hcn := HCN.out; rw [if_neg (by simp)] at hcn; omega⟩, ⟨(SS.out.alloc _).grown G2.out hgk n3 n1 n2⟩, ⟨K2.out⟩, ⟨HBM.out⟩, ⟨bd_none⟩, ⟨HKp.out.trans ((KpB.below (below_alloc (Below.refl _ _) _)).trans (KpB.grown G2.out (Or.inr (Or.inr rfl))))⟩, ⟨by have h1 := HRR.out; rw [HWY.out, if_neg (by simp)] at h1; exact h1⟩⟩, by have := HJ.out; simp [intOf]; omega⟩
    · as_aux_lemma =>
        obtain rfl := hno (by decide)
        have hlt7 := KK.out.lt
        obtain ⟨hi1, hwy, hcn⟩ := HG.out (show ¬ (11 : Int) = 18 by decide)
        have e1 : wrap64 (j + 1) = j + 1 := wrap_of (by omega) (by omega)
        have HJ := Aside0.mk hj
        have HWY := Aside0.mk hwy
        have HCN := Aside0.mk hcn
        have HB0 := Aside0.mk (And.intro hb1 (And.intro hb2 hlo))
        clear HG HST hto hj hwy hcn hok hno hlo hb1 hb2
        have b0 := SS.out.c0
        go_wp2_with ((with_reducible refine gate_ (.call { callee := .builtin .clear, args := #[.tmp 77], argTypes := #[61] }) rfl ?_); refine MapI.clr (KK.out.alloc _) rfl _ rfl rfl ?_; intro w2 hm hg; have K2 := Aside0.mk hm; have G2 := Aside0.mk hg; have KX2 := Aside0.mk (blk_grown (blk_new wr (.cells #[.int .i64 11, .int .i64 d, .int .i64 a, .int .i64 bb, .int .i64 loc, .int .i64 len, .int .i64 kk_, .int .i64 0] 40)) hg (fun he => by have := Option.some.inj he; omega)); clear hm hg; have x7 := blk_cell KX2.out 7)
        refine ⟨⟨i + 1, km, kk, sp, M, fun _ => none, by rw [e1, ← HJ.out]; rfl, hi1, ⟨by have h1 := HN.out; have hcn := HCN.out; rw [if_neg (by simp)] at hcn; omega⟩, ⟨(SS.out.alloc _).grown G2.out hgk n3 n1 n2⟩, ⟨K2.out⟩, ⟨HBM.out⟩, ⟨bd_none⟩, ⟨HKp.out.trans ((KpB.below (below_alloc (Below.refl _ _) _)).trans (KpB.grown G2.out (Or.inr (Or.inr rfl))))⟩, ⟨by have h1 := HRR.out; rw [HWY.out, if_neg (by simp)] at h1; exact h1⟩⟩, by have := HJ.out; simp [intOf]; omega⟩
    · as_aux_lemma =>
        obtain ⟨hq1, hq2⟩ := hto (by decide)
        obtain ⟨q, rfl⟩ : ∃ q : Nat, tt = (q : Int) := ⟨tt.toNat, by omega⟩
        have c7 : ((q : Int) != 0) = true := bne_iff_ne.2 (by omega)
        have hqn : Aside0 (q < code.length ∧ i + 1 < q ∧ ¬ ((q : Int) = 0)) := ⟨by omega, by omega, by omega⟩
        clear hq1 hq2
        have hlt7 := KK.out.lt
        obtain ⟨hi1, hwy, hcn⟩ := HG.out (show ¬ (12 : Int) = 18 by decide)
        have e1 : wrap64 (j + 1) = j + 1 := wrap_of (by omega) (by omega)
        have HJ := Aside0.mk hj
        have HWY := Aside0.mk hwy
        have HCN := Aside0.mk hcn
        have HB0 := Aside0.mk (And.intro hb1 (And.intro hb2 hlo))
        clear HG HST hto hj hwy hcn hok hno hlo hb1 hb2
        have b0 := SS.out.c0
        go_wp2_with ((with_reducible refine gate_ (.call { callee := .builtin .clear, args := #[.tmp 77], argTypes := #[61] }) rfl ?_); refine MapI.clr (KK.out.alloc _) rfl _ rfl rfl ?_; intro w2 hm hg; have K2 := Aside0.mk hm; have G2 := Aside0.mk hg; have KX2 := Aside0.mk (blk_grown (blk_new wr (.cells #[.int .i64 12, .int .i64 d, .int .i64 a, .int .i64 bb, .int .i64 loc, .int .i64 len, .int .i64 kk_, .int .i64 (q : Int)] 40)) hg (fun he => by have := Option.some.inj he; omega)); clear hm hg; have x7 := blk_cell KX2.out 7)
        have SSx : Aside0 (Wk w w2 (some ad1) code.length c b gs cs gm km sp M) := ⟨(SS.out.alloc _).grown G2.out hgk n3 n1 n2⟩
        have KKx := K2
        have KXx := KX2
        have KPx : Aside0 (KpB wr w2 gs gm gk) := ⟨(KpB.below (below_alloc (Below.refl _ _) _)).trans (KpB.grown G2.out (Or.inr (Or.inr rfl)))⟩
        go_region_held3 (fun w' => w'.cell? ⟨wr.heap.size, 7, none⟩ = some (.int .i64 (q : Int))) (first | go_keep | assumption)
          (first
            | (go_at_call 53; refine (clone_new (m := (fun _ => none)) (n := kk) (b := gk) (by repeat (first | exact KKx.out | apply MapI.drewN | apply MapI.drew))).mono ?_; rintro e w3 ⟨g2, rfl, hm, hg2, hb3⟩; have M3 := Aside0.mk hm; have B3 := Aside0.mk hb3; have KP3 : Aside0 (KpB w2 w3 gs gm gk) := ⟨by first | exact KpB.below hb3 | exact KpB.below (below_step (pw_below_drewN (Below.refl _ _) _) hb3) | exact KpB.below (below_step (below_drew1 (Below.refl _ _)) hb3)⟩; have S3 : Aside0 (Wk w w3 (some ad1) code.length c b gs cs gm km sp M) := ⟨by first | exact SSx.out.below hb3 | exact (SSx.out.drewN _).below hb3 | exact SSx.out.drew.below hb3⟩; have K3 : Aside0 (MapI w3 gk kk (fun _ => none)) := ⟨by first | exact KKx.out.below hb3 | exact (KKx.out.drewN _).below hb3 | exact KKx.out.drew.below hb3⟩; have N3 : Aside0 (w.heap.size ≤ g2 ∧ g2 ≠ gs ∧ g2 ≠ gm ∧ g2 ≠ b ∧ gk ≠ g2 ∧ w2.heap.size ≤ g2) := ⟨by have a1 : w2.heap.size ≤ g2 := hg2; have a2 := SSx.out.ls; have a3 := SSx.out.lm; have a4 := SSx.out.lb; have a5 := KKx.out.lt; have a6 := SSx.out.bs; omega⟩; have KX3 : Aside0 (w3.heap[wr.heap.size]? = some (.cells #[.int .i64 12, .int .i64 d, .int .i64 a, .int .i64 bb, .int .i64 loc, .int .i64 len, .int .i64 kk_, .int .i64 (q : Int)] 40 (0, 0))) := ⟨(hb3.block _ (blk_lt KXx.out)).trans KXx.out⟩; clear hm hg2 hb3; have x7b := blk_cell KX3.out 7)
            | (go_at_call 50; refine (HIH.out q _ b gs cs gm km sp M g2 kk (fun _ => none) hqn.out.1 (by have := hqn.out; have := HF.out; have := HN.out; omega) (by repeat (first | exact S3.out | apply Wk.drewN | apply Wk.drew)) (by repeat (first | exact M3.out | apply MapI.drewN | apply MapI.drew)) N3.out.1 N3.out.2.1 N3.out.2.2.1 N3.out.2.2.2.1 HBM.out bd_none (by have h1 := HN.out; have hcn := HCN.out; have h3 := hqn.out.2.2; rw [if_pos h3] at hcn; simp only [Int.toNat_natCast] at hcn; omega) (by have h1 := HN.out; have := hqn.out; omega)).mono ?_; rintro e w4 ⟨rfl, ⟨km4, hkm4, hs4⟩, hk4⟩; have HK4 := Aside0.mk hkm4; have S4 := Aside0.mk hs4; have KP4 := Aside0.mk hk4; have K4 : Aside0 (MapI w4 gk kk (fun _ => none)) := ⟨K3.out.same (hk4.2 gk K3.out.lt n1 n2 N3.out.2.2.2.2.1)⟩; have KX4 : Aside0 (w4.heap[wr.heap.size]? = some (.cells #[.int .i64 12, .int .i64 d, .int .i64 a, .int .i64 bb, .int .i64 loc, .int .i64 len, .int .i64 kk_, .int .i64 (q : Int)] 40 (0, 0))) := ⟨(hk4.2 wr.heap.size (blk_lt KX3.out) (by have := SS.out.ls; omega) (by have := SS.out.lm; omega) (by have := N3.out.2.2.2.2.2; have := blk_lt KXx.out; omega)).trans KX3.out⟩; clear hkm4 hs4 hk4; have x7c := blk_cell KX4.out 7))
        go_wp2
        refine ⟨⟨i + 1, km4, kk, _, _, (fun _ => none), by rw [e1, ← HJ.out]; rfl, hi1, ⟨by have h1 := HN.out; have hcn := HCN.out; have h4 := HK4.out; have h3 := hqn.out.2.2; rw [if_pos h3] at hcn; simp only [Int.toNat_natCast] at hcn; omega⟩, S4, K4, ⟨bd_wlk HT.out _ _ _ _ hqn.out.1 bd_none HBM.out⟩, ⟨bd_none⟩, ⟨HKp.out.trans (KPx.out.trans (KP3.out.trans_new KP4.out N3.out.2.2.2.2.2))⟩, ⟨by have h1 := HRR.out; rw [HWY.out, if_pos hqn.out.2.2] at h1; exact h1⟩⟩, by have := HJ.out; simp [intOf]; omega⟩
    · as_aux_lemma =>
        obtain rfl := hno (by decide)
        have hlt7 := KK.out.lt
        obtain ⟨hi1, hwy, hcn⟩ := HG.out (show ¬ (13 : Int) = 18 by decide)
        have e1 : wrap64 (j + 1) = j + 1 := wrap_of (by omega) (by omega)
        have HJ := Aside0.mk hj
        have HWY := Aside0.mk hwy
        have HCN := Aside0.mk hcn
        have HB0 := Aside0.mk (And.intro hb1 (And.intro hb2 hlo))
        clear HG HST hto hj hwy hcn hok hno hlo hb1 hb2
        have b0 := SS.out.c0
        go_wp2
        refine ⟨⟨i + 1, km, kk, sp, M, K, by rw [e1, ← HJ.out]; rfl, hi1, ⟨by have h1 := HN.out; have hcn := HCN.out; rw [if_neg (by simp)] at hcn; omega⟩, ⟨SS.out.alloc _⟩, ⟨KK.out.alloc _⟩, ⟨HBM.out⟩, ⟨HBK.out⟩, ⟨HKp.out.trans (KpB.below (below_alloc (Below.refl _ _) _))⟩, ⟨by have h1 := HRR.out; rw [HWY.out, if_neg (by simp)] at h1; exact h1⟩⟩, by have := HJ.out; simp [intOf]; omega⟩
    · as_aux_lemma =>
        obtain rfl := hno (by decide)
        have hlt7 := KK.out.lt
        obtain ⟨hi1, hwy, hcn⟩ := HG.out (show ¬ (14 : Int) = 18 by decide)
        have e1 : wrap64 (j + 1) = j + 1 := wrap_of (by omega) (by omega)
        have HJ := Aside0.mk hj
        have HWY := Aside0.mk hwy
        have HCN := Aside0.mk hcn
        have HB0 := Aside0.mk (And.intro hb1 (And.intro hb2 hlo))
        clear HG HST hto hj hwy hcn hok hno hlo hb1 hb2
        have b0 := SS.out.c0
        obtain ⟨wo, rfl⟩ : ∃ wo : World, wo = wr := ⟨wr, rfl⟩
        have SSx := Aside0.mk (SS.out.alloc (.cells #[.int .i64 14, .int .i64 d, .int .i64 a, .int .i64 bb, .int .i64 loc, .int .i64 len, .int .i64 kk_, .int .i64 0] 40))
        have KKx := Aside0.mk (KK.out.alloc (.cells #[.int .i64 14, .int .i64 d, .int .i64 a, .int .i64 bb, .int .i64 loc, .int .i64 len, .int .i64 kk_, .int .i64 0] 40))
        have KXx := Aside0.mk (blk_new wo (.cells #[.int .i64 14, .int .i64 d, .int .i64 a, .int .i64 bb, .int .i64 loc, .int .i64 len, .int .i64 kk_, .int .i64 0] 40))
        have KPx : Aside0 (KpB wo (wo.alloc (.cells #[.int .i64 14, .int .i64 d, .int .i64 a, .int .i64 bb, .int .i64 loc, .int .i64 len, .int .i64 kk_, .int .i64 0] 40)) gs gm gk) := ⟨KpB.below (below_alloc (Below.refl _ _) _)⟩
        have hbx : Aside0 (wo.heap.size ≠ gk ∧ wo.heap.size ≠ gs ∧ wo.heap.size ≠ gm ∧ w.heap.size ≤ wo.heap.size) := ⟨by have := SS.out.ls; have := SS.out.lm; have := SS.out.HB.size; omega⟩
        have hlw : Aside0 (wf64 loc ∧ wf64 a ∧ wf64 d) := ⟨by have := HB0.out; exact ⟨wf64_of (by omega) (by omega), wf64_of (by omega) (by omega), wf64_of (by omega) (by omega)⟩⟩
        have hln : Aside0 (0 ≤ loc ∧ loc ≤ 1000 ∧ 0 ≤ len ∧ len ≤ 1000) := ⟨HB0.out.2.2⟩
        have x5 := blk_cell KXx.out 5
        go_wp2
        generalize wo.alloc (.cells #[.int .i64 14, .int .i64 d, .int .i64 a, .int .i64 bb, .int .i64 loc, .int .i64 len, .int .i64 kk_, .int .i64 0] 40) = wx at SSx KKx KXx KPx ⊢
        clear x5
        go_loopw [62] (fun v w' => ∃ y : Int, v = .int .i64 y ∧ Aside0 (0 ≤ y ∧ y ≤ len) ∧ Aside0 (Wk w w' (some ad1) code.length c b gs cs gm km sp M) ∧ Aside0 (MapI w' gk kk (fun u => if loc ≤ u ∧ u < loc + y then none else K u)) ∧ Aside0 (w'.heap[wo.heap.size]? = some (.cells #[.int .i64 14, .int .i64 d, .int .i64 a, .int .i64 bb, .int .i64 loc, .int .i64 len, .int .i64 kk_, .int .i64 0] 40 (0, 0))) ∧ Aside0 (KpB wo w' gs gm gk)) (fun v _ => (len - intOf v).toNat)
        case atStart => exact ⟨0, rfl, ⟨by have := hln.out; omega⟩, SSx, ⟨KKx.out.ext (Nat.le_refl _) (fun t_ _ => by rw [if_neg (by omega)])⟩, KXx, KPx⟩
        case round =>
          obtain ⟨y, rfl, HY, Sy, Ky, KXy, KPy⟩ := hrel
          by_cases hyl : y < len
          · have c8 : decide (y < len) = true := decide_eq_true hyl
            have e2 : wrap64 (y + 1) = y + 1 := by have := HY.out; have := hln.out; exact wrap_of (by omega) (by omega)
            have e3 : wrap64 (loc + y) = loc + y := by have := HY.out; have := hln.out; exact wrap_of (by omega) (by omega)
            have HYL := Aside0.mk hyl
            have hly : Aside0 (wf64 (loc + y)) := ⟨by have := HY.out; have := hln.out; exact wf64_of (by omega) (by omega)⟩
            have x4 := blk_cell KXy.out 4
            clear hyl
            go_wp2_with (at_delete; rw [e3]; refine MapI.del Ky.out rfl _ _ rfl rfl (loc + y) rfl hly.out ?_; intro w5 hm hg; have S5 := Aside0.mk (Sy.out.grown hg hgk n3 n1 n2); have K5 := Aside0.mk hm; have KX5 := Aside0.mk (blk_grown KXy.out hg (fun he => hbx.out.1 (Option.some.inj he))); have KP5 : Aside0 (KpB wo _ gs gm gk) := ⟨KPy.out.trans (KpB.grown hg (Or.inr (Or.inr rfl)))⟩; clear hm hg)
            rw [e2]
            refine ⟨⟨y + 1, rfl, ⟨by have := HY.out; have := HYL.out; omega⟩, S5, ⟨K5.out.ext (Nat.le_refl _) (fun t_ _ => ?_)⟩, KX5, KP5⟩, by have := HYL.out; simp [intOf]; omega⟩
            try dsimp only
            by_cases h1 : t_ = loc + y
            · rw [if_pos h1, if_pos (by have := HY.out; omega)]
            · rw [if_neg h1]
              by_cases h2 : loc ≤ t_ ∧ t_ < loc + y
              · rw [if_pos h2, if_pos (by omega)]
              · rw [if_neg h2, if_neg (by omega)]
          · have c8 : decide (y < len) = false := decide_eq_false hyl
            have hyy : y = len := by have := HY.out; omega
            subst hyy
            have x7 := blk_cell KXy.out 7
            go_wp2
            refine ⟨⟨i + 1, km, kk, sp, M, fun u => if loc ≤ u ∧ u < loc + y then none else K u, by rw [e1, ← HJ.out]; rfl, hi1, ⟨by have h1 := HN.out; have hcn := HCN.out; rw [if_neg (by simp)] at hcn; omega⟩, ⟨Sy.out⟩, ⟨Ky.out⟩, ⟨HBM.out⟩, ⟨fun u_ v_ h_ => (by dsimp only at h_; split at h_; cases h_; exact HBK.out u_ v_ h_)⟩, ⟨HKp.out.trans KPy.out⟩, ⟨by have h1 := HRR.out; rw [HWY.out, if_neg (by simp)] at h1; exact h1⟩⟩, by have := HJ.out; simp [intOf]; omega⟩
    · as_aux_lemma =>
        obtain rfl := hno (by decide)
        have hlt7 := KK.out.lt
        obtain ⟨hi1, hwy, hcn⟩ := HG.out (show ¬ (15 : Int) = 18 by decide)
        have e1 : wrap64 (j + 1) = j + 1 := wrap_of (by omega) (by omega)
        have HJ := Aside0.mk hj
        have HWY := Aside0.mk hwy
        have HCN := Aside0.mk hcn
        have HB0 := Aside0.mk (And.intro hb1 (And.intro hb2 hlo))
        clear HG HST hto hj hwy hcn hok hno hlo hb1 hb2
        have b0 := SS.out.c0
        go_wp2
        refine ⟨⟨i + 1, km, kk, sp, M, K, by rw [e1, ← HJ.out]; rfl, hi1, ⟨by have h1 := HN.out; have hcn := HCN.out; rw [if_neg (by simp)] at hcn; omega⟩, ⟨SS.out.alloc _⟩, ⟨KK.out.alloc _⟩, ⟨HBM.out⟩, ⟨HBK.out⟩, ⟨HKp.out.trans (KpB.below (below_alloc (Below.refl _ _) _))⟩, ⟨by have h1 := HRR.out; rw [HWY.out, if_neg (by simp)] at h1; exact h1⟩⟩, by have := HJ.out; simp [intOf]; omega⟩
    · as_aux_lemma =>
        obtain ⟨hq1, hq2⟩ := hto (by decide)
        obtain ⟨q, rfl⟩ : ∃ q : Nat, tt = (q : Int) := ⟨tt.toNat, by omega⟩
        have c7 : ((q : Int) != 0) = true := bne_iff_ne.2 (by omega)
        have hqn : Aside0 (q < code.length ∧ i + 1 < q ∧ ¬ ((q : Int) = 0)) := ⟨by omega, by omega, by omega⟩
        clear hq1 hq2
        have hlt7 := KK.out.lt
        obtain ⟨hi1, hwy, hcn⟩ := HG.out (show ¬ (16 : Int) = 18 by decide)
        have e1 : wrap64 (j + 1) = j + 1 := wrap_of (by omega) (by omega)
        have HJ := Aside0.mk hj
        have HWY := Aside0.mk hwy
        have HCN := Aside0.mk hcn
        have HB0 := Aside0.mk (And.intro hb1 (And.intro hb2 hlo))
        clear HG HST hto hj hwy hcn hok hno hlo hb1 hb2
        have b0 := SS.out.c0
        go_wp2
        have SSx := Aside0.mk (SS.out.alloc (.cells #[.int .i64 16, .int .i64 d, .int .i64 a, .int .i64 bb, .int .i64 loc, .int .i64 len, .int .i64 kk_, .int .i64 (q : Int)] 40))
        have KKx := Aside0.mk (KK.out.alloc (.cells #[.int .i64 16, .int .i64 d, .int .i64 a, .int .i64 bb, .int .i64 loc, .int .i64 len, .int .i64 kk_, .int .i64 (q : Int)] 40))
        have KXx := Aside0.mk (blk_new wr (.cells #[.int .i64 16, .int .i64 d, .int .i64 a, .int .i64 bb, .int .i64 loc, .int .i64 len, .int .i64 kk_, .int .i64 (q : Int)] 40))
        have KPx : Aside0 (KpB wr (wr.alloc (.cells #[.int .i64 16, .int .i64 d, .int .i64 a, .int .i64 bb, .int .i64 loc, .int .i64 len, .int .i64 kk_, .int .i64 (q : Int)] 40)) gs gm gk) := ⟨KpB.below (below_alloc (Below.refl _ _) _)⟩
        have x7 := blk_cell KXx.out 7
        generalize wr.alloc (.cells #[.int .i64 16, .int .i64 d, .int .i64 a, .int .i64 bb, .int .i64 loc, .int .i64 len, .int .i64 kk_, .int .i64 (q : Int)] 40) = wx at SSx KKx KXx KPx x7 ⊢
        go_region_held3 (fun w' => w'.cell? ⟨wr.heap.size, 7, none⟩ = some (.int .i64 (q : Int))) (first | go_keep | assumption)
          (first
            | (go_at_call 53; refine (clone_new (m := K) (n := kk) (b := gk) (by repeat (first | exact KKx.out | apply MapI.drewN | apply MapI.drew))).mono ?_; rintro e w3 ⟨g2, rfl, hm, hg2, hb3⟩; have M3 := Aside0.mk hm; have B3 := Aside0.mk hb3; have KP3 : Aside0 (KpB wx w3 gs gm gk) := ⟨by first | exact KpB.below hb3 | exact KpB.below (below_step (pw_below_drewN (Below.refl _ _) _) hb3) | exact KpB.below (below_step (below_drew1 (Below.refl _ _)) hb3)⟩; have S3 : Aside0 (Wk w w3 (some ad1) code.length c b gs cs gm km sp M) := ⟨by first | exact SSx.out.below hb3 | exact (SSx.out.drewN _).below hb3 | exact SSx.out.drew.below hb3⟩; have K3 : Aside0 (MapI w3 gk kk K) := ⟨by first | exact KKx.out.below hb3 | exact (KKx.out.drewN _).below hb3 | exact KKx.out.drew.below hb3⟩; have N3 : Aside0 (w.heap.size ≤ g2 ∧ g2 ≠ gs ∧ g2 ≠ gm ∧ g2 ≠ b ∧ gk ≠ g2 ∧ wx.heap.size ≤ g2) := ⟨by have a1 : wx.heap.size ≤ g2 := hg2; have a2 := SSx.out.ls; have a3 := SSx.out.lm; have a4 := SSx.out.lb; have a5 := KKx.out.lt; have a6 := SSx.out.bs; omega⟩; have KX3 : Aside0 (w3.heap[wr.heap.size]? = some (.cells #[.int .i64 16, .int .i64 d, .int .i64 a, .int .i64 bb, .int .i64 loc, .int .i64 len, .int .i64 kk_, .int .i64 (q : Int)] 40 (0, 0))) := ⟨(hb3.block _ (blk_lt KXx.out)).trans KXx.out⟩; clear hm hg2 hb3; have x7b := blk_cell KX3.out 7)
            | (go_at_call 50; refine (HIH.out q _ b gs cs gm km sp M g2 kk K hqn.out.1 (by have := hqn.out; have := HF.out; have := HN.out; omega) (by repeat (first | exact S3.out | apply Wk.drewN | apply Wk.drew)) (by repeat (first | exact M3.out | apply MapI.drewN | apply MapI.drew)) N3.out.1 N3.out.2.1 N3.out.2.2.1 N3.out.2.2.2.1 HBM.out HBK.out (by have h1 := HN.out; have hcn := HCN.out; have h3 := hqn.out.2.2; rw [if_pos h3] at hcn; simp only [Int.toNat_natCast] at hcn; omega) (by have h1 := HN.out; have := hqn.out; omega)).mono ?_; rintro e w4 ⟨rfl, ⟨km4, hkm4, hs4⟩, hk4⟩; have HK4 := Aside0.mk hkm4; have S4 := Aside0.mk hs4; have KP4 := Aside0.mk hk4; have K4 : Aside0 (MapI w4 gk kk K) := ⟨K3.out.same (hk4.2 gk K3.out.lt n1 n2 N3.out.2.2.2.2.1)⟩; have KX4 : Aside0 (w4.heap[wr.heap.size]? = some (.cells #[.int .i64 16, .int .i64 d, .int .i64 a, .int .i64 bb, .int .i64 loc, .int .i64 len, .int .i64 kk_, .int .i64 (q : Int)] 40 (0, 0))) := ⟨(hk4.2 wr.heap.size (blk_lt KX3.out) (by have := SS.out.ls; omega) (by have := SS.out.lm; omega) (by have := N3.out.2.2.2.2.2; have := blk_lt KXx.out; omega)).trans KX3.out⟩; clear hkm4 hs4 hk4; have x7c := blk_cell KX4.out 7))
        go_wp2
        refine ⟨⟨i + 1, km4, kk, _, _, K, by rw [e1, ← HJ.out]; rfl, hi1, ⟨by have h1 := HN.out; have hcn := HCN.out; have h4 := HK4.out; have h3 := hqn.out.2.2; rw [if_pos h3] at hcn; simp only [Int.toNat_natCast] at hcn; omega⟩, S4, K4, ⟨bd_wlk HT.out _ _ _ _ hqn.out.1 HBK.out HBM.out⟩, ⟨HBK.out⟩, ⟨HKp.out.trans (KPx.out.trans (KP3.out.trans_new KP4.out N3.out.2.2.2.2.2))⟩, ⟨by have h1 := HRR.out; rw [HWY.out, if_pos hqn.out.2.2] at h1; exact h1⟩⟩, by have := HJ.out; simp [intOf]; omega⟩
    · as_aux_lemma =>
        obtain ⟨hq1, hq2⟩ := hto (by decide)
        obtain ⟨q, rfl⟩ : ∃ q : Nat, tt = (q : Int) := ⟨tt.toNat, by omega⟩
        have c7 : ((q : Int) != 0) = true := bne_iff_ne.2 (by omega)
        have hqn : Aside0 (q < code.length ∧ i + 1 < q ∧ ¬ ((q : Int) = 0)) := ⟨by omega, by omega, by omega⟩
        clear hq1 hq2
        have hlt7 := KK.out.lt
        obtain ⟨hi1, hwy, hcn⟩ := HG.out (show ¬ (17 : Int) = 18 by decide)
        have e1 : wrap64 (j + 1) = j + 1 := wrap_of (by omega) (by omega)
        have HJ := Aside0.mk hj
        have HWY := Aside0.mk hwy
        have HCN := Aside0.mk hcn
        have HB0 := Aside0.mk (And.intro hb1 (And.intro hb2 hlo))
        clear HG HST hto hj hwy hcn hok hno hlo hb1 hb2
        have b0 := SS.out.c0
        go_wp2
        have SSx := Aside0.mk (SS.out.alloc (.cells #[.int .i64 17, .int .i64 d, .int .i64 a, .int .i64 bb, .int .i64 loc, .int .i64 len, .int .i64 kk_, .int .i64 (q : Int)] 40))
        have KKx := Aside0.mk (KK.out.alloc (.cells #[.int .i64 17, .int .i64 d, .int .i64 a, .int .i64 bb, .int .i64 loc, .int .i64 len, .int .i64 kk_, .int .i64 (q : Int)] 40))
        have KXx := Aside0.mk (blk_new wr (.cells #[.int .i64 17, .int .i64 d, .int .i64 a, .int .i64 bb, .int .i64 loc, .int .i64 len, .int .i64 kk_, .int .i64 (q : Int)] 40))
        have KPx : Aside0 (KpB wr (wr.alloc (.cells #[.int .i64 17, .int .i64 d, .int .i64 a, .int .i64 bb, .int .i64 loc, .int .i64 len, .int .i64 kk_, .int .i64 (q : Int)] 40)) gs gm gk) := ⟨KpB.below (below_alloc (Below.refl _ _) _)⟩
        have x7 := blk_cell KXx.out 7
        generalize wr.alloc (.cells #[.int .i64 17, .int .i64 d, .int .i64 a, .int .i64 bb, .int .i64 loc, .int .i64 len, .int .i64 kk_, .int .i64 (q : Int)] 40) = wx at SSx KKx KXx KPx x7 ⊢
        go_region_held3 (fun w' => w'.cell? ⟨wr.heap.size, 7, none⟩ = some (.int .i64 (q : Int))) (first | go_keep | assumption)
          (first
            | (go_at_call 53; refine (clone_new (m := K) (n := kk) (b := gk) (by repeat (first | exact KKx.out | apply MapI.drewN | apply MapI.drew))).mono ?_; rintro e w3 ⟨g2, rfl, hm, hg2, hb3⟩; have M3 := Aside0.mk hm; have B3 := Aside0.mk hb3; have KP3 : Aside0 (KpB wx w3 gs gm gk) := ⟨by first | exact KpB.below hb3 | exact KpB.below (below_step (pw_below_drewN (Below.refl _ _) _) hb3) | exact KpB.below (below_step (below_drew1 (Below.refl _ _)) hb3)⟩; have S3 : Aside0 (Wk w w3 (some ad1) code.length c b gs cs gm km sp M) := ⟨by first | exact SSx.out.below hb3 | exact (SSx.out.drewN _).below hb3 | exact SSx.out.drew.below hb3⟩; have K3 : Aside0 (MapI w3 gk kk K) := ⟨by first | exact KKx.out.below hb3 | exact (KKx.out.drewN _).below hb3 | exact KKx.out.drew.below hb3⟩; have N3 : Aside0 (w.heap.size ≤ g2 ∧ g2 ≠ gs ∧ g2 ≠ gm ∧ g2 ≠ b ∧ gk ≠ g2 ∧ wx.heap.size ≤ g2) := ⟨by have a1 : wx.heap.size ≤ g2 := hg2; have a2 := SSx.out.ls; have a3 := SSx.out.lm; have a4 := SSx.out.lb; have a5 := KKx.out.lt; have a6 := SSx.out.bs; omega⟩; have KX3 : Aside0 (w3.heap[wr.heap.size]? = some (.cells #[.int .i64 17, .int .i64 d, .int .i64 a, .int .i64 bb, .int .i64 loc, .int .i64 len, .int .i64 kk_, .int .i64 (q : Int)] 40 (0, 0))) := ⟨(hb3.block _ (blk_lt KXx.out)).trans KXx.out⟩; clear hm hg2 hb3; have x7b := blk_cell KX3.out 7)
            | (go_at_call 50; refine (HIH.out q _ b gs cs gm km sp M g2 kk K hqn.out.1 (by have := hqn.out; have := HF.out; have := HN.out; omega) (by repeat (first | exact S3.out | apply Wk.drewN | apply Wk.drew)) (by repeat (first | exact M3.out | apply MapI.drewN | apply MapI.drew)) N3.out.1 N3.out.2.1 N3.out.2.2.1 N3.out.2.2.2.1 HBM.out HBK.out (by have h1 := HN.out; have hcn := HCN.out; have h3 := hqn.out.2.2; rw [if_pos h3] at hcn; simp only [Int.toNat_natCast] at hcn; omega) (by have h1 := HN.out; have := hqn.out; omega)).mono ?_; rintro e w4 ⟨rfl, ⟨km4, hkm4, hs4⟩, hk4⟩; have HK4 := Aside0.mk hkm4; have S4 := Aside0.mk hs4; have KP4 := Aside0.mk hk4; have K4 : Aside0 (MapI w4 gk kk K) := ⟨K3.out.same (hk4.2 gk K3.out.lt n1 n2 N3.out.2.2.2.2.1)⟩; have KX4 : Aside0 (w4.heap[wr.heap.size]? = some (.cells #[.int .i64 17, .int .i64 d, .int .i64 a, .int .i64 bb, .int .i64 loc, .int .i64 len, .int .i64 kk_, .int .i64 (q : Int)] 40 (0, 0))) := ⟨(hk4.2 wr.heap.size (blk_lt KX3.out) (by have := SS.out.ls; omega) (by have := SS.out.lm; omega) (by have := N3.out.2.2.2.2.2; have := blk_lt KXx.out; omega)).trans KX3.out⟩; clear hkm4 hs4 hk4; have x7c := blk_cell KX4.out 7))
        go_wp2
        refine ⟨⟨i + 1, km4, kk, _, _, K, by rw [e1, ← HJ.out]; rfl, hi1, ⟨by have h1 := HN.out; have hcn := HCN.out; have h4 := HK4.out; have h3 := hqn.out.2.2; rw [if_pos h3] at hcn; simp only [Int.toNat_natCast] at hcn; omega⟩, S4, K4, ⟨bd_wlk HT.out _ _ _ _ hqn.out.1 HBK.out HBM.out⟩, ⟨HBK.out⟩, ⟨HKp.out.trans (KPx.out.trans (KP3.out.trans_new KP4.out N3.out.2.2.2.2.2))⟩, ⟨by have h1 := HRR.out; rw [HWY.out, if_pos hqn.out.2.2] at h1; exact h1⟩⟩, by have := HJ.out; simp [intOf]; omega⟩
    · as_aux_lemma =>
        have hwy := HST.out rfl
        have HWY := Aside0.mk hwy
        clear HG HST hto hj hwy hok hno hlo hb1 hb2
        have b0 := SS.out.c0
        go_wp2
        refine bodyPost_ret (results_none rfl _ _ _) rfl ?_
        refine ⟨rfl, ⟨km, by have h1 := HN.out; omega, ?_⟩, HKp.out.trans (KpB.below (below_alloc (Below.refl _ _) _))⟩
        have h1 := HRR.out
        rw [HWY.out] at h1
        rw [h1]
        exact SS.out.alloc _
end Go.Proofs.Ytdmbnlpcfgphpaa.Q
