/- The contract of again.follow: right code with answers, up to where it starves. -/
import Derived.Test.YtdmbnlpcfgphpaaAgn
import Derived.Test.YtdmbnlpcfgphpaaPnm
namespace Go.Proofs.Ytdmbnlpcfgphpaa.Q
open Go.RowKit Go.Maps Go.Proofs.YtdmbnlpcfgphpaaW.PrintWords Go.Proofs.YtdmbnlpcfgphpaaW.PrintLast Go.Proofs.YtdmbnlpcfgphpaaW.PrintMore
set_option linter.unusedVariables false
set_option linter.unusedSimpArgs false
/-- At which piece it stands, with which temps; does it starve there? -/
def folF (code : List S40) : Nat → Int → List Int → List Int → Int × List Int × Bool
  | 0, i, T, _ => (i, T, false)
  | f + 1, i, T, ans => if (stp (ins code i.toNat) i T ans).fin = 0 then folF code f (stp (ins code i.toNat) i T ans).next (stp (ins code i.toNat) i T ans).T (stp (ins code i.toNat) i T ans).ans else (i, T, (stp (ins code i.toNat) i T ans).fin == 4)
def fol (code : List S40) (answers : List Int) : Int × List Int × Bool := folF code code.length 0 zT answers
theorem folF_st {code : List S40} {f i : Nat} {T ans : List Int} {r : Rs} (h : stp (ins code i) (i : Int) T ans = r) : (r.fin = 0 → folF code (f + 1) (i : Int) T ans = folF code f r.next r.T r.ans) ∧ (r.fin ≠ 0 → folF code (f + 1) (i : Int) T ans = ((i : Int), T, r.fin == 4)) := by
  conv => enter [1, 2, 1]; unfold folF
  conv => enter [2, 2, 1]; unfold folF
  rw [Int.toNat_natCast, h]
  exact ⟨fun h0 => by rw [if_pos h0], fun h0 => by rw [if_neg h0]⟩
/-- A map holds the temps. -/
def TJ (m : KM) (T : List Int) : Prop := T.length = 400 ∧ ∀ t, 0 ≤ t → t < 400 → (m t).getD 0 = rd T t
theorem TJ.zero : TJ (fun _ => none) zT := ⟨zT_len, fun t h0 h1 => by unfold zT rd; rw [List.getD_eq_getElem?_getD, List.getElem?_replicate]; split <;> rfl⟩
theorem TJ.set {m : KM} {T : List Int} (h : TJ m T) {d : Int} (hd : 0 ≤ d ∧ d < 400) (v : Int) : TJ (fun u => if u = d then some v else m u) (T.set d.toNat v) := by
  refine ⟨by rw [List.length_set]; exact h.1, fun t h0 h1 => ?_⟩
  rw [rd_set_at h.1 hd.1 hd.2 t h0 h1]
  dsimp only
  by_cases e : t = d
  · rw [if_pos e, if_pos e]; rfl
  · rw [if_neg e, if_neg e]; exact h.2 t h0 h1
theorem wf64_wrap (n : Int) : wf64 (wrap64 n) := by
  refine wf64_of ?_ ?_ <;> (unfold wrap64; omega)
def FolEnd (R : Int × List Int × Bool) (w : World) (e : Ending) (w' : World) : Prop := ∃ gm kk m, e = .returned (.tuple #[.int .i64 R.1, .map (some gm), .bool R.2.2]) ∧ MapJ w' gm kk m ∧ TJ m R.2.1 ∧ Below w.heap.size w w'
theorem i64_wrap (n : Int) : IntKind.i64.wrap n = wrap64 n := by unfold wrap64; exact IntKind.wrap_i64 n
theorem frame_fin {P G : Prop} (h : P → G) (p : P) : G := h p
set_option maxHeartbeats 8000000 in
set_option maxRecDepth 100000 in
theorem follow_any (A : Option Addr) (c : Nat) (code : List S40) (l : List S80) (Aa : Option Addr) (c2 : Nat) (answers : List Int) (w : World) (hr : Kd.C k40 w A code.length code) (hc : code.length ≤ c) (hra : (Kd.int .i64).C w Aa answers.length answers) (hca : answers.length ≤ c2) (hR : right code l = true) (hl : l.length ≤ 1000) (hwK : ∀ i, i < code.length → wf64 (ins code i).f6) (hwA : ∀ x ∈ answers, wf64 x) :
    Calls Try.prog 43 #[.slice A code.length c, .slice Aa answers.length c2] w (FolEnd (fol code answers) w) := by
  have t := tr_of hR
  have hn1 := t.n1
  have hn4 := t.n4
  have HT := Aside0.mk t
  have HLb := Aside0.mk (lb_of hR hl)
  have HC := Aside0.mk hr
  have HCc := Aside0.mk hc
  have HWK := Aside0.mk hwK
  have HA0 := Aside0.mk (And.intro hra (And.intro hca hwA))
  obtain ⟨R, hRR⟩ : ∃ R, R = fol code answers := ⟨_, rfl⟩
  rw [← hRR]
  have HRR := Aside0.mk hRR
  have hmm := @run_makeMap Try.prog
  clear hr hc t hR hwK hra hca hwA hRR hl
  go_enter Try.func43, Try.ntmps43
  go_wp2
  clear hmm
  go_loopw [8, 1] (fun v v1 w' => ∃ (i kk f : Nat) (T ans : List Int) (m : KM) (Ab : Option Addr) (ca : Nat), v = .int .i64 (i : Int) ∧ v1 = .slice Ab ans.length ca ∧ i < code.length ∧ Aside0 (Below w.heap.size w w') ∧ Aside0 (MapJ w' w.heap.size kk m) ∧ Aside0 (TJ m T) ∧ Aside0 ((Kd.int .i64).C w Ab ans.length ans ∧ ans.length ≤ ca ∧ ∀ x ∈ ans, wf64 x) ∧ Aside0 (kk + (code.length - i) ≤ 400 ∧ code.length - i ≤ f) ∧ Aside0 (R = folF code f (i : Int) T ans)) (fun v _ _ => code.length - (intOf v).toNat)
  case atStart => exact ⟨0, 0, code.length, zT, answers, _, Aa, c2, rfl, rfl, by omega, ⟨below_alloc (Below.refl _ _) _⟩, ⟨MapJ.made w⟩, ⟨TJ.zero⟩, HA0, ⟨by omega⟩, HRR⟩
  case round =>
    clear HA0 HRR
    obtain ⟨i, kk, f, T, ans, m, Ab, ca, rfl, rfl, hi, HB, MJ, HTJ, HA, HN, HRR⟩ := hrel
    obtain ⟨f, rfl⟩ : ∃ g, f = g + 1 := ⟨f - 1, by have := HN.out; omega⟩
    obtain ⟨wo, rfl⟩ : ∃ wo : World, wo = wr := ⟨wr, rfl⟩
    obtain ⟨ad1, ea, k0, k1, k2, k3, k4, k5, k6, k7⟩ := at_T40 (Kd.C_below HC.out HB.out) (i : Int) (by omega) (by omega)
    cases ea
    rw [ins_at] at k0 k1 k2 k3 k4 k5 k6 k7
    have hok := HT.out.ok i hi
    have hlo := HLb.out i hi
    have hb1 := tmp_bd (HT.out.tD i hi)
    have hb2 := tmp_bd (HT.out.tA i hi)
    have hb3 := tmp_bd (HT.out.tB i hi)
    have hto := HT.out.tgt i hi
    have hnx := HT.out.nx i hi
    have hw6 := HWK.out i hi
    have HST : Aside0 (((stp (ins code i) (i : Int) T ans).fin = 0 → R = folF code f (stp (ins code i) (i : Int) T ans).next (stp (ins code i) (i : Int) T ans).T (stp (ins code i) (i : Int) T ans).ans) ∧ ((stp (ins code i) (i : Int) T ans).fin ≠ 0 → R = ((i : Int), T, (stp (ins code i) (i : Int) T ans).fin == 4))) := ⟨by rw [HRR.out]; exact folF_st rfl⟩
    clear HRR
    obtain ⟨j, hj⟩ : ∃ j : Int, (i : Int) = j := ⟨_, rfl⟩
    rw [hj] at k0 k1 k2 k3 k4 k5 k6 k7 ⊢
    have q1 : (j < (code.length : Int)) = True := eq_true (by omega)
    have q0 : (0 ≤ j) = True := eq_true (by omega)
    have e1 : wrap64 (j + 1) = j + 1 := wrap_of (by omega) (by omega)
    have HJ := Aside0.mk hj
    have HI := Aside0.mk hi
    clear hj hi
    generalize ins code i = X at *
    obtain ⟨o, d, a, b, loc, len, k_, tt⟩ := X
    dsimp only at hok hlo hb1 hb2 hb3 hto hnx hw6 k0 k1 k2 k3 k4 k5 k6 k7
    obtain ⟨va, hva⟩ : ∃ va, rd T a = va := ⟨_, rfl⟩
    obtain ⟨vb, hvb⟩ : ∃ vb, rd T b = vb := ⟨_, rfl⟩
    have HV : Aside0 ((m a).getD 0 = va ∧ (m b).getD 0 = vb) := ⟨by rw [HTJ.out.2 a hb2.1 hb2.2, hva], by rw [HTJ.out.2 b hb3.1 hb3.2, hvb]⟩
    have HVA := Aside0.mk hva
    have HVB := Aside0.mk hvb
    have HD := Aside0.mk (And.intro hb1 (And.intro hb2 (And.intro hb3 (And.intro hlo (And.intro hto (And.intro hnx hw6))))))
    have HW : Aside0 (wf64 d ∧ wf64 a ∧ wf64 b) := ⟨wf64_of (by omega) (by omega), wf64_of (by omega) (by omega), wf64_of (by omega) (by omega)⟩
    have HBO : Aside0 (w.heap.size < wo.heap.size ∧ w.heap.size ≠ wo.heap.size) := ⟨by have := MJ.out.lt; omega⟩
    have MJ1 := Aside0.mk (MJ.out.alloc (.cells #[.int .i64 o, .int .i64 d, .int .i64 a, .int .i64 b, .int .i64 loc, .int .i64 len, .int .i64 k_, .int .i64 tt] 40))
    have HB1 := Aside0.mk (below_alloc HB.out (.cells #[.int .i64 o, .int .i64 d, .int .i64 a, .int .i64 b, .int .i64 loc, .int .i64 len, .int .i64 k_, .int .i64 tt] 40))
    clear hva hvb hlo hb1 hb2 hb3 hto hnx hw6
    rcases op_cases hok with rfl | rfl | rfl | rfl | rfl | rfl | rfl | rfl | rfl | rfl | rfl | rfl | rfl | rfl | rfl | rfl | rfl | rfl
    · as_aux_lemma =>
        obtain ⟨w4, hput, hm, hg⟩ := (MJ1.out).put_own d (k_) HW.out.1 (HD.out.2.2.2.2.2.2) (by have := HN.out; omega)
        have MJ4 := Aside0.mk hm
        have HB4 : Aside0 (Below w.heap.size w w4) := ⟨(HB1.out).grown hg (HB1.out).size (fun j_ hj_ => by cases hj_; exact Nat.le_refl _)⟩
        clear hm hg
        go_wp2
        have hst : R = folF code f ((i : Int) + 1) (T.set d.toNat (k_)) (ans) := by have h9 := HST.out; simp [stp, stSet] at h9 ⊢; exact h9
        have HST2 := Aside0.mk hst
        clear hst
        skip
        refine ⟨⟨i + 1, kk + 1, f, T.set d.toNat (k_), ans, _, Ab, ca, by rw [e1, ← HJ.out]; rfl, rfl, HD.out.2.2.2.2.2.1 (by decide), HB4, MJ4, ⟨HTJ.out.set HD.out.1 (k_)⟩, HA, ⟨by have h1 := HN.out; have h2 := HI.out; omega⟩, ⟨by have h9 := HST2.out; first | exact h9 | (rw [show ((i + 1 : Nat) : Int) = (i : Int) + 1 from rfl]; exact h9)⟩⟩, by have := HI.out; have := HJ.out; simp [intOf]; omega⟩
    · as_aux_lemma =>
        have ra : (Instr.lookup 87 (.map (some w.heap.size)) (.int .i64 a) false).run Try.prog (wo.alloc (.cells #[.int .i64 2, .int .i64 d, .int .i64 a, .int .i64 b, .int .i64 loc, .int .i64 len, .int .i64 k_, .int .i64 tt] 40)) = .ok (.int .i64 va) (wo.alloc (.cells #[.int .i64 2, .int .i64 d, .int .i64 a, .int .i64 b, .int .i64 loc, .int .i64 len, .int .i64 k_, .int .i64 tt] 40)) := by have h_ := MJ1.out.run1 a HW.out.2.1; rw [HV.out.1] at h_; exact h_
        have rb : (Instr.lookup 87 (.map (some w.heap.size)) (.int .i64 b) false).run Try.prog (wo.alloc (.cells #[.int .i64 2, .int .i64 d, .int .i64 a, .int .i64 b, .int .i64 loc, .int .i64 len, .int .i64 k_, .int .i64 tt] 40)) = .ok (.int .i64 vb) (wo.alloc (.cells #[.int .i64 2, .int .i64 d, .int .i64 a, .int .i64 b, .int .i64 loc, .int .i64 len, .int .i64 k_, .int .i64 tt] 40)) := by have h_ := MJ1.out.run1 b HW.out.2.2; rw [HV.out.2] at h_; exact h_
        obtain ⟨w4, hput, hm, hg⟩ := (MJ1.out).put_own d (wrap64 (va + vb)) HW.out.1 (wf64_wrap _) (by have := HN.out; omega)
        have MJ4 := Aside0.mk hm
        have HB4 : Aside0 (Below w.heap.size w w4) := ⟨(HB1.out).grown hg (HB1.out).size (fun j_ hj_ => by cases hj_; exact Nat.le_refl _)⟩
        clear hm hg
        go_wp2
        have hst : R = folF code f ((i : Int) + 1) (T.set d.toNat (wrap64 (va + vb))) (ans) := by have h9 := HST.out; simp [stp, stSet, HVA.out, HVB.out] at h9 ⊢; exact h9
        have HST2 := Aside0.mk hst
        clear hst
        skip
        refine ⟨⟨i + 1, kk + 1, f, T.set d.toNat (wrap64 (va + vb)), ans, _, Ab, ca, by rw [e1, ← HJ.out]; rfl, rfl, HD.out.2.2.2.2.2.1 (by decide), HB4, MJ4, ⟨HTJ.out.set HD.out.1 (wrap64 (va + vb))⟩, HA, ⟨by have h1 := HN.out; have h2 := HI.out; omega⟩, ⟨by have h9 := HST2.out; first | exact h9 | (rw [show ((i + 1 : Nat) : Int) = (i : Int) + 1 from rfl]; exact h9)⟩⟩, by have := HI.out; have := HJ.out; simp [intOf]; omega⟩
    · as_aux_lemma =>
        have ra : (Instr.lookup 87 (.map (some w.heap.size)) (.int .i64 a) false).run Try.prog (wo.alloc (.cells #[.int .i64 3, .int .i64 d, .int .i64 a, .int .i64 b, .int .i64 loc, .int .i64 len, .int .i64 k_, .int .i64 tt] 40)) = .ok (.int .i64 va) (wo.alloc (.cells #[.int .i64 3, .int .i64 d, .int .i64 a, .int .i64 b, .int .i64 loc, .int .i64 len, .int .i64 k_, .int .i64 tt] 40)) := by have h_ := MJ1.out.run1 a HW.out.2.1; rw [HV.out.1] at h_; exact h_
        have rb : (Instr.lookup 87 (.map (some w.heap.size)) (.int .i64 b) false).run Try.prog (wo.alloc (.cells #[.int .i64 3, .int .i64 d, .int .i64 a, .int .i64 b, .int .i64 loc, .int .i64 len, .int .i64 k_, .int .i64 tt] 40)) = .ok (.int .i64 vb) (wo.alloc (.cells #[.int .i64 3, .int .i64 d, .int .i64 a, .int .i64 b, .int .i64 loc, .int .i64 len, .int .i64 k_, .int .i64 tt] 40)) := by have h_ := MJ1.out.run1 b HW.out.2.2; rw [HV.out.2] at h_; exact h_
        obtain ⟨w4, hput, hm, hg⟩ := (MJ1.out).put_own d (wrap64 (va - vb)) HW.out.1 (wf64_wrap _) (by have := HN.out; omega)
        have MJ4 := Aside0.mk hm
        have HB4 : Aside0 (Below w.heap.size w w4) := ⟨(HB1.out).grown hg (HB1.out).size (fun j_ hj_ => by cases hj_; exact Nat.le_refl _)⟩
        clear hm hg
        go_wp2
        have hst : R = folF code f ((i : Int) + 1) (T.set d.toNat (wrap64 (va - vb))) (ans) := by have h9 := HST.out; simp [stp, stSet, HVA.out, HVB.out] at h9 ⊢; exact h9
        have HST2 := Aside0.mk hst
        clear hst
        skip
        refine ⟨⟨i + 1, kk + 1, f, T.set d.toNat (wrap64 (va - vb)), ans, _, Ab, ca, by rw [e1, ← HJ.out]; rfl, rfl, HD.out.2.2.2.2.2.1 (by decide), HB4, MJ4, ⟨HTJ.out.set HD.out.1 (wrap64 (va - vb))⟩, HA, ⟨by have h1 := HN.out; have h2 := HI.out; omega⟩, ⟨by have h9 := HST2.out; first | exact h9 | (rw [show ((i + 1 : Nat) : Int) = (i : Int) + 1 from rfl]; exact h9)⟩⟩, by have := HI.out; have := HJ.out; simp [intOf]; omega⟩
    · as_aux_lemma =>
        have ra : (Instr.lookup 87 (.map (some w.heap.size)) (.int .i64 a) false).run Try.prog (wo.alloc (.cells #[.int .i64 4, .int .i64 d, .int .i64 a, .int .i64 b, .int .i64 loc, .int .i64 len, .int .i64 k_, .int .i64 tt] 40)) = .ok (.int .i64 va) (wo.alloc (.cells #[.int .i64 4, .int .i64 d, .int .i64 a, .int .i64 b, .int .i64 loc, .int .i64 len, .int .i64 k_, .int .i64 tt] 40)) := by have h_ := MJ1.out.run1 a HW.out.2.1; rw [HV.out.1] at h_; exact h_
        have rb : (Instr.lookup 87 (.map (some w.heap.size)) (.int .i64 b) false).run Try.prog (wo.alloc (.cells #[.int .i64 4, .int .i64 d, .int .i64 a, .int .i64 b, .int .i64 loc, .int .i64 len, .int .i64 k_, .int .i64 tt] 40)) = .ok (.int .i64 vb) (wo.alloc (.cells #[.int .i64 4, .int .i64 d, .int .i64 a, .int .i64 b, .int .i64 loc, .int .i64 len, .int .i64 k_, .int .i64 tt] 40)) := by have h_ := MJ1.out.run1 b HW.out.2.2; rw [HV.out.2] at h_; exact h_
        obtain ⟨w4, hput, hm, hg⟩ := (MJ1.out).put_own d (wrap64 (va * vb)) HW.out.1 (wf64_wrap _) (by have := HN.out; omega)
        have MJ4 := Aside0.mk hm
        have HB4 : Aside0 (Below w.heap.size w w4) := ⟨(HB1.out).grown hg (HB1.out).size (fun j_ hj_ => by cases hj_; exact Nat.le_refl _)⟩
        clear hm hg
        go_wp2
        have hst : R = folF code f ((i : Int) + 1) (T.set d.toNat (wrap64 (va * vb))) (ans) := by have h9 := HST.out; simp [stp, stSet, HVA.out, HVB.out] at h9 ⊢; exact h9
        have HST2 := Aside0.mk hst
        clear hst
        skip
        refine ⟨⟨i + 1, kk + 1, f, T.set d.toNat (wrap64 (va * vb)), ans, _, Ab, ca, by rw [e1, ← HJ.out]; rfl, rfl, HD.out.2.2.2.2.2.1 (by decide), HB4, MJ4, ⟨HTJ.out.set HD.out.1 (wrap64 (va * vb))⟩, HA, ⟨by have h1 := HN.out; have h2 := HI.out; omega⟩, ⟨by have h9 := HST2.out; first | exact h9 | (rw [show ((i + 1 : Nat) : Int) = (i : Int) + 1 from rfl]; exact h9)⟩⟩, by have := HI.out; have := HJ.out; simp [intOf]; omega⟩
    · as_aux_lemma =>
        by_cases hz : vb = 0
        · have c9 : (vb == 0) = true := by simp [hz]
          have HZ := Aside0.mk hz
          clear hz
          have ra : (Instr.lookup 87 (.map (some w.heap.size)) (.int .i64 a) false).run Try.prog (wo.alloc (.cells #[.int .i64 5, .int .i64 d, .int .i64 a, .int .i64 b, .int .i64 loc, .int .i64 len, .int .i64 k_, .int .i64 tt] 40)) = .ok (.int .i64 va) (wo.alloc (.cells #[.int .i64 5, .int .i64 d, .int .i64 a, .int .i64 b, .int .i64 loc, .int .i64 len, .int .i64 k_, .int .i64 tt] 40)) := by have h_ := MJ1.out.run1 a HW.out.2.1; rw [HV.out.1] at h_; exact h_
          have rb : (Instr.lookup 87 (.map (some w.heap.size)) (.int .i64 b) false).run Try.prog (wo.alloc (.cells #[.int .i64 5, .int .i64 d, .int .i64 a, .int .i64 b, .int .i64 loc, .int .i64 len, .int .i64 k_, .int .i64 tt] 40)) = .ok (.int .i64 vb) (wo.alloc (.cells #[.int .i64 5, .int .i64 d, .int .i64 a, .int .i64 b, .int .i64 loc, .int .i64 len, .int .i64 k_, .int .i64 tt] 40)) := by have h_ := MJ1.out.run1 b HW.out.2.2; rw [HV.out.2] at h_; exact h_
          go_wp2
          have MJ9 := MJ1
          have HB9 := HB1
          have hst : R = ((i : Int), T, false) := by have h9 := HST.out; simp [stp, stGo, HVB.out, HZ.out] at h9 ⊢; exact h9
          go_ret3
          rw [hst]
          exact ⟨_, kk, m, by rw [HJ.out]; rfl, MJ9.out, HTJ.out, HB9.out⟩
        · have c9 : (vb == 0) = false := by simpa using hz
          have HZ := Aside0.mk hz
          have hz0 := hz
          clear hz
          have ra : (Instr.lookup 87 (.map (some w.heap.size)) (.int .i64 a) false).run Try.prog (wo.alloc (.cells #[.int .i64 5, .int .i64 d, .int .i64 a, .int .i64 b, .int .i64 loc, .int .i64 len, .int .i64 k_, .int .i64 tt] 40)) = .ok (.int .i64 va) (wo.alloc (.cells #[.int .i64 5, .int .i64 d, .int .i64 a, .int .i64 b, .int .i64 loc, .int .i64 len, .int .i64 k_, .int .i64 tt] 40)) := by have h_ := MJ1.out.run1 a HW.out.2.1; rw [HV.out.1] at h_; exact h_
          have rb : (Instr.lookup 87 (.map (some w.heap.size)) (.int .i64 b) false).run Try.prog (wo.alloc (.cells #[.int .i64 5, .int .i64 d, .int .i64 a, .int .i64 b, .int .i64 loc, .int .i64 len, .int .i64 k_, .int .i64 tt] 40)) = .ok (.int .i64 vb) (wo.alloc (.cells #[.int .i64 5, .int .i64 d, .int .i64 a, .int .i64 b, .int .i64 loc, .int .i64 len, .int .i64 k_, .int .i64 tt] 40)) := by have h_ := MJ1.out.run1 b HW.out.2.2; rw [HV.out.2] at h_; exact h_
          go_wp2
          have KXx := Aside0.mk (blk_new wo (.cells #[.int .i64 5, .int .i64 d, .int .i64 a, .int .i64 b, .int .i64 loc, .int .i64 len, .int .i64 k_, .int .i64 tt] 40))
          generalize wo.alloc (.cells #[.int .i64 5, .int .i64 d, .int .i64 a, .int .i64 b, .int .i64 loc, .int .i64 len, .int .i64 k_, .int .i64 tt] 40) = wx at KXx MJ1 HB1 ra rb ⊢
          clear ra rb
          have ra : (Instr.lookup 87 (.map (some w.heap.size)) (.int .i64 a) false).run Try.prog wx.drew = .ok (.int .i64 va) wx.drew := by have h_ := MapJ.run1 (show MapJ wx.drew w.heap.size kk m from MJ1.out) a HW.out.2.1; rw [HV.out.1] at h_; exact h_
          have rb : (Instr.lookup 87 (.map (some w.heap.size)) (.int .i64 b) false).run Try.prog wx.drew = .ok (.int .i64 vb) wx.drew := by have h_ := MapJ.run1 (show MapJ wx.drew w.heap.size kk m from MJ1.out) b HW.out.2.2; rw [HV.out.2] at h_; exact h_
          obtain ⟨w4, hput, hm, hg⟩ := MapJ.put_own (show MapJ wx.drew w.heap.size kk m from MJ1.out) d (IntKind.i64.wrap (va.tdiv vb)) HW.out.1 (by rw [i64_wrap]; exact wf64_wrap _) (by have := HN.out; omega)
          have MJ4 := Aside0.mk hm
          have HB4 : Aside0 (Below w.heap.size w w4) := ⟨(below_drew1 HB1.out).grown hg (below_drew1 HB1.out).size (fun j_ hj_ => by cases hj_; exact Nat.le_refl _)⟩
          have KX4 : Aside0 (w4.heap[wo.heap.size]? = some (.cells #[.int .i64 5, .int .i64 d, .int .i64 a, .int .i64 b, .int .i64 loc, .int .i64 len, .int .i64 k_, .int .i64 tt] 40 (0, 0))) := ⟨blk_grown (show wx.drew.heap[wo.heap.size]? = some (.cells #[.int .i64 5, .int .i64 d, .int .i64 a, .int .i64 b, .int .i64 loc, .int .i64 len, .int .i64 k_, .int .i64 tt] 40 (0, 0)) from KXx.out) hg (fun he => HBO.out.2 (Option.some.inj he).symm)⟩
          clear hm hg
          have x1 := blk_cell KXx.out 1
          have x2 := blk_cell KXx.out 2
          have x3 := blk_cell KXx.out 3
          have x1b := blk_cell KX4.out 1
          have x2b := blk_cell KX4.out 2
          have x3b := blk_cell KX4.out 3
          apply frame_fin
          case h =>
            intro hfin
            go_region_held3 (fun w' => w'.cell? ⟨wo.heap.size, 1, none⟩ = some (.int .i64 d) ∧ w'.cell? ⟨wo.heap.size, 2, none⟩ = some (.int .i64 a) ∧ w'.cell? ⟨wo.heap.size, 3, none⟩ = some (.int .i64 b)) (first | go_keep | assumption | exact ⟨x1b, x2b, x3b⟩) (fail)
            all_goals exact hfin
          go_wp2
          have hst : R = folF code f ((i : Int) + 1) (T.set d.toNat (IntKind.i64.wrap (va.tdiv vb))) (ans) := by have h9 := HST.out; simp [i64_wrap, stp, stSet, HVA.out, HVB.out, HZ.out] at h9 ⊢; exact h9
          have HST2 := Aside0.mk hst
          clear hst
          skip
          refine ⟨⟨i + 1, kk + 1, f, T.set d.toNat (IntKind.i64.wrap (va.tdiv vb)), ans, _, Ab, ca, by rw [e1, ← HJ.out]; rfl, rfl, HD.out.2.2.2.2.2.1 (by decide), HB4, MJ4, ⟨HTJ.out.set HD.out.1 (IntKind.i64.wrap (va.tdiv vb))⟩, HA, ⟨by have h1 := HN.out; have h2 := HI.out; omega⟩, ⟨by have h9 := HST2.out; first | exact h9 | (rw [show ((i + 1 : Nat) : Int) = (i : Int) + 1 from rfl]; exact h9)⟩⟩, by have := HI.out; have := HJ.out; simp [intOf]; omega⟩
    · as_aux_lemma =>
        cases ans with
        | nil =>
          go_wp2
          have MJ9 := MJ1
          have HB9 := HB1
          have hst : R = ((i : Int), T, true) := by have h9 := HST.out; simp [stp, stAsk] at h9 ⊢; exact h9
          go_ret3
          rw [hst]
          exact ⟨_, kk, m, by rw [HJ.out]; rfl, MJ9.out, HTJ.out, HB9.out⟩
        | cons y r =>
          obtain ⟨ad2, ea, hx⟩ := Kd.at_int (Kd.C_below HA.out.1 HB1.out) 0 (by omega) (by simp)
          cases ea
          have hx0 : (wo.alloc (.cells #[.int .i64 6, .int .i64 d, .int .i64 a, .int .i64 b, .int .i64 loc, .int .i64 len, .int .i64 k_, .int .i64 tt] 40)).cell? ad2 = some (.int .i64 y) := by simpa [Addr.add, rd] using hx
          clear hx
          have hlen : (y :: r).length = r.length + 1 := rfl
          have q2 : ((0 : Int) < ((y :: r).length : Int)) = True := eq_true (by rw [hlen]; omega)
          have c8 : (((y :: r).length : Int) == 0) = false := beq_eq_false_iff_ne.2 (by rw [hlen]; omega)
          obtain ⟨i2, hi2, hs2⟩ : ∃ i, Try.prog.info? 2 = some i ∧ i.size = 1 := ⟨_, rfl, by kernel_rfl⟩
          have hcut := cut_from (P := Try.prog) 24 2 .i64 Try.underlying24 hi2 1 hs2 (some ad2) (y :: r).length ca 1 (by omega) (by rw [hlen]; omega)
          have hdrop := Kd.C_drop (m := 1) (c := ca) HA.out.1 (by rw [hlen]; omega) HA.out.2.1
          simp only [Nat.mul_one, show (Kd.int .i64).sz = 1 from rfl, show (1 : Int).toNat = 1 from rfl, List.drop_succ_cons, List.drop_zero, hlen, Nat.add_sub_cancel] at hcut hdrop
          generalize (if ca = 1 then some ad2 else (some ad2).map fun x => x.add 1) = Ad at hcut hdrop
          have HA2 : Aside0 ((Kd.int .i64).C w Ad r.length r ∧ r.length ≤ ca - 1 ∧ ∀ x ∈ r, wf64 x) := ⟨hdrop, by have := HA.out.2.1; rw [hlen] at this; omega, fun x hx_ => HA.out.2.2 x (List.mem_cons_of_mem _ hx_)⟩
          have HY : Aside0 (wf64 y) := ⟨HA.out.2.2 y (List.mem_cons_self ..)⟩
          simp only [hlen] at q2 c8 ⊢
          clear hdrop hlen
          go_wp2
          have KXx := Aside0.mk (blk_new wo (.cells #[.int .i64 6, .int .i64 d, .int .i64 a, .int .i64 b, .int .i64 loc, .int .i64 len, .int .i64 k_, .int .i64 tt] 40))
          generalize wo.alloc (.cells #[.int .i64 6, .int .i64 d, .int .i64 a, .int .i64 b, .int .i64 loc, .int .i64 len, .int .i64 k_, .int .i64 tt] 40) = wx at KXx MJ1 HB1 hx0 ⊢
          go_quiet (fail)
          have KXd : Aside0 ((wx.drewN nq).heap[wo.heap.size]? = some (.cells #[.int .i64 6, .int .i64 d, .int .i64 a, .int .i64 b, .int .i64 loc, .int .i64 len, .int .i64 k_, .int .i64 tt] 40 (0, 0))) := ⟨KXx.out⟩
          have MJd : Aside0 (MapJ (wx.drewN nq) w.heap.size kk m) := ⟨MJ1.out.drewN _⟩
          have HBd : Aside0 (Below w.heap.size w (wx.drewN nq)) := ⟨pw_below_drewN HB1.out _⟩
          generalize wx.drewN nq = wd at KXd MJd HBd ⊢
          clear hx0 hcut KXx MJ1 HB1
          have y0 := blk_cell KXd.out 0
          have y1 := blk_cell KXd.out 1
          have y2 := blk_cell KXd.out 2
          have y3 := blk_cell KXd.out 3
          have y4 := blk_cell KXd.out 4
          have y5 := blk_cell KXd.out 5
          have y6 := blk_cell KXd.out 6
          have y7 := blk_cell KXd.out 7
          obtain ⟨w4, hput, hm, hg⟩ := (MJd.out).put_own d (y) HW.out.1 (HY.out) (by have := HN.out; omega)
          have MJ4 := Aside0.mk hm
          have HB4 : Aside0 (Below w.heap.size w w4) := ⟨(HBd.out).grown hg (HBd.out).size (fun j_ hj_ => by cases hj_; exact Nat.le_refl _)⟩
          clear hm hg
          go_wp2
          have hst : R = folF code f ((i : Int) + 1) (T.set d.toNat (y)) (r) := by have h9 := HST.out; simp [stp, stAsk] at h9 ⊢; exact h9
          have HST2 := Aside0.mk hst
          clear hst
          skip
          refine ⟨⟨i + 1, kk + 1, f, T.set d.toNat (y), r, _, Ad, (ca - 1), by rw [e1, ← HJ.out]; rfl, rfl, HD.out.2.2.2.2.2.1 (by decide), HB4, MJ4, ⟨HTJ.out.set HD.out.1 (y)⟩, HA2, ⟨by have h1 := HN.out; have h2 := HI.out; omega⟩, ⟨by have h9 := HST2.out; first | exact h9 | (rw [show ((i + 1 : Nat) : Int) = (i : Int) + 1 from rfl]; exact h9)⟩⟩, by have := HI.out; have := HJ.out; simp [intOf]; omega⟩
    · as_aux_lemma =>
        go_wp2
        have hst : R = folF code f ((i : Int) + 1) (T) (ans) := by have h9 := HST.out; simp [stp, stTell] at h9 ⊢; exact h9
        have HST2 := Aside0.mk hst
        clear hst
        skip
        refine ⟨⟨i + 1, kk, f, T, ans, _, Ab, ca, by rw [e1, ← HJ.out]; rfl, rfl, HD.out.2.2.2.2.2.1 (by decide), HB1, MJ1, ⟨HTJ.out⟩, HA, ⟨by have h1 := HN.out; have h2 := HI.out; omega⟩, ⟨by have h9 := HST2.out; first | exact h9 | (rw [show ((i + 1 : Nat) : Int) = (i : Int) + 1 from rfl]; exact h9)⟩⟩, by have := HI.out; have := HJ.out; simp [intOf]; omega⟩
    · as_aux_lemma =>
        cases ans with
        | nil =>
          go_wp2
          have MJ9 := MJ1
          have HB9 := HB1
          have hst : R = ((i : Int), T, true) := by have h9 := HST.out; simp [stp, stAsk] at h9 ⊢; exact h9
          go_ret3
          rw [hst]
          exact ⟨_, kk, m, by rw [HJ.out]; rfl, MJ9.out, HTJ.out, HB9.out⟩
        | cons y r =>
          obtain ⟨ad2, ea, hx⟩ := Kd.at_int (Kd.C_below HA.out.1 HB1.out) 0 (by omega) (by simp)
          cases ea
          have hx0 : (wo.alloc (.cells #[.int .i64 8, .int .i64 d, .int .i64 a, .int .i64 b, .int .i64 loc, .int .i64 len, .int .i64 k_, .int .i64 tt] 40)).cell? ad2 = some (.int .i64 y) := by simpa [Addr.add, rd] using hx
          clear hx
          have hlen : (y :: r).length = r.length + 1 := rfl
          have q2 : ((0 : Int) < ((y :: r).length : Int)) = True := eq_true (by rw [hlen]; omega)
          have c8 : (((y :: r).length : Int) == 0) = false := beq_eq_false_iff_ne.2 (by rw [hlen]; omega)
          obtain ⟨i2, hi2, hs2⟩ : ∃ i, Try.prog.info? 2 = some i ∧ i.size = 1 := ⟨_, rfl, by kernel_rfl⟩
          have hcut := cut_from (P := Try.prog) 24 2 .i64 Try.underlying24 hi2 1 hs2 (some ad2) (y :: r).length ca 1 (by omega) (by rw [hlen]; omega)
          have hdrop := Kd.C_drop (m := 1) (c := ca) HA.out.1 (by rw [hlen]; omega) HA.out.2.1
          simp only [Nat.mul_one, show (Kd.int .i64).sz = 1 from rfl, show (1 : Int).toNat = 1 from rfl, List.drop_succ_cons, List.drop_zero, hlen, Nat.add_sub_cancel] at hcut hdrop
          generalize (if ca = 1 then some ad2 else (some ad2).map fun x => x.add 1) = Ad at hcut hdrop
          have HA2 : Aside0 ((Kd.int .i64).C w Ad r.length r ∧ r.length ≤ ca - 1 ∧ ∀ x ∈ r, wf64 x) := ⟨hdrop, by have := HA.out.2.1; rw [hlen] at this; omega, fun x hx_ => HA.out.2.2 x (List.mem_cons_of_mem _ hx_)⟩
          have HY : Aside0 (wf64 y) := ⟨HA.out.2.2 y (List.mem_cons_self ..)⟩
          simp only [hlen] at q2 c8 ⊢
          clear hdrop hlen
          go_wp2
          have KXx := Aside0.mk (blk_new wo (.cells #[.int .i64 8, .int .i64 d, .int .i64 a, .int .i64 b, .int .i64 loc, .int .i64 len, .int .i64 k_, .int .i64 tt] 40))
          generalize wo.alloc (.cells #[.int .i64 8, .int .i64 d, .int .i64 a, .int .i64 b, .int .i64 loc, .int .i64 len, .int .i64 k_, .int .i64 tt] 40) = wx at KXx MJ1 HB1 hx0 ⊢
          go_quiet (fail)
          have KXd : Aside0 ((wx.drewN nq).heap[wo.heap.size]? = some (.cells #[.int .i64 8, .int .i64 d, .int .i64 a, .int .i64 b, .int .i64 loc, .int .i64 len, .int .i64 k_, .int .i64 tt] 40 (0, 0))) := ⟨KXx.out⟩
          have MJd : Aside0 (MapJ (wx.drewN nq) w.heap.size kk m) := ⟨MJ1.out.drewN _⟩
          have HBd : Aside0 (Below w.heap.size w (wx.drewN nq)) := ⟨pw_below_drewN HB1.out _⟩
          generalize wx.drewN nq = wd at KXd MJd HBd ⊢
          clear hx0 hcut KXx MJ1 HB1
          have y0 := blk_cell KXd.out 0
          have y1 := blk_cell KXd.out 1
          have y2 := blk_cell KXd.out 2
          have y3 := blk_cell KXd.out 3
          have y4 := blk_cell KXd.out 4
          have y5 := blk_cell KXd.out 5
          have y6 := blk_cell KXd.out 6
          have y7 := blk_cell KXd.out 7
          obtain ⟨w4, hput, hm, hg⟩ := (MJd.out).put_own d (y) HW.out.1 (HY.out) (by have := HN.out; omega)
          have MJ4 := Aside0.mk hm
          have HB4 : Aside0 (Below w.heap.size w w4) := ⟨(HBd.out).grown hg (HBd.out).size (fun j_ hj_ => by cases hj_; exact Nat.le_refl _)⟩
          clear hm hg
          go_wp2
          have hst : R = folF code f ((i : Int) + 1) (T.set d.toNat (y)) (r) := by have h9 := HST.out; simp [stp, stAsk] at h9 ⊢; exact h9
          have HST2 := Aside0.mk hst
          clear hst
          skip
          refine ⟨⟨i + 1, kk + 1, f, T.set d.toNat (y), r, _, Ad, (ca - 1), by rw [e1, ← HJ.out]; rfl, rfl, HD.out.2.2.2.2.2.1 (by decide), HB4, MJ4, ⟨HTJ.out.set HD.out.1 (y)⟩, HA2, ⟨by have h1 := HN.out; have h2 := HI.out; omega⟩, ⟨by have h9 := HST2.out; first | exact h9 | (rw [show ((i + 1 : Nat) : Int) = (i : Int) + 1 from rfl]; exact h9)⟩⟩, by have := HI.out; have := HJ.out; simp [intOf]; omega⟩
    · as_aux_lemma =>
        go_wp2
        have hst : R = folF code f ((i : Int) + 1) (T) (ans) := by have h9 := HST.out; simp [stp, stTell] at h9 ⊢; exact h9
        have HST2 := Aside0.mk hst
        clear hst
        skip
        refine ⟨⟨i + 1, kk, f, T, ans, _, Ab, ca, by rw [e1, ← HJ.out]; rfl, rfl, HD.out.2.2.2.2.2.1 (by decide), HB1, MJ1, ⟨HTJ.out⟩, HA, ⟨by have h1 := HN.out; have h2 := HI.out; omega⟩, ⟨by have h9 := HST2.out; first | exact h9 | (rw [show ((i + 1 : Nat) : Int) = (i : Int) + 1 from rfl]; exact h9)⟩⟩, by have := HI.out; have := HJ.out; simp [intOf]; omega⟩
    · as_aux_lemma =>
        cases ans with
        | nil =>
          go_wp2
          have MJ9 := MJ1
          have HB9 := HB1
          have hst : R = ((i : Int), T, true) := by have h9 := HST.out; simp [stp, stAsk] at h9 ⊢; exact h9
          go_ret3
          rw [hst]
          exact ⟨_, kk, m, by rw [HJ.out]; rfl, MJ9.out, HTJ.out, HB9.out⟩
        | cons y r =>
          obtain ⟨ad2, ea, hx⟩ := Kd.at_int (Kd.C_below HA.out.1 HB1.out) 0 (by omega) (by simp)
          cases ea
          have hx0 : (wo.alloc (.cells #[.int .i64 10, .int .i64 d, .int .i64 a, .int .i64 b, .int .i64 loc, .int .i64 len, .int .i64 k_, .int .i64 tt] 40)).cell? ad2 = some (.int .i64 y) := by simpa [Addr.add, rd] using hx
          clear hx
          have hlen : (y :: r).length = r.length + 1 := rfl
          have q2 : ((0 : Int) < ((y :: r).length : Int)) = True := eq_true (by rw [hlen]; omega)
          have c8 : (((y :: r).length : Int) == 0) = false := beq_eq_false_iff_ne.2 (by rw [hlen]; omega)
          obtain ⟨i2, hi2, hs2⟩ : ∃ i, Try.prog.info? 2 = some i ∧ i.size = 1 := ⟨_, rfl, by kernel_rfl⟩
          have hcut := cut_from (P := Try.prog) 24 2 .i64 Try.underlying24 hi2 1 hs2 (some ad2) (y :: r).length ca 1 (by omega) (by rw [hlen]; omega)
          have hdrop := Kd.C_drop (m := 1) (c := ca) HA.out.1 (by rw [hlen]; omega) HA.out.2.1
          simp only [Nat.mul_one, show (Kd.int .i64).sz = 1 from rfl, show (1 : Int).toNat = 1 from rfl, List.drop_succ_cons, List.drop_zero, hlen, Nat.add_sub_cancel] at hcut hdrop
          generalize (if ca = 1 then some ad2 else (some ad2).map fun x => x.add 1) = Ad at hcut hdrop
          have HA2 : Aside0 ((Kd.int .i64).C w Ad r.length r ∧ r.length ≤ ca - 1 ∧ ∀ x ∈ r, wf64 x) := ⟨hdrop, by have := HA.out.2.1; rw [hlen] at this; omega, fun x hx_ => HA.out.2.2 x (List.mem_cons_of_mem _ hx_)⟩
          have HY : Aside0 (wf64 y) := ⟨HA.out.2.2 y (List.mem_cons_self ..)⟩
          simp only [hlen] at q2 c8 ⊢
          clear hdrop hlen
          go_wp2
          have KXx := Aside0.mk (blk_new wo (.cells #[.int .i64 10, .int .i64 d, .int .i64 a, .int .i64 b, .int .i64 loc, .int .i64 len, .int .i64 k_, .int .i64 tt] 40))
          generalize wo.alloc (.cells #[.int .i64 10, .int .i64 d, .int .i64 a, .int .i64 b, .int .i64 loc, .int .i64 len, .int .i64 k_, .int .i64 tt] 40) = wx at KXx MJ1 HB1 hx0 ⊢
          go_quiet (fail)
          have KXd : Aside0 ((wx.drewN nq).heap[wo.heap.size]? = some (.cells #[.int .i64 10, .int .i64 d, .int .i64 a, .int .i64 b, .int .i64 loc, .int .i64 len, .int .i64 k_, .int .i64 tt] 40 (0, 0))) := ⟨KXx.out⟩
          have MJd : Aside0 (MapJ (wx.drewN nq) w.heap.size kk m) := ⟨MJ1.out.drewN _⟩
          have HBd : Aside0 (Below w.heap.size w (wx.drewN nq)) := ⟨pw_below_drewN HB1.out _⟩
          generalize wx.drewN nq = wd at KXd MJd HBd ⊢
          clear hx0 hcut KXx MJ1 HB1
          have y0 := blk_cell KXd.out 0
          have y1 := blk_cell KXd.out 1
          have y2 := blk_cell KXd.out 2
          have y3 := blk_cell KXd.out 3
          have y4 := blk_cell KXd.out 4
          have y5 := blk_cell KXd.out 5
          have y6 := blk_cell KXd.out 6
          have y7 := blk_cell KXd.out 7
          obtain ⟨w4, hput, hm, hg⟩ := (MJd.out).put_own d (y) HW.out.1 (HY.out) (by have := HN.out; omega)
          have MJ4 := Aside0.mk hm
          have HB4 : Aside0 (Below w.heap.size w w4) := ⟨(HBd.out).grown hg (HBd.out).size (fun j_ hj_ => by cases hj_; exact Nat.le_refl _)⟩
          clear hm hg
          go_wp2
          have hst : R = folF code f ((i : Int) + 1) (T.set d.toNat (y)) (r) := by have h9 := HST.out; simp [stp, stAsk] at h9 ⊢; exact h9
          have HST2 := Aside0.mk hst
          clear hst
          skip
          refine ⟨⟨i + 1, kk + 1, f, T.set d.toNat (y), r, _, Ad, (ca - 1), by rw [e1, ← HJ.out]; rfl, rfl, HD.out.2.2.2.2.2.1 (by decide), HB4, MJ4, ⟨HTJ.out.set HD.out.1 (y)⟩, HA2, ⟨by have h1 := HN.out; have h2 := HI.out; omega⟩, ⟨by have h9 := HST2.out; first | exact h9 | (rw [show ((i + 1 : Nat) : Int) = (i : Int) + 1 from rfl]; exact h9)⟩⟩, by have := HI.out; have := HJ.out; simp [intOf]; omega⟩
    · as_aux_lemma =>
        cases ans with
        | nil =>
          go_wp2
          have MJ9 := MJ1
          have HB9 := HB1
          have hst : R = ((i : Int), T, true) := by have h9 := HST.out; simp [stp, stAsk] at h9 ⊢; exact h9
          go_ret3
          rw [hst]
          exact ⟨_, kk, m, by rw [HJ.out]; rfl, MJ9.out, HTJ.out, HB9.out⟩
        | cons y r =>
          obtain ⟨ad2, ea, hx⟩ := Kd.at_int (Kd.C_below HA.out.1 HB1.out) 0 (by omega) (by simp)
          cases ea
          have hx0 : (wo.alloc (.cells #[.int .i64 11, .int .i64 d, .int .i64 a, .int .i64 b, .int .i64 loc, .int .i64 len, .int .i64 k_, .int .i64 tt] 40)).cell? ad2 = some (.int .i64 y) := by simpa [Addr.add, rd] using hx
          clear hx
          have hlen : (y :: r).length = r.length + 1 := rfl
          have q2 : ((0 : Int) < ((y :: r).length : Int)) = True := eq_true (by rw [hlen]; omega)
          have c8 : (((y :: r).length : Int) == 0) = false := beq_eq_false_iff_ne.2 (by rw [hlen]; omega)
          obtain ⟨i2, hi2, hs2⟩ : ∃ i, Try.prog.info? 2 = some i ∧ i.size = 1 := ⟨_, rfl, by kernel_rfl⟩
          have hcut := cut_from (P := Try.prog) 24 2 .i64 Try.underlying24 hi2 1 hs2 (some ad2) (y :: r).length ca 1 (by omega) (by rw [hlen]; omega)
          have hdrop := Kd.C_drop (m := 1) (c := ca) HA.out.1 (by rw [hlen]; omega) HA.out.2.1
          simp only [Nat.mul_one, show (Kd.int .i64).sz = 1 from rfl, show (1 : Int).toNat = 1 from rfl, List.drop_succ_cons, List.drop_zero, hlen, Nat.add_sub_cancel] at hcut hdrop
          generalize (if ca = 1 then some ad2 else (some ad2).map fun x => x.add 1) = Ad at hcut hdrop
          have HA2 : Aside0 ((Kd.int .i64).C w Ad r.length r ∧ r.length ≤ ca - 1 ∧ ∀ x ∈ r, wf64 x) := ⟨hdrop, by have := HA.out.2.1; rw [hlen] at this; omega, fun x hx_ => HA.out.2.2 x (List.mem_cons_of_mem _ hx_)⟩
          have HY : Aside0 (wf64 y) := ⟨HA.out.2.2 y (List.mem_cons_self ..)⟩
          simp only [hlen] at q2 c8 ⊢
          clear hdrop hlen
          go_wp2
          have KXx := Aside0.mk (blk_new wo (.cells #[.int .i64 11, .int .i64 d, .int .i64 a, .int .i64 b, .int .i64 loc, .int .i64 len, .int .i64 k_, .int .i64 tt] 40))
          generalize wo.alloc (.cells #[.int .i64 11, .int .i64 d, .int .i64 a, .int .i64 b, .int .i64 loc, .int .i64 len, .int .i64 k_, .int .i64 tt] 40) = wx at KXx MJ1 HB1 hx0 ⊢
          go_quiet (fail)
          have KXd : Aside0 ((wx.drewN nq).heap[wo.heap.size]? = some (.cells #[.int .i64 11, .int .i64 d, .int .i64 a, .int .i64 b, .int .i64 loc, .int .i64 len, .int .i64 k_, .int .i64 tt] 40 (0, 0))) := ⟨KXx.out⟩
          have MJd : Aside0 (MapJ (wx.drewN nq) w.heap.size kk m) := ⟨MJ1.out.drewN _⟩
          have HBd : Aside0 (Below w.heap.size w (wx.drewN nq)) := ⟨pw_below_drewN HB1.out _⟩
          generalize wx.drewN nq = wd at KXd MJd HBd ⊢
          clear hx0 hcut KXx MJ1 HB1
          have y0 := blk_cell KXd.out 0
          have y1 := blk_cell KXd.out 1
          have y2 := blk_cell KXd.out 2
          have y3 := blk_cell KXd.out 3
          have y4 := blk_cell KXd.out 4
          have y5 := blk_cell KXd.out 5
          have y6 := blk_cell KXd.out 6
          have y7 := blk_cell KXd.out 7
          obtain ⟨w4, hput, hm, hg⟩ := (MJd.out).put_own d (y) HW.out.1 (HY.out) (by have := HN.out; omega)
          have MJ4 := Aside0.mk hm
          have HB4 : Aside0 (Below w.heap.size w w4) := ⟨(HBd.out).grown hg (HBd.out).size (fun j_ hj_ => by cases hj_; exact Nat.le_refl _)⟩
          clear hm hg
          go_wp2
          have hst : R = folF code f ((i : Int) + 1) (T.set d.toNat (y)) (r) := by have h9 := HST.out; simp [stp, stAsk] at h9 ⊢; exact h9
          have HST2 := Aside0.mk hst
          clear hst
          skip
          refine ⟨⟨i + 1, kk + 1, f, T.set d.toNat (y), r, _, Ad, (ca - 1), by rw [e1, ← HJ.out]; rfl, rfl, HD.out.2.2.2.2.2.1 (by decide), HB4, MJ4, ⟨HTJ.out.set HD.out.1 (y)⟩, HA2, ⟨by have h1 := HN.out; have h2 := HI.out; omega⟩, ⟨by have h9 := HST2.out; first | exact h9 | (rw [show ((i + 1 : Nat) : Int) = (i : Int) + 1 from rfl]; exact h9)⟩⟩, by have := HI.out; have := HJ.out; simp [intOf]; omega⟩
    · as_aux_lemma =>
        cases ans with
        | nil =>
          go_wp2
          have MJ9 := MJ1
          have HB9 := HB1
          have hst : R = ((i : Int), T, true) := by have h9 := HST.out; simp [stp, stCas] at h9 ⊢; exact h9
          go_ret3
          rw [hst]
          exact ⟨_, kk, m, by rw [HJ.out]; rfl, MJ9.out, HTJ.out, HB9.out⟩
        | cons y r =>
          by_cases hz : y = va
          · have c9 : (y != va) = false := by simp [hz]
            have HZ := Aside0.mk hz
            clear hz
            obtain ⟨ad2, ea, hx⟩ := Kd.at_int (Kd.C_below HA.out.1 HB1.out) 0 (by omega) (by simp)
            cases ea
            have hx0 : (wo.alloc (.cells #[.int .i64 12, .int .i64 d, .int .i64 a, .int .i64 b, .int .i64 loc, .int .i64 len, .int .i64 k_, .int .i64 tt] 40)).cell? ad2 = some (.int .i64 y) := by simpa [Addr.add, rd] using hx
            clear hx
            have hlen : (y :: r).length = r.length + 1 := rfl
            have q2 : ((0 : Int) < ((y :: r).length : Int)) = True := eq_true (by rw [hlen]; omega)
            have c8 : (((y :: r).length : Int) == 0) = false := beq_eq_false_iff_ne.2 (by rw [hlen]; omega)
            obtain ⟨i2, hi2, hs2⟩ : ∃ i, Try.prog.info? 2 = some i ∧ i.size = 1 := ⟨_, rfl, by kernel_rfl⟩
            have hcut := cut_from (P := Try.prog) 24 2 .i64 Try.underlying24 hi2 1 hs2 (some ad2) (y :: r).length ca 1 (by omega) (by rw [hlen]; omega)
            have hdrop := Kd.C_drop (m := 1) (c := ca) HA.out.1 (by rw [hlen]; omega) HA.out.2.1
            simp only [Nat.mul_one, show (Kd.int .i64).sz = 1 from rfl, show (1 : Int).toNat = 1 from rfl, List.drop_succ_cons, List.drop_zero, hlen, Nat.add_sub_cancel] at hcut hdrop
            generalize (if ca = 1 then some ad2 else (some ad2).map fun x => x.add 1) = Ad at hcut hdrop
            have HA2 : Aside0 ((Kd.int .i64).C w Ad r.length r ∧ r.length ≤ ca - 1 ∧ ∀ x ∈ r, wf64 x) := ⟨hdrop, by have := HA.out.2.1; rw [hlen] at this; omega, fun x hx_ => HA.out.2.2 x (List.mem_cons_of_mem _ hx_)⟩
            have HY : Aside0 (wf64 y) := ⟨HA.out.2.2 y (List.mem_cons_self ..)⟩
            simp only [hlen] at q2 c8 ⊢
            clear hdrop hlen
            go_wp2
            have KXx := Aside0.mk (blk_new wo (.cells #[.int .i64 12, .int .i64 d, .int .i64 a, .int .i64 b, .int .i64 loc, .int .i64 len, .int .i64 k_, .int .i64 tt] 40))
            generalize wo.alloc (.cells #[.int .i64 12, .int .i64 d, .int .i64 a, .int .i64 b, .int .i64 loc, .int .i64 len, .int .i64 k_, .int .i64 tt] 40) = wx at KXx MJ1 HB1 hx0 ⊢
            go_quiet (fail)
            have KXd : Aside0 ((wx.drewN nq).heap[wo.heap.size]? = some (.cells #[.int .i64 12, .int .i64 d, .int .i64 a, .int .i64 b, .int .i64 loc, .int .i64 len, .int .i64 k_, .int .i64 tt] 40 (0, 0))) := ⟨KXx.out⟩
            have MJd : Aside0 (MapJ (wx.drewN nq) w.heap.size kk m) := ⟨MJ1.out.drewN _⟩
            have HBd : Aside0 (Below w.heap.size w (wx.drewN nq)) := ⟨pw_below_drewN HB1.out _⟩
            generalize wx.drewN nq = wd at KXd MJd HBd ⊢
            clear hx0 hcut KXx MJ1 HB1
            have y0 := blk_cell KXd.out 0
            have y1 := blk_cell KXd.out 1
            have y2 := blk_cell KXd.out 2
            have y3 := blk_cell KXd.out 3
            have y4 := blk_cell KXd.out 4
            have y5 := blk_cell KXd.out 5
            have y6 := blk_cell KXd.out 6
            have y7 := blk_cell KXd.out 7
            have rad : (Instr.lookup 87 (.map (some w.heap.size)) (.int .i64 a) false).run Try.prog wd = .ok (.int .i64 va) wd := by have h_ := MJd.out.run1 a HW.out.2.1; rw [HV.out.1] at h_; exact h_
            go_wp2
            have hst : R = folF code f ((i : Int) + 1) (T) (r) := by have h9 := HST.out; simp [stp, stCas, HVA.out, HZ.out] at h9 ⊢; exact h9
            have HST2 := Aside0.mk hst
            clear hst
            skip
            refine ⟨⟨i + 1, kk, f, T, r, _, Ad, (ca - 1), by rw [e1, ← HJ.out]; rfl, rfl, HD.out.2.2.2.2.2.1 (by decide), HBd, MJd, ⟨HTJ.out⟩, HA2, ⟨by have h1 := HN.out; have h2 := HI.out; omega⟩, ⟨by have h9 := HST2.out; first | exact h9 | (rw [show ((i + 1 : Nat) : Int) = (i : Int) + 1 from rfl]; exact h9)⟩⟩, by have := HI.out; have := HJ.out; simp [intOf]; omega⟩
          · have c9 : (y != va) = true := by simpa using hz
            have HZ := Aside0.mk hz
            clear hz
            have hto_ := HD.out.2.2.2.2.1 (by decide)
            have e5 : wrap64 (tt - 1) = tt - 1 := wrap_of (by have := HI.out; omega) (by have := HI.out; omega)
            have e6 : wrap64 (tt - 1 + 1) = tt := by rw [wrap_of (by have := HI.out; omega) (by have := HI.out; omega)]; omega
            have e7 : wrap64 tt = tt := wrap_of (by have := HI.out; omega) (by have := HI.out; omega)
            have HQ : Aside0 (i + 1 < tt.toNat ∧ tt.toNat < code.length) := ⟨by have := HJ.out; omega⟩
            have HQE : Aside0 (((tt.toNat : Nat) : Int) = tt) := ⟨by have := HI.out; omega⟩
            clear hto_
            obtain ⟨ad2, ea, hx⟩ := Kd.at_int (Kd.C_below HA.out.1 HB1.out) 0 (by omega) (by simp)
            cases ea
            have hx0 : (wo.alloc (.cells #[.int .i64 12, .int .i64 d, .int .i64 a, .int .i64 b, .int .i64 loc, .int .i64 len, .int .i64 k_, .int .i64 tt] 40)).cell? ad2 = some (.int .i64 y) := by simpa [Addr.add, rd] using hx
            clear hx
            have hlen : (y :: r).length = r.length + 1 := rfl
            have q2 : ((0 : Int) < ((y :: r).length : Int)) = True := eq_true (by rw [hlen]; omega)
            have c8 : (((y :: r).length : Int) == 0) = false := beq_eq_false_iff_ne.2 (by rw [hlen]; omega)
            obtain ⟨i2, hi2, hs2⟩ : ∃ i, Try.prog.info? 2 = some i ∧ i.size = 1 := ⟨_, rfl, by kernel_rfl⟩
            have hcut := cut_from (P := Try.prog) 24 2 .i64 Try.underlying24 hi2 1 hs2 (some ad2) (y :: r).length ca 1 (by omega) (by rw [hlen]; omega)
            have hdrop := Kd.C_drop (m := 1) (c := ca) HA.out.1 (by rw [hlen]; omega) HA.out.2.1
            simp only [Nat.mul_one, show (Kd.int .i64).sz = 1 from rfl, show (1 : Int).toNat = 1 from rfl, List.drop_succ_cons, List.drop_zero, hlen, Nat.add_sub_cancel] at hcut hdrop
            generalize (if ca = 1 then some ad2 else (some ad2).map fun x => x.add 1) = Ad at hcut hdrop
            have HA2 : Aside0 ((Kd.int .i64).C w Ad r.length r ∧ r.length ≤ ca - 1 ∧ ∀ x ∈ r, wf64 x) := ⟨hdrop, by have := HA.out.2.1; rw [hlen] at this; omega, fun x hx_ => HA.out.2.2 x (List.mem_cons_of_mem _ hx_)⟩
            have HY : Aside0 (wf64 y) := ⟨HA.out.2.2 y (List.mem_cons_self ..)⟩
            simp only [hlen] at q2 c8 ⊢
            clear hdrop hlen
            go_wp2
            have KXx := Aside0.mk (blk_new wo (.cells #[.int .i64 12, .int .i64 d, .int .i64 a, .int .i64 b, .int .i64 loc, .int .i64 len, .int .i64 k_, .int .i64 tt] 40))
            generalize wo.alloc (.cells #[.int .i64 12, .int .i64 d, .int .i64 a, .int .i64 b, .int .i64 loc, .int .i64 len, .int .i64 k_, .int .i64 tt] 40) = wx at KXx MJ1 HB1 hx0 ⊢
            go_quiet (fail)
            have KXd : Aside0 ((wx.drewN nq).heap[wo.heap.size]? = some (.cells #[.int .i64 12, .int .i64 d, .int .i64 a, .int .i64 b, .int .i64 loc, .int .i64 len, .int .i64 k_, .int .i64 tt] 40 (0, 0))) := ⟨KXx.out⟩
            have MJd : Aside0 (MapJ (wx.drewN nq) w.heap.size kk m) := ⟨MJ1.out.drewN _⟩
            have HBd : Aside0 (Below w.heap.size w (wx.drewN nq)) := ⟨pw_below_drewN HB1.out _⟩
            generalize wx.drewN nq = wd at KXd MJd HBd ⊢
            clear hx0 hcut KXx MJ1 HB1
            have y0 := blk_cell KXd.out 0
            have y1 := blk_cell KXd.out 1
            have y2 := blk_cell KXd.out 2
            have y3 := blk_cell KXd.out 3
            have y4 := blk_cell KXd.out 4
            have y5 := blk_cell KXd.out 5
            have y6 := blk_cell KXd.out 6
            have y7 := blk_cell KXd.out 7
            have rad : (Instr.lookup 87 (.map (some w.heap.size)) (.int .i64 a) false).run Try.prog wd = .ok (.int .i64 va) wd := by have h_ := MJd.out.run1 a HW.out.2.1; rw [HV.out.1] at h_; exact h_
            go_wp2
            have hst : R = folF code f (tt) (T) (r) := by have h9 := HST.out; simp [stp, stCas, HVA.out, HZ.out] at h9 ⊢; exact h9
            have HST2 := Aside0.mk hst
            clear hst
            skip
            refine ⟨⟨tt.toNat, kk, f, T, r, _, Ad, (ca - 1), by simp only [e5, e6, e7, HQE.out], rfl, HQ.out.2, HBd, MJd, ⟨HTJ.out⟩, HA2, ⟨by have h1 := HN.out; have h2 := HI.out; have h3 := HQ.out; omega⟩, ⟨by have h9 := HST2.out; first | exact h9 | (rw [HQE.out]; exact h9)⟩⟩, by have := HI.out; have := HJ.out; have h3 := HQ.out; simp [intOf]; omega⟩
    · as_aux_lemma =>
        by_cases hz : va < 0
        · have c9 : decide (va < 0) = true := decide_eq_true hz
          clear hz
          have hob : outb (⟨13, d, a, b, loc, len, k_, tt⟩ : S40) T = true := by unfold outb; dsimp only; rw [HVA.out, c9]; rfl
          have ra : (Instr.lookup 87 (.map (some w.heap.size)) (.int .i64 a) false).run Try.prog (wo.alloc (.cells #[.int .i64 13, .int .i64 d, .int .i64 a, .int .i64 b, .int .i64 loc, .int .i64 len, .int .i64 k_, .int .i64 tt] 40)) = .ok (.int .i64 va) (wo.alloc (.cells #[.int .i64 13, .int .i64 d, .int .i64 a, .int .i64 b, .int .i64 loc, .int .i64 len, .int .i64 k_, .int .i64 tt] 40)) := by have h_ := MJ1.out.run1 a HW.out.2.1; rw [HV.out.1] at h_; exact h_
          have rb : (Instr.lookup 87 (.map (some w.heap.size)) (.int .i64 b) false).run Try.prog (wo.alloc (.cells #[.int .i64 13, .int .i64 d, .int .i64 a, .int .i64 b, .int .i64 loc, .int .i64 len, .int .i64 k_, .int .i64 tt] 40)) = .ok (.int .i64 vb) (wo.alloc (.cells #[.int .i64 13, .int .i64 d, .int .i64 a, .int .i64 b, .int .i64 loc, .int .i64 len, .int .i64 k_, .int .i64 tt] 40)) := by have h_ := MJ1.out.run1 b HW.out.2.2; rw [HV.out.2] at h_; exact h_
          go_wp2
          have MJ9 := MJ1
          have HB9 := HB1
          have hst : R = ((i : Int), T, false) := by have h9 := HST.out; simp [stp, stGo, hob] at h9 ⊢; exact h9
          go_ret3
          rw [hst]
          exact ⟨_, kk, m, by rw [HJ.out]; rfl, MJ9.out, HTJ.out, HB9.out⟩
        · by_cases hz2 : len ≤ va
          · have c9 : decide (va < 0) = false := decide_eq_false hz
            have c10 : decide (len ≤ va) = true := decide_eq_true hz2
            clear hz hz2
            have hob : outb (⟨13, d, a, b, loc, len, k_, tt⟩ : S40) T = true := by unfold outb; dsimp only; rw [HVA.out, c9, c10]; rfl
            have ra : (Instr.lookup 87 (.map (some w.heap.size)) (.int .i64 a) false).run Try.prog (wo.alloc (.cells #[.int .i64 13, .int .i64 d, .int .i64 a, .int .i64 b, .int .i64 loc, .int .i64 len, .int .i64 k_, .int .i64 tt] 40)) = .ok (.int .i64 va) (wo.alloc (.cells #[.int .i64 13, .int .i64 d, .int .i64 a, .int .i64 b, .int .i64 loc, .int .i64 len, .int .i64 k_, .int .i64 tt] 40)) := by have h_ := MJ1.out.run1 a HW.out.2.1; rw [HV.out.1] at h_; exact h_
            have rb : (Instr.lookup 87 (.map (some w.heap.size)) (.int .i64 b) false).run Try.prog (wo.alloc (.cells #[.int .i64 13, .int .i64 d, .int .i64 a, .int .i64 b, .int .i64 loc, .int .i64 len, .int .i64 k_, .int .i64 tt] 40)) = .ok (.int .i64 vb) (wo.alloc (.cells #[.int .i64 13, .int .i64 d, .int .i64 a, .int .i64 b, .int .i64 loc, .int .i64 len, .int .i64 k_, .int .i64 tt] 40)) := by have h_ := MJ1.out.run1 b HW.out.2.2; rw [HV.out.2] at h_; exact h_
            go_wp2
            have MJ9 := MJ1
            have HB9 := HB1
            have hst : R = ((i : Int), T, false) := by have h9 := HST.out; simp [stp, stGo, hob] at h9 ⊢; exact h9
            go_ret3
            rw [hst]
            exact ⟨_, kk, m, by rw [HJ.out]; rfl, MJ9.out, HTJ.out, HB9.out⟩
          · have c9 : decide (va < 0) = false := decide_eq_false hz
            have c10 : decide (len ≤ va) = false := decide_eq_false hz2
            clear hz hz2
            have hob : outb (⟨13, d, a, b, loc, len, k_, tt⟩ : S40) T = false := by unfold outb; dsimp only; rw [HVA.out, c9, c10]; rfl
            cases ans with
            | nil =>
              have ra : (Instr.lookup 87 (.map (some w.heap.size)) (.int .i64 a) false).run Try.prog (wo.alloc (.cells #[.int .i64 13, .int .i64 d, .int .i64 a, .int .i64 b, .int .i64 loc, .int .i64 len, .int .i64 k_, .int .i64 tt] 40)) = .ok (.int .i64 va) (wo.alloc (.cells #[.int .i64 13, .int .i64 d, .int .i64 a, .int .i64 b, .int .i64 loc, .int .i64 len, .int .i64 k_, .int .i64 tt] 40)) := by have h_ := MJ1.out.run1 a HW.out.2.1; rw [HV.out.1] at h_; exact h_
              have rb : (Instr.lookup 87 (.map (some w.heap.size)) (.int .i64 b) false).run Try.prog (wo.alloc (.cells #[.int .i64 13, .int .i64 d, .int .i64 a, .int .i64 b, .int .i64 loc, .int .i64 len, .int .i64 k_, .int .i64 tt] 40)) = .ok (.int .i64 vb) (wo.alloc (.cells #[.int .i64 13, .int .i64 d, .int .i64 a, .int .i64 b, .int .i64 loc, .int .i64 len, .int .i64 k_, .int .i64 tt] 40)) := by have h_ := MJ1.out.run1 b HW.out.2.2; rw [HV.out.2] at h_; exact h_
              go_wp2
              have MJ9 := MJ1
              have HB9 := HB1
              have hst : R = ((i : Int), T, true) := by have h9 := HST.out; simp [stp, stAsk, hob] at h9 ⊢; exact h9
              go_ret3
              rw [hst]
              exact ⟨_, kk, m, by rw [HJ.out]; rfl, MJ9.out, HTJ.out, HB9.out⟩
            | cons y r =>
              obtain ⟨ad2, ea, hx⟩ := Kd.at_int (Kd.C_below HA.out.1 HB1.out) 0 (by omega) (by simp)
              cases ea
              have hx0 : (wo.alloc (.cells #[.int .i64 13, .int .i64 d, .int .i64 a, .int .i64 b, .int .i64 loc, .int .i64 len, .int .i64 k_, .int .i64 tt] 40)).cell? ad2 = some (.int .i64 y) := by simpa [Addr.add, rd] using hx
              clear hx
              have hlen : (y :: r).length = r.length + 1 := rfl
              have q2 : ((0 : Int) < ((y :: r).length : Int)) = True := eq_true (by rw [hlen]; omega)
              have c8 : (((y :: r).length : Int) == 0) = false := beq_eq_false_iff_ne.2 (by rw [hlen]; omega)
              obtain ⟨i2, hi2, hs2⟩ : ∃ i, Try.prog.info? 2 = some i ∧ i.size = 1 := ⟨_, rfl, by kernel_rfl⟩
              have hcut := cut_from (P := Try.prog) 24 2 .i64 Try.underlying24 hi2 1 hs2 (some ad2) (y :: r).length ca 1 (by omega) (by rw [hlen]; omega)
              have hdrop := Kd.C_drop (m := 1) (c := ca) HA.out.1 (by rw [hlen]; omega) HA.out.2.1
              simp only [Nat.mul_one, show (Kd.int .i64).sz = 1 from rfl, show (1 : Int).toNat = 1 from rfl, List.drop_succ_cons, List.drop_zero, hlen, Nat.add_sub_cancel] at hcut hdrop
              generalize (if ca = 1 then some ad2 else (some ad2).map fun x => x.add 1) = Ad at hcut hdrop
              have HA2 : Aside0 ((Kd.int .i64).C w Ad r.length r ∧ r.length ≤ ca - 1 ∧ ∀ x ∈ r, wf64 x) := ⟨hdrop, by have := HA.out.2.1; rw [hlen] at this; omega, fun x hx_ => HA.out.2.2 x (List.mem_cons_of_mem _ hx_)⟩
              have HY : Aside0 (wf64 y) := ⟨HA.out.2.2 y (List.mem_cons_self ..)⟩
              simp only [hlen] at q2 c8 ⊢
              clear hdrop hlen
              have ra : (Instr.lookup 87 (.map (some w.heap.size)) (.int .i64 a) false).run Try.prog (wo.alloc (.cells #[.int .i64 13, .int .i64 d, .int .i64 a, .int .i64 b, .int .i64 loc, .int .i64 len, .int .i64 k_, .int .i64 tt] 40)) = .ok (.int .i64 va) (wo.alloc (.cells #[.int .i64 13, .int .i64 d, .int .i64 a, .int .i64 b, .int .i64 loc, .int .i64 len, .int .i64 k_, .int .i64 tt] 40)) := by have h_ := MJ1.out.run1 a HW.out.2.1; rw [HV.out.1] at h_; exact h_
              have rb : (Instr.lookup 87 (.map (some w.heap.size)) (.int .i64 b) false).run Try.prog (wo.alloc (.cells #[.int .i64 13, .int .i64 d, .int .i64 a, .int .i64 b, .int .i64 loc, .int .i64 len, .int .i64 k_, .int .i64 tt] 40)) = .ok (.int .i64 vb) (wo.alloc (.cells #[.int .i64 13, .int .i64 d, .int .i64 a, .int .i64 b, .int .i64 loc, .int .i64 len, .int .i64 k_, .int .i64 tt] 40)) := by have h_ := MJ1.out.run1 b HW.out.2.2; rw [HV.out.2] at h_; exact h_
              go_wp2
              have KXx := Aside0.mk (blk_new wo (.cells #[.int .i64 13, .int .i64 d, .int .i64 a, .int .i64 b, .int .i64 loc, .int .i64 len, .int .i64 k_, .int .i64 tt] 40))
              generalize wo.alloc (.cells #[.int .i64 13, .int .i64 d, .int .i64 a, .int .i64 b, .int .i64 loc, .int .i64 len, .int .i64 k_, .int .i64 tt] 40) = wx at KXx MJ1 HB1 hx0 ⊢
              go_quiet (fail)
              have KXd : Aside0 ((wx.drewN nq).heap[wo.heap.size]? = some (.cells #[.int .i64 13, .int .i64 d, .int .i64 a, .int .i64 b, .int .i64 loc, .int .i64 len, .int .i64 k_, .int .i64 tt] 40 (0, 0))) := ⟨KXx.out⟩
              have MJd : Aside0 (MapJ (wx.drewN nq) w.heap.size kk m) := ⟨MJ1.out.drewN _⟩
              have HBd : Aside0 (Below w.heap.size w (wx.drewN nq)) := ⟨pw_below_drewN HB1.out _⟩
              generalize wx.drewN nq = wd at KXd MJd HBd ⊢
              clear hx0 hcut KXx MJ1 HB1
              have y0 := blk_cell KXd.out 0
              have y1 := blk_cell KXd.out 1
              have y2 := blk_cell KXd.out 2
              have y3 := blk_cell KXd.out 3
              have y4 := blk_cell KXd.out 4
              have y5 := blk_cell KXd.out 5
              have y6 := blk_cell KXd.out 6
              have y7 := blk_cell KXd.out 7
              obtain ⟨w4, hput, hm, hg⟩ := (MJd.out).put_own d (y) HW.out.1 (HY.out) (by have := HN.out; omega)
              have MJ4 := Aside0.mk hm
              have HB4 : Aside0 (Below w.heap.size w w4) := ⟨(HBd.out).grown hg (HBd.out).size (fun j_ hj_ => by cases hj_; exact Nat.le_refl _)⟩
              clear hm hg
              go_wp2
              have hst : R = folF code f ((i : Int) + 1) (T.set d.toNat (y)) (r) := by have h9 := HST.out; simp [stp, stAsk, hob] at h9 ⊢; exact h9
              have HST2 := Aside0.mk hst
              clear hst
              skip
              refine ⟨⟨i + 1, kk + 1, f, T.set d.toNat (y), r, _, Ad, (ca - 1), by rw [e1, ← HJ.out]; rfl, rfl, HD.out.2.2.2.2.2.1 (by decide), HB4, MJ4, ⟨HTJ.out.set HD.out.1 (y)⟩, HA2, ⟨by have h1 := HN.out; have h2 := HI.out; omega⟩, ⟨by have h9 := HST2.out; first | exact h9 | (rw [show ((i + 1 : Nat) : Int) = (i : Int) + 1 from rfl]; exact h9)⟩⟩, by have := HI.out; have := HJ.out; simp [intOf]; omega⟩
    · as_aux_lemma =>
        by_cases hz : va < 0
        · have c9 : decide (va < 0) = true := decide_eq_true hz
          clear hz
          have hob : outb (⟨14, d, a, b, loc, len, k_, tt⟩ : S40) T = true := by unfold outb; dsimp only; rw [HVA.out, c9]; rfl
          have ra : (Instr.lookup 87 (.map (some w.heap.size)) (.int .i64 a) false).run Try.prog (wo.alloc (.cells #[.int .i64 14, .int .i64 d, .int .i64 a, .int .i64 b, .int .i64 loc, .int .i64 len, .int .i64 k_, .int .i64 tt] 40)) = .ok (.int .i64 va) (wo.alloc (.cells #[.int .i64 14, .int .i64 d, .int .i64 a, .int .i64 b, .int .i64 loc, .int .i64 len, .int .i64 k_, .int .i64 tt] 40)) := by have h_ := MJ1.out.run1 a HW.out.2.1; rw [HV.out.1] at h_; exact h_
          have rb : (Instr.lookup 87 (.map (some w.heap.size)) (.int .i64 b) false).run Try.prog (wo.alloc (.cells #[.int .i64 14, .int .i64 d, .int .i64 a, .int .i64 b, .int .i64 loc, .int .i64 len, .int .i64 k_, .int .i64 tt] 40)) = .ok (.int .i64 vb) (wo.alloc (.cells #[.int .i64 14, .int .i64 d, .int .i64 a, .int .i64 b, .int .i64 loc, .int .i64 len, .int .i64 k_, .int .i64 tt] 40)) := by have h_ := MJ1.out.run1 b HW.out.2.2; rw [HV.out.2] at h_; exact h_
          go_wp2
          have MJ9 := MJ1
          have HB9 := HB1
          have hst : R = ((i : Int), T, false) := by have h9 := HST.out; simp [stp, stGo, hob] at h9 ⊢; exact h9
          go_ret3
          rw [hst]
          exact ⟨_, kk, m, by rw [HJ.out]; rfl, MJ9.out, HTJ.out, HB9.out⟩
        · by_cases hz2 : len ≤ va
          · have c9 : decide (va < 0) = false := decide_eq_false hz
            have c10 : decide (len ≤ va) = true := decide_eq_true hz2
            clear hz hz2
            have hob : outb (⟨14, d, a, b, loc, len, k_, tt⟩ : S40) T = true := by unfold outb; dsimp only; rw [HVA.out, c9, c10]; rfl
            have ra : (Instr.lookup 87 (.map (some w.heap.size)) (.int .i64 a) false).run Try.prog (wo.alloc (.cells #[.int .i64 14, .int .i64 d, .int .i64 a, .int .i64 b, .int .i64 loc, .int .i64 len, .int .i64 k_, .int .i64 tt] 40)) = .ok (.int .i64 va) (wo.alloc (.cells #[.int .i64 14, .int .i64 d, .int .i64 a, .int .i64 b, .int .i64 loc, .int .i64 len, .int .i64 k_, .int .i64 tt] 40)) := by have h_ := MJ1.out.run1 a HW.out.2.1; rw [HV.out.1] at h_; exact h_
            have rb : (Instr.lookup 87 (.map (some w.heap.size)) (.int .i64 b) false).run Try.prog (wo.alloc (.cells #[.int .i64 14, .int .i64 d, .int .i64 a, .int .i64 b, .int .i64 loc, .int .i64 len, .int .i64 k_, .int .i64 tt] 40)) = .ok (.int .i64 vb) (wo.alloc (.cells #[.int .i64 14, .int .i64 d, .int .i64 a, .int .i64 b, .int .i64 loc, .int .i64 len, .int .i64 k_, .int .i64 tt] 40)) := by have h_ := MJ1.out.run1 b HW.out.2.2; rw [HV.out.2] at h_; exact h_
            go_wp2
            have MJ9 := MJ1
            have HB9 := HB1
            have hst : R = ((i : Int), T, false) := by have h9 := HST.out; simp [stp, stGo, hob] at h9 ⊢; exact h9
            go_ret3
            rw [hst]
            exact ⟨_, kk, m, by rw [HJ.out]; rfl, MJ9.out, HTJ.out, HB9.out⟩
          · have c9 : decide (va < 0) = false := decide_eq_false hz
            have c10 : decide (len ≤ va) = false := decide_eq_false hz2
            clear hz hz2
            have hob : outb (⟨14, d, a, b, loc, len, k_, tt⟩ : S40) T = false := by unfold outb; dsimp only; rw [HVA.out, c9, c10]; rfl
            have ra : (Instr.lookup 87 (.map (some w.heap.size)) (.int .i64 a) false).run Try.prog (wo.alloc (.cells #[.int .i64 14, .int .i64 d, .int .i64 a, .int .i64 b, .int .i64 loc, .int .i64 len, .int .i64 k_, .int .i64 tt] 40)) = .ok (.int .i64 va) (wo.alloc (.cells #[.int .i64 14, .int .i64 d, .int .i64 a, .int .i64 b, .int .i64 loc, .int .i64 len, .int .i64 k_, .int .i64 tt] 40)) := by have h_ := MJ1.out.run1 a HW.out.2.1; rw [HV.out.1] at h_; exact h_
            have rb : (Instr.lookup 87 (.map (some w.heap.size)) (.int .i64 b) false).run Try.prog (wo.alloc (.cells #[.int .i64 14, .int .i64 d, .int .i64 a, .int .i64 b, .int .i64 loc, .int .i64 len, .int .i64 k_, .int .i64 tt] 40)) = .ok (.int .i64 vb) (wo.alloc (.cells #[.int .i64 14, .int .i64 d, .int .i64 a, .int .i64 b, .int .i64 loc, .int .i64 len, .int .i64 k_, .int .i64 tt] 40)) := by have h_ := MJ1.out.run1 b HW.out.2.2; rw [HV.out.2] at h_; exact h_
            go_wp2
            have hst : R = folF code f ((i : Int) + 1) (T) (ans) := by have h9 := HST.out; simp [stp, stTell, hob] at h9 ⊢; exact h9
            have HST2 := Aside0.mk hst
            clear hst
            skip
            refine ⟨⟨i + 1, kk, f, T, ans, _, Ab, ca, by rw [e1, ← HJ.out]; rfl, rfl, HD.out.2.2.2.2.2.1 (by decide), HB1, MJ1, ⟨HTJ.out⟩, HA, ⟨by have h1 := HN.out; have h2 := HI.out; omega⟩, ⟨by have h9 := HST2.out; first | exact h9 | (rw [show ((i + 1 : Nat) : Int) = (i : Int) + 1 from rfl]; exact h9)⟩⟩, by have := HI.out; have := HJ.out; simp [intOf]; omega⟩
    · as_aux_lemma =>
        go_wp2
        have hst : R = folF code f ((i : Int) + 1) (T) (ans) := by have h9 := HST.out; simp [stp, stTell] at h9 ⊢; exact h9
        have HST2 := Aside0.mk hst
        clear hst
        skip
        refine ⟨⟨i + 1, kk, f, T, ans, _, Ab, ca, by rw [e1, ← HJ.out]; rfl, rfl, HD.out.2.2.2.2.2.1 (by decide), HB1, MJ1, ⟨HTJ.out⟩, HA, ⟨by have h1 := HN.out; have h2 := HI.out; omega⟩, ⟨by have h9 := HST2.out; first | exact h9 | (rw [show ((i + 1 : Nat) : Int) = (i : Int) + 1 from rfl]; exact h9)⟩⟩, by have := HI.out; have := HJ.out; simp [intOf]; omega⟩
    · as_aux_lemma =>
        by_cases hz : va < vb
        · have c9 : decide (vb ≤ va) = false := decide_eq_false (by omega)
          have HZ := Aside0.mk hz
          clear hz
          have ra : (Instr.lookup 87 (.map (some w.heap.size)) (.int .i64 a) false).run Try.prog (wo.alloc (.cells #[.int .i64 16, .int .i64 d, .int .i64 a, .int .i64 b, .int .i64 loc, .int .i64 len, .int .i64 k_, .int .i64 tt] 40)) = .ok (.int .i64 va) (wo.alloc (.cells #[.int .i64 16, .int .i64 d, .int .i64 a, .int .i64 b, .int .i64 loc, .int .i64 len, .int .i64 k_, .int .i64 tt] 40)) := by have h_ := MJ1.out.run1 a HW.out.2.1; rw [HV.out.1] at h_; exact h_
          have rb : (Instr.lookup 87 (.map (some w.heap.size)) (.int .i64 b) false).run Try.prog (wo.alloc (.cells #[.int .i64 16, .int .i64 d, .int .i64 a, .int .i64 b, .int .i64 loc, .int .i64 len, .int .i64 k_, .int .i64 tt] 40)) = .ok (.int .i64 vb) (wo.alloc (.cells #[.int .i64 16, .int .i64 d, .int .i64 a, .int .i64 b, .int .i64 loc, .int .i64 len, .int .i64 k_, .int .i64 tt] 40)) := by have h_ := MJ1.out.run1 b HW.out.2.2; rw [HV.out.2] at h_; exact h_
          go_wp2
          have hst : R = folF code f ((i : Int) + 1) (T) (ans) := by have h9 := HST.out; simp [stp, stGo, HVA.out, HVB.out, HZ.out] at h9 ⊢; exact h9
          have HST2 := Aside0.mk hst
          clear hst
          skip
          refine ⟨⟨i + 1, kk, f, T, ans, _, Ab, ca, by rw [e1, ← HJ.out]; rfl, rfl, HD.out.2.2.2.2.2.1 (by decide), HB1, MJ1, ⟨HTJ.out⟩, HA, ⟨by have h1 := HN.out; have h2 := HI.out; omega⟩, ⟨by have h9 := HST2.out; first | exact h9 | (rw [show ((i + 1 : Nat) : Int) = (i : Int) + 1 from rfl]; exact h9)⟩⟩, by have := HI.out; have := HJ.out; simp [intOf]; omega⟩
        · have c9 : decide (vb ≤ va) = true := decide_eq_true (by omega)
          have HZ := Aside0.mk hz
          clear hz
          have hto_ := HD.out.2.2.2.2.1 (by decide)
          have e5 : wrap64 (tt - 1) = tt - 1 := wrap_of (by have := HI.out; omega) (by have := HI.out; omega)
          have e6 : wrap64 (tt - 1 + 1) = tt := by rw [wrap_of (by have := HI.out; omega) (by have := HI.out; omega)]; omega
          have e7 : wrap64 tt = tt := wrap_of (by have := HI.out; omega) (by have := HI.out; omega)
          have HQ : Aside0 (i + 1 < tt.toNat ∧ tt.toNat < code.length) := ⟨by have := HJ.out; omega⟩
          have HQE : Aside0 (((tt.toNat : Nat) : Int) = tt) := ⟨by have := HI.out; omega⟩
          clear hto_
          have ra : (Instr.lookup 87 (.map (some w.heap.size)) (.int .i64 a) false).run Try.prog (wo.alloc (.cells #[.int .i64 16, .int .i64 d, .int .i64 a, .int .i64 b, .int .i64 loc, .int .i64 len, .int .i64 k_, .int .i64 tt] 40)) = .ok (.int .i64 va) (wo.alloc (.cells #[.int .i64 16, .int .i64 d, .int .i64 a, .int .i64 b, .int .i64 loc, .int .i64 len, .int .i64 k_, .int .i64 tt] 40)) := by have h_ := MJ1.out.run1 a HW.out.2.1; rw [HV.out.1] at h_; exact h_
          have rb : (Instr.lookup 87 (.map (some w.heap.size)) (.int .i64 b) false).run Try.prog (wo.alloc (.cells #[.int .i64 16, .int .i64 d, .int .i64 a, .int .i64 b, .int .i64 loc, .int .i64 len, .int .i64 k_, .int .i64 tt] 40)) = .ok (.int .i64 vb) (wo.alloc (.cells #[.int .i64 16, .int .i64 d, .int .i64 a, .int .i64 b, .int .i64 loc, .int .i64 len, .int .i64 k_, .int .i64 tt] 40)) := by have h_ := MJ1.out.run1 b HW.out.2.2; rw [HV.out.2] at h_; exact h_
          go_wp2
          have hst : R = folF code f (tt) (T) (ans) := by have h9 := HST.out; simp [stp, stGo, HVA.out, HVB.out, HZ.out] at h9 ⊢; exact h9
          have HST2 := Aside0.mk hst
          clear hst
          skip
          refine ⟨⟨tt.toNat, kk, f, T, ans, _, Ab, ca, by simp only [e5, e6, e7, HQE.out], rfl, HQ.out.2, HB1, MJ1, ⟨HTJ.out⟩, HA, ⟨by have h1 := HN.out; have h2 := HI.out; have h3 := HQ.out; omega⟩, ⟨by have h9 := HST2.out; first | exact h9 | (rw [HQE.out]; exact h9)⟩⟩, by have := HI.out; have := HJ.out; have h3 := HQ.out; simp [intOf]; omega⟩
    · as_aux_lemma =>
        by_cases hz : va = vb
        · have c9 : (va != vb) = false := by simp [hz]
          have HZ := Aside0.mk hz
          clear hz
          have ra : (Instr.lookup 87 (.map (some w.heap.size)) (.int .i64 a) false).run Try.prog (wo.alloc (.cells #[.int .i64 17, .int .i64 d, .int .i64 a, .int .i64 b, .int .i64 loc, .int .i64 len, .int .i64 k_, .int .i64 tt] 40)) = .ok (.int .i64 va) (wo.alloc (.cells #[.int .i64 17, .int .i64 d, .int .i64 a, .int .i64 b, .int .i64 loc, .int .i64 len, .int .i64 k_, .int .i64 tt] 40)) := by have h_ := MJ1.out.run1 a HW.out.2.1; rw [HV.out.1] at h_; exact h_
          have rb : (Instr.lookup 87 (.map (some w.heap.size)) (.int .i64 b) false).run Try.prog (wo.alloc (.cells #[.int .i64 17, .int .i64 d, .int .i64 a, .int .i64 b, .int .i64 loc, .int .i64 len, .int .i64 k_, .int .i64 tt] 40)) = .ok (.int .i64 vb) (wo.alloc (.cells #[.int .i64 17, .int .i64 d, .int .i64 a, .int .i64 b, .int .i64 loc, .int .i64 len, .int .i64 k_, .int .i64 tt] 40)) := by have h_ := MJ1.out.run1 b HW.out.2.2; rw [HV.out.2] at h_; exact h_
          go_wp2
          have hst : R = folF code f ((i : Int) + 1) (T) (ans) := by have h9 := HST.out; simp [stp, stGo, HVA.out, HVB.out, HZ.out] at h9 ⊢; exact h9
          have HST2 := Aside0.mk hst
          clear hst
          skip
          refine ⟨⟨i + 1, kk, f, T, ans, _, Ab, ca, by rw [e1, ← HJ.out]; rfl, rfl, HD.out.2.2.2.2.2.1 (by decide), HB1, MJ1, ⟨HTJ.out⟩, HA, ⟨by have h1 := HN.out; have h2 := HI.out; omega⟩, ⟨by have h9 := HST2.out; first | exact h9 | (rw [show ((i + 1 : Nat) : Int) = (i : Int) + 1 from rfl]; exact h9)⟩⟩, by have := HI.out; have := HJ.out; simp [intOf]; omega⟩
        · have c9 : (va != vb) = true := by simpa using hz
          have HZ := Aside0.mk hz
          clear hz
          have hto_ := HD.out.2.2.2.2.1 (by decide)
          have e5 : wrap64 (tt - 1) = tt - 1 := wrap_of (by have := HI.out; omega) (by have := HI.out; omega)
          have e6 : wrap64 (tt - 1 + 1) = tt := by rw [wrap_of (by have := HI.out; omega) (by have := HI.out; omega)]; omega
          have e7 : wrap64 tt = tt := wrap_of (by have := HI.out; omega) (by have := HI.out; omega)
          have HQ : Aside0 (i + 1 < tt.toNat ∧ tt.toNat < code.length) := ⟨by have := HJ.out; omega⟩
          have HQE : Aside0 (((tt.toNat : Nat) : Int) = tt) := ⟨by have := HI.out; omega⟩
          clear hto_
          have ra : (Instr.lookup 87 (.map (some w.heap.size)) (.int .i64 a) false).run Try.prog (wo.alloc (.cells #[.int .i64 17, .int .i64 d, .int .i64 a, .int .i64 b, .int .i64 loc, .int .i64 len, .int .i64 k_, .int .i64 tt] 40)) = .ok (.int .i64 va) (wo.alloc (.cells #[.int .i64 17, .int .i64 d, .int .i64 a, .int .i64 b, .int .i64 loc, .int .i64 len, .int .i64 k_, .int .i64 tt] 40)) := by have h_ := MJ1.out.run1 a HW.out.2.1; rw [HV.out.1] at h_; exact h_
          have rb : (Instr.lookup 87 (.map (some w.heap.size)) (.int .i64 b) false).run Try.prog (wo.alloc (.cells #[.int .i64 17, .int .i64 d, .int .i64 a, .int .i64 b, .int .i64 loc, .int .i64 len, .int .i64 k_, .int .i64 tt] 40)) = .ok (.int .i64 vb) (wo.alloc (.cells #[.int .i64 17, .int .i64 d, .int .i64 a, .int .i64 b, .int .i64 loc, .int .i64 len, .int .i64 k_, .int .i64 tt] 40)) := by have h_ := MJ1.out.run1 b HW.out.2.2; rw [HV.out.2] at h_; exact h_
          go_wp2
          have hst : R = folF code f (tt) (T) (ans) := by have h9 := HST.out; simp [stp, stGo, HVA.out, HVB.out, HZ.out] at h9 ⊢; exact h9
          have HST2 := Aside0.mk hst
          clear hst
          skip
          refine ⟨⟨tt.toNat, kk, f, T, ans, _, Ab, ca, by simp only [e5, e6, e7, HQE.out], rfl, HQ.out.2, HB1, MJ1, ⟨HTJ.out⟩, HA, ⟨by have h1 := HN.out; have h2 := HI.out; have h3 := HQ.out; omega⟩, ⟨by have h9 := HST2.out; first | exact h9 | (rw [HQE.out]; exact h9)⟩⟩, by have := HI.out; have := HJ.out; have h3 := HQ.out; simp [intOf]; omega⟩
    · as_aux_lemma =>
        go_wp2
        have MJ9 := MJ1
        have HB9 := HB1
        have hst : R = ((i : Int), T, false) := by have h9 := HST.out; simp [stp, stGo] at h9 ⊢; exact h9
        go_ret3
        rw [hst]
        exact ⟨_, kk, m, by rw [HJ.out]; rfl, MJ9.out, HTJ.out, HB9.out⟩
end Go.Proofs.Ytdmbnlpcfgphpaa.Q
