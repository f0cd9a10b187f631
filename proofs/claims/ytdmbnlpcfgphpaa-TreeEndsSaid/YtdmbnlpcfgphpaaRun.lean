/- The contract of tree.Run. -/
import Derived.Test.YtdmbnlpcfgphpaaStp
import Derived.Test.YtdmbnlpcfgphpaaRight
namespace Go.Proofs.Ytdmbnlpcfgphpaa.Q
open Go.RowKit Go.Proofs.YtdmbnlpcfgphpaaW.PrintWords Go.Proofs.YtdmbnlpcfgphpaaW.PrintLast Go.Proofs.YtdmbnlpcfgphpaaW.PrintMore
set_option linter.unusedVariables false
set_option linter.unusedSimpArgs false
def RunEnd (R : List S47 × Int) (w : World) (e : Ending) (w' : World) : Prop := ∃ v : Value, e = .returned (.agg #[v, .int .i64 R.2]) ∧ Kd.R k47 47 w' w.heap.size (fun _ => True) v R.1 ∧ Below w.heap.size w w'
set_option maxHeartbeats 4000000 in
set_option maxRecDepth 100000 in
theorem run_wrong (A : Option Addr) (c : Nat) (code : List S40) (Al : Option Addr) (cl : Nat) (l : List S80) (An : Option Addr) (cn : Nat) (answers : List Int) (w : World) (hr : Kd.C k40 w A code.length code) (hc : code.length ≤ c) (hrl : Kd.C k80 w Al l.length l) (hcl : l.length ≤ cl) (hl : l.length ≤ 1000) (hR : right code l = false) :
    Calls Try.prog 16 #[.slice A code.length c, .slice Al l.length cl, .slice An answers.length cn] w (RunEnd (runAll code l answers) w) := by
  have e0 : runAll code l answers = ([], 0) := by unfold runAll; rw [hR]; rfl
  rw [e0]
  have HC := Aside0.mk hr
  have HL := Aside0.mk hrl
  have HCc := Aside0.mk hc
  have HCl := Aside0.mk hcl
  have HLl := Aside0.mk hl
  clear hr hrl hc hcl hl e0
  go_enter Try.func16, Try.ntmps16
  go_wp2_with (go_at_call 13; refine (right_any A c code Al cl l _ (Kd.C_alloc HC.out _) HCc.out (Kd.C_alloc HL.out _) HCl.out HLl.out).mono ?_; rintro e w2 ⟨rfl, hb⟩; rw [hR]; have K6 := Aside0.mk (blk_below (blk_new w (.cells #[.slice none 0 0, .int .i64 0] 31)) hb); have HB := Aside0.mk (below_step (below_alloc (Below.refl _ _) _) hb); clear hb; have y0 := blk_cell K6.out 0; have y1 := blk_cell K6.out 1; have f0 := blk_frozen K6.out)
  refine bodyPost_ret (v := .agg #[.slice none 0 0, .int .i64 0]) ?_ rfl ⟨_, rfl, Kd.R_nil _ _ _ _ _, ?_⟩
  · simp [results, Try.results16, go_sem, y0, y1]
  · repeat (first | exact HB.out | (refine below_set ?_ (Nat.le_refl _)))
theorem built75 (A : Option Addr) (n c : Nat) (w : World) : (Instr.build 75 #[(1, .slice A n c)]).run Try.prog w = .ok (.agg (rcells zT (.slice A n c) (.slice none 0 0))) w := by kernel_rfl
theorem size75 : (Try.prog.info? 75).map (·.size) = some 402 := by kernel_rfl
theorem Rn.born {w W w1 : World} {g : Nat} {A : Option Addr} {c : Nat} {ans : List Int} (hB : Below w.heap.size w W) (hr : (Kd.int .i64).C w A ans.length ans) (hc : ans.length ≤ c) (hg : g = W.heap.size)
    (h1 : w1.heap[g]? = some (.cells (rcells zT (.slice A ans.length c) (.slice none 0 0)) 75 (0, 0))) (hb : Below W.heap.size W w1) : Rn w w1 g zT A c ans (.slice none 0 0) [] :=
  ⟨below_step hB hb, h1, zT_len, hr, hc, Kd.R_nil _ _ _ _ _, hg ▸ hB.size⟩
theorem ne47 : ∀ q, q ∈ 47 :: k47.E → q ≠ 31 := by
  intro q hq
  have h : k47.E = [] := rfl
  rw [h] at hq
  simp at hq
  omega
set_option maxHeartbeats 8000000 in
set_option maxRecDepth 100000 in
theorem run_right (A : Option Addr) (c : Nat) (code : List S40) (Al : Option Addr) (cl : Nat) (l : List S80) (An : Option Addr) (cn : Nat) (answers : List Int) (w : World) (hr : Kd.C k40 w A code.length code) (hc : code.length ≤ c) (hrl : Kd.C k80 w Al l.length l) (hcl : l.length ≤ cl) (hl : l.length ≤ 1000) (hra : (Kd.int .i64).C w An answers.length answers) (hca : answers.length ≤ cn) (hR : right code l = true) :
    Calls Try.prog 16 #[.slice A code.length c, .slice Al l.length cl, .slice An answers.length cn] w (RunEnd (runAll code l answers) w) := by
  have e0 : runAll code l answers = runF code code.length 0 zT answers [] := by unfold runAll; rw [hR]; rfl
  rw [e0]
  obtain ⟨hn1, hn2, h18, hchk, -⟩ := right_parts hR
  have HC := Aside0.mk hr
  have HL := Aside0.mk hrl
  have HCc := Aside0.mk hc
  have HCl := Aside0.mk hcl
  have HLl := Aside0.mk hl
  have HA := Aside0.mk hra
  have HCA := Aside0.mk hca
  have H18 := Aside0.mk h18
  have HK := Aside0.mk hchk
  clear hr hrl hc hcl hl e0 hra hca h18 hchk
  go_enter Try.func16, Try.ntmps16
  go_wp2_with (first
    | (go_at_call 13; refine (right_any A c code Al cl l _ (Kd.C_alloc HC.out _) HCc.out (Kd.C_alloc HL.out _) HCl.out HLl.out).mono ?_; rintro e w2 ⟨rfl, hb⟩; rw [hR]; have K6 := Aside0.mk (blk_below (blk_new w (.cells #[.slice none 0 0, .int .i64 0] 31)) hb); have HB := Aside0.mk (below_step (below_alloc (Below.refl _ _) _) hb); clear hb)
    | ((with_reducible refine gate_ (.build 75 #[(1, .tmp 16)]) rfl ?_); go_loud (refine Kd.event_run (w1 := w2) (v := .agg (rcells zT (.slice An answers.length cn) (.slice none 0 0))) rfl ?hb75 ?_; (case hb75 => kernel_rfl)))
    | ((with_reducible refine gate_ (.box 75 (.tmp 17)) rfl ?_); refine box_event (cs := rcells zT (.slice An answers.length cn) (.slice none 0 0)) (t := 75) rfl (N := 18) rfl ?hb76 ?_; (case hb76 => kernel_rfl); intro g hg w3 hb3 hB3; have S0 := Aside0.mk (Rn.born HB.out HA.out HCA.out hg hb3 hB3); have K63 := Aside0.mk (blk_below K6.out hB3); clear hg hb3 hB3))
  obtain ⟨RR, hRR⟩ : ∃ RR, runF code code.length 0 zT answers [] = RR := ⟨_, rfl⟩
  rw [hRR]
  have HI := Aside0.mk hRR
  clear hRR
  go_loopw [8] (fun v wr => ∃ (i f : Nat) (T ans : List Int) (acts : List S47) (Ab : Option Addr) (cb : Nat) (vt : Value), v = .int .i64 (i : Int) ∧ i < code.length ∧ code.length - i ≤ f ∧ Aside0 (acts.length ≤ i) ∧ Aside0 (runF code f i T ans acts = RR) ∧ Aside0 (Rn w wr g T Ab cb ans vt acts) ∧ Aside0 (wr.heap[w.heap.size]? = some (.cells #[.slice none 0 0, .int .i64 0] 31 (0, 0)))) (fun v _ => code.length - (intOf v).toNat)
  case atStart => exact ⟨0, code.length, zT, answers, [], _, _, _, rfl, by omega, by omega, ⟨Nat.le_refl _⟩, ⟨HI.out⟩, S0, K63⟩
  case round =>
    clear S0 K63 HI
    obtain ⟨i, f, T, ans, acts, Ab, cb, vt, rfl, hi, hf, HLn, HI, S0, K6⟩ := hrel
    obtain ⟨f, rfl⟩ : ∃ f', f = f' + 1 := ⟨f - 1, by omega⟩
    obtain ⟨ad1, ea, k0, k1, k2, k3, k4, k5, k6, k7⟩ := at_T40 (Kd.C_below HC.out S0.out.HB) (i : Int) (by omega) (by omega)
    cases ea
    simp only [Int.toNat_natCast] at k0 k1 k2 k3 k4 k5 k6 k7
    rw [ins_at] at k0 k1 k2 k3 k4 k5 k6 k7
    have q1 : ((i : Int) < (code.length : Int)) = True := eq_true (by omega)
    have q0 : (0 ≤ (i : Int)) = True := eq_true (by omega)
    obtain ⟨hok, hd, ha, hb⟩ := chk_bd (HK.out i hi)
    have HD := Aside0.mk (fun (W : World) (S : Rn w W g T Ab cb ans vt acts) => do_any S (i : Int) (ins code i) (by omega) (by omega) (by have := HLn.out; omega) hok hd ha hb)
    clear hok hd ha hb
    have HN := Aside0.mk (next_in hn2 H18.out hi (HK.out i hi) T ans)
    have HW := Aside0.mk (stp_new (ins code i) i T ans)
    have e9 : runF code (f + 1) i T ans acts = if (stp (ins code i) i T ans).fin = 0 then runF code f (stp (ins code i) i T ans).next (stp (ins code i) i T ans).T (stp (ins code i) i T ans).ans (acts ++ (stp (ins code i) i T ans).new) else (acts ++ (stp (ins code i) i T ans).new, (stp (ins code i) i T ans).fin) := rfl
    have HE := Aside0.mk e9
    clear e9
    obtain ⟨X, hX⟩ : ∃ X, X = ins code i := ⟨_, rfl⟩
    rw [← hX] at k0 k1 k2 k3 k4 k5 k6 k7 HD HE HN HW
    clear hX
    obtain ⟨s, hs⟩ : ∃ s, s = stp X i T ans := ⟨_, rfl⟩
    rw [← hs] at HE HD HN HW
    clear hs
    by_cases hfin : s.fin = 0
    · have c1 : (s.fin != 0) = false := by simpa using hfin
      obtain ⟨hn3, hn4⟩ := HN.out hfin
      have HF := Aside0.mk hfin
      clear hfin
      go_wp2_with (go_at_call 39; refine (HD.out _ S0.out).mono ?_; rintro e w4 ⟨rfl, hs, hk⟩; have S4 := Aside0.mk hs; have HK4 := Aside0.mk hk; clear hs hk)
      obtain ⟨j, hj⟩ : ∃ j : Nat, s.next = (j : Int) := ⟨s.next.toNat, by omega⟩
      obtain ⟨Ab', cb', v1, hs'⟩ := S4.out
      refine ⟨⟨j, f, s.T, s.ans, acts ++ s.new, Ab', cb', v1, by rw [hj], by omega, by omega, ⟨by have h1 := HLn.out; have h2 := HW.out; rw [List.length_append]; omega⟩, ⟨by rw [← HI.out, HE.out, if_pos HF.out, hj]⟩, ⟨hs'⟩, ⟨?_⟩⟩, by rw [hj]; simp [intOf]; omega⟩
      exact HK4.out.blk K6.out (blk_ne K6.out S0.out.blk (by decide)) (Kd.R_ne S0.out.RT K6.out (by decide))
    · have c1 : (s.fin != 0) = true := by simpa using hfin
      have HF := Aside0.mk hfin
      clear hfin HN
      go_wp2_with (go_at_call 39; refine (HD.out _ S0.out).mono ?_; rintro e w4 ⟨rfl, ⟨Ab4, cb4, v4, hs4⟩, hk⟩; have HK4 := Aside0.mk hk; have S4 := Aside0.mk hs4; obtain ⟨A4, c4, rfl⟩ := Kd.R_slice hs4.RT; have hca := hs4.cacts; have K64 := Aside0.mk (hk.blk K6.out (blk_ne K6.out S0.out.blk (by decide)) (Kd.R_ne S0.out.RT K6.out (by decide))); clear hs4 hk; have y0 := blk_cell K64.out 0; have y1 := blk_cell K64.out 1; have f0 := blk_frozen K64.out)
      refine bodyPost_ret (v := .agg #[.slice A4 (acts ++ s.new).length c4, .int .i64 s.fin]) ?_ rfl ⟨_, by rw [show RR = (acts ++ s.new, s.fin) by rw [← HI.out, HE.out, if_neg HF.out]], ?_, ?_⟩
      · simp [results, Try.results16, go_sem, y0, y1]
      · rw [show RR = (acts ++ s.new, s.fin) by rw [← HI.out, HE.out, if_neg HF.out]]
        exact Kd.R_mono (Kd.R_set (Kd.R_set S4.out.RT K64.out ne47 0 _) (blk_put K64.out 0 _ rfl) ne47 1 _) (fun _ _ => trivial)
      · exact below_set (below_set S4.out.HB (Nat.le_refl _)) (Nat.le_refl _)
end Go.Proofs.Ytdmbnlpcfgphpaa.Q
