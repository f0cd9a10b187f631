/- The contract of again.Full. -/
import Derived.Test.YtdmbnlpcfgphpaaFol
namespace Go.Proofs.Ytdmbnlpcfgphpaa.Q
open Go.RowKit Go.Maps Go.Proofs.YtdmbnlpcfgphpaaW.PrintWords Go.Proofs.YtdmbnlpcfgphpaaW.PrintLast Go.Proofs.YtdmbnlpcfgphpaaW.PrintMore
set_option linter.unusedVariables false
set_option linter.unusedSimpArgs false
/-- The answers with those of spare pieces put in. -/
def fulF (code : List S40) : Nat → List Int → List Int → List Int
  | 0, out, _ => out
  | f + 1, out, ans => if (fol code out).2.2 = false then out ++ ans else if spr code (fol code out).1.toNat = true then fulF code f (out ++ [rd (fol code out).2.1 ((Mg code (ins code (fol code out).1.toNat).f1).getD 0)]) ans else match ans with
    | [] => out
    | y :: r => fulF code f (out ++ [y]) r
def full (code : List S40) (answers : List Int) : List Int := fulF code (code.length + 1) [] answers
def agF (code : List S40) (l : List S80) (answers : List Int) : List Int × Int := if right code l = true then (full code answers, 0) else ([], 3)
theorem fulF_st {code : List S40} {f p : Nat} {out ans T : List Int} (h1 : (fol code out).1.toNat = p) (h2 : (fol code out).2.1 = T) : ((fol code out).2.2 = false → fulF code (f + 1) out ans = out ++ ans) ∧ ((fol code out).2.2 = true → spr code p = true → fulF code (f + 1) out ans = fulF code f (out ++ [rd T ((Mg code (ins code p).f1).getD 0)]) ans) ∧ ((fol code out).2.2 = true → spr code p = false → (ans = [] → fulF code (f + 1) out ans = out) ∧ ∀ y r, ans = y :: r → fulF code (f + 1) out ans = fulF code f (out ++ [y]) r) := by
  subst h1 h2
  refine ⟨fun h => ?_, fun h hs => ?_, fun h hs => ⟨fun ha => ?_, fun y r ha => ?_⟩⟩
  · unfold fulF; rw [if_pos h]
  · conv => { lhs; unfold fulF }
    rw [if_neg (by rw [h]; decide), if_pos hs]
  · subst ha; unfold fulF; rw [if_neg (by rw [h]; decide), if_neg (by rw [hs]; decide)]
  · subst ha
    conv => { lhs; unfold fulF }
    rw [if_neg (by rw [h]; decide), if_neg (by rw [hs]; decide)]
theorem stp_ans (x : S40) (i : Int) (T ans : List Int) : ((stp x i T ans).fin = 4 → ans = []) ∧ ans.length ≤ (stp x i T ans).ans.length + 1 := by
  refine stp_elim (fun r => (r.fin = 4 → ans = []) ∧ ans.length ≤ r.ans.length + 1) x i T ans ?_ (fun s hs => ⟨fun h => by simp only [stGo] at h; omega, by simp only [stGo]; omega⟩) ?_ ?_ ?_ ?_ ?_ <;> intros <;> simp only [stSet, stGo, stTell, stAsk, stCas] <;> (repeat' split) <;> simp
theorem folF_in {code : List S40} {l : List S80} (hR : right code l = true) : ∀ (f i : Nat) (T ans : List Int), i < code.length → code.length - i ≤ f → ∃ p : Nat, (folF code f (i : Int) T ans).1 = (p : Int) ∧ p < code.length ∧ i ≤ p ∧ ((folF code f (i : Int) T ans).2.2 = true → ans.length ≤ p - i)
  | 0, i, T, ans, hi, hf => absurd hf (by omega)
  | f + 1, i, T, ans, hi, hf => by
    obtain ⟨h1, h2, h3, h4, -⟩ := right_parts hR
    have hs := @folF_st code f i T ans _ rfl
    have ha := stp_ans (ins code i) (i : Int) T ans
    by_cases h0 : (stp (ins code i) (i : Int) T ans).fin = 0
    · rw [hs.1 h0]
      have hn := next_in h2 h3 hi (h4 i hi) T ans h0
      obtain ⟨q, hq⟩ : ∃ q : Nat, (stp (ins code i) (i : Int) T ans).next = (q : Int) := ⟨(stp (ins code i) (i : Int) T ans).next.toNat, by omega⟩
      rw [hq] at hn ⊢
      obtain ⟨p, p1, p2, p3, p4⟩ := folF_in hR f q (stp (ins code i) (i : Int) T ans).T (stp (ins code i) (i : Int) T ans).ans (by omega) (by omega)
      exact ⟨p, p1, p2, by omega, fun h => by have := p4 h; omega⟩
    · rw [hs.2 h0]
      refine ⟨i, rfl, hi, Nat.le_refl _, fun h => ?_⟩
      have h5 : (stp (ins code i) (i : Int) T ans).fin = 4 := by simpa using h
      rw [ha.1 h5]; simp
theorem fol_in {code : List S40} {l : List S80} (hR : right code l = true) (answers : List Int) : ∃ p : Nat, (fol code answers).1 = (p : Int) ∧ p < code.length ∧ ((fol code answers).2.2 = true → answers.length ≤ p) := by
  have h1 := (right_parts hR).1
  obtain ⟨p, p1, p2, p3, p4⟩ := folF_in hR code.length 0 zT answers (by omega) (by omega)
  exact ⟨p, p1, p2, fun h => by have := p4 h; omega⟩
theorem Mg_bd {code : List S40} (t : Tr code) : BdK (Mg code) := by
  have h := bd_wlk t code.length 0 (fun _ => none) (List.replicate code.length false, fun _ => none) (by have := t.n1; omega) bd_none bd_none
  rw [wlk_all t] at h
  exact h
theorem MapJ.wf {w : World} {b n : Nat} {m : Int → Option Int} (h : MapJ w b n m) (t : Int) (ht : wf64 t) : wf64 ((m t).getD 0) := by
  obtain ⟨D, h1, h2, h3⟩ := h
  obtain ⟨e1, e2⟩ := h3 t ht
  obtain ⟨c, hrun, hat, hwc⟩ := h1.lookup_int int3 Try.underlying87 Try.underlying2 (zero2 _) (keyOf_int_mk Try.underlying3 ht)
  rw [e2] at hat
  have hc' : (m t).getD 0 = c := by simpa using hat
  rw [hc']; exact hwc
def slLen : Value → Nat
  | .slice _ n _ => n
  | _ => 0
/-- A walker and the answers so far. -/
structure Fu (w W : World) (A : Option Addr) (n c b gs cs gm km : Nat) (sp : List Bool) (M : KM) (vo : Value) (out : List Int) : Prop where
  K : Wk w W A n c b gs cs gm km sp M
  RO : (Kd.int .i64).R 2 W w.heap.size (fun q => q ≠ b ∧ q ≠ gs ∧ q ≠ gm) vo out
section
variable {w W W' : World} {A : Option Addr} {n c b gs cs gm km : Nat} {sp : List Bool} {M : KM} {vo : Value} {out : List Int}
theorem Fu.below (S : Fu w W A n c b gs cs gm km sp M vo out) (hb : Below W.heap.size W W') : Fu w W' A n c b gs cs gm km sp M vo out := ⟨S.K.below hb, Kd.R_below S.RO hb⟩
theorem Fu.alloc (S : Fu w W A n c b gs cs gm km sp M vo out) (o : Obj) : Fu w (W.alloc o) A n c b gs cs gm km sp M vo out := S.below (below_alloc (Below.refl _ _) o)
theorem Fu.drewN (S : Fu w W A n c b gs cs gm km sp M vo out) (j : Nat) : Fu w (W.drewN j) A n c b gs cs gm km sp M vo out := S.below (pw_below_drewN (Below.refl _ _) j)
theorem Fu.drew (S : Fu w W A n c b gs cs gm km sp M vo out) : Fu w W.drew A n c b gs cs gm km sp M vo out := S.below (below_drew1 (Below.refl _ _))
theorem Fu.more (S : Fu w W A n c b gs cs gm km sp M vo out) {v1 : Value} {out' : List Int} (hg : W.grownBy W' vo.ownBlock) (h1 : (Kd.int .i64).R 2 W' w.heap.size (fun q => q ≠ b ∧ q ≠ gs ∧ q ≠ gm) v1 out') : Fu w W' A n c b gs cs gm km sp M v1 out' := by
  have hne : ∀ q, (q = b ∨ q = gs ∨ q = gm) → some q ≠ vo.ownBlock := fun q hq he => by
    have := S.RO.1 q he.symm
    omega
  refine ⟨?_, h1⟩
  cases hv : vo.ownBlock with
  | some g =>
    rw [hv] at hg hne
    have hb := Kd.R_base S.RO g hv
    exact S.K.grown hg hb (fun e => hne g (Or.inl e) rfl) (fun e => hne g (Or.inr (Or.inl e)) rfl) (fun e => hne g (Or.inr (Or.inr e)) rfl)
  | none =>
    rw [hv] at hg
    exact S.K.below ⟨hg.os, hg.tape, hg.output, hg.size, fun k hk => hg.block k hk (by simp)⟩
theorem Fu.fresh (S : Fu w W A n c b gs cs gm km sp M vo out) : ∀ k, W.heap.size ≤ k → k ≠ b ∧ k ≠ gs ∧ k ≠ gm := fun k hk => by
  have h1 := S.K.lb
  have h2 := S.K.ls
  have h3 := S.K.lm
  omega
end
set_option maxHeartbeats 2000000 in
set_option maxRecDepth 100000 in
theorem full_wrong (A : Option Addr) (c : Nat) (code : List S40) (Al : Option Addr) (cl : Nat) (l : List S80) (Aa : Option Addr) (ca : Nat) (answers : List Int) (w : World) (hr : Kd.C k40 w A code.length code) (hc : code.length ≤ c) (hrl : Kd.C k80 w Al l.length l) (hcl : l.length ≤ cl) (hl : l.length ≤ 1000) (hR : right code l = false) :
    Calls Try.prog 27 #[.slice A code.length c, .slice Al l.length cl, .slice Aa answers.length ca] w fun e w' => ∃ v, e = .returned (.tuple #[v, .int .i64 3]) ∧ (Kd.int .i64).R 2 w' w.heap.size (fun _ => True) v [] ∧ Below w.heap.size w w' := by
  have HC := Aside0.mk hr
  have HL := Aside0.mk hrl
  have HCc := Aside0.mk hc
  have HCl := Aside0.mk hcl
  have HLl := Aside0.mk hl
  clear hr hrl hc hcl hl
  go_enter Try.func27, Try.ntmps27
  go_wp2_with (go_at_call 41; refine (begin_wrong A c code Al cl l _ HC.out HCc.out HL.out HCl.out HLl.out hR).mono ?_; rintro e w2 ⟨rfl, hb⟩; have HB := Aside0.mk hb; clear hb)
  go_ret2
  exact ⟨_, rfl, Kd.R_nil _ _ _ _ _, HB.out⟩
set_option maxHeartbeats 8000000 in
set_option maxRecDepth 100000 in
theorem full_right (A : Option Addr) (c : Nat) (code : List S40) (Al : Option Addr) (cl : Nat) (l : List S80) (Aa : Option Addr) (ca : Nat) (answers : List Int) (w : World) (hr : Kd.C k40 w A code.length code) (hc : code.length ≤ c) (hrl : Kd.C k80 w Al l.length l) (hcl : l.length ≤ cl) (hl : l.length ≤ 1000) (hra : (Kd.int .i64).C w Aa answers.length answers) (hca : answers.length ≤ ca) (hal : answers.length ≤ 100000) (hwK : ∀ i, i < code.length → wf64 (ins code i).f6) (hwA : ∀ x ∈ answers, wf64 x) (hR : right code l = true) :
    Calls Try.prog 27 #[.slice A code.length c, .slice Al l.length cl, .slice Aa answers.length ca] w fun e w' => ∃ v, e = .returned (.tuple #[v, .int .i64 0]) ∧ (Kd.int .i64).R 2 w' w.heap.size (fun _ => True) v (full code answers) ∧ Below w.heap.size w w' := by
  have t := tr_of hR
  have hn1 := t.n1
  have hn4 := t.n4
  have HT := Aside0.mk t
  have HC := Aside0.mk hr
  have HL := Aside0.mk hrl
  have HCc := Aside0.mk hc
  have HCl := Aside0.mk hcl
  have HLl := Aside0.mk hl
  have HWK := Aside0.mk hwK
  have HA0 := Aside0.mk (And.intro hra (And.intro hca (And.intro hwA hal)))
  have HR := Aside0.mk hR
  obtain ⟨R, hRR⟩ : ∃ R, R = full code answers := ⟨_, rfl⟩
  rw [← hRR]
  have HRR := Aside0.mk hRR
  clear hr hrl hc hcl hl t hR hwK hra hca hwA hRR hal
  go_enter Try.func27, Try.ntmps27
  go_wp2_with (go_at_call 41; refine (begin_right A c code Al cl l _ HC.out HCc.out HL.out HCl.out HLl.out HR.out).mono ?_; rintro e w2 ⟨b, gs, cs, gm, km, rfl, hkm, hs⟩; have S2 := Aside0.mk hs; clear hs hkm)
  go_loopw [10, 2] (fun vo v2 w' => ∃ (f : Nat) (out ans : List Int) (Ab : Option Addr) (cb : Nat), v2 = .slice Ab ans.length cb ∧ Aside0 (Fu w w' A code.length c b gs cs gm km (spL code) (Mg code) vo out) ∧ Aside0 ((Kd.int .i64).C w Ab ans.length ans ∧ ans.length ≤ cb ∧ (∀ x ∈ ans, wf64 x) ∧ ans.length ≤ 100000) ∧ Aside0 (∀ x ∈ out, wf64 x) ∧ Aside0 (out.length ≤ code.length ∧ code.length + 1 - out.length ≤ f) ∧ Aside0 (R = fulF code f out ans)) (fun vo _ _ => code.length + 1 - slLen vo)
  case atStart => exact ⟨code.length + 1, [], answers, Aa, ca, rfl, ⟨S2.out, Kd.R_nil _ _ _ _ _⟩, HA0, ⟨fun x hx => by cases hx⟩, ⟨by simp⟩, HRR⟩
  case round =>
    clear S2 HA0 HRR
    obtain ⟨f, out, ans, Ab, cb, rfl, S3, HA, HO, HN, HRR⟩ := hrel
    obtain ⟨f, rfl⟩ : ∃ g, f = g + 1 := ⟨f - 1, by have := HN.out; omega⟩
    obtain ⟨wo, rfl⟩ : ∃ wo : World, wo = wr := ⟨wr, rfl⟩
    obtain ⟨Ao, co, rfl⟩ := Kd.R_slice S3.out.RO
    obtain ⟨_, hco, hCo⟩ := Kd.R_reads' S3.out.RO
    have HCO := Aside0.mk (And.intro hCo hco)
    clear hco hCo
    obtain ⟨p, hp1, hp2, hp3⟩ := fol_in HR.out out
    obtain ⟨j, hj⟩ : ∃ j : Int, (p : Int) = j := ⟨_, rfl⟩
    obtain ⟨T, hT⟩ : ∃ T, (fol code out).2.1 = T := ⟨_, rfl⟩
    have HFOL := Aside0.mk (fulF_st (code := code) (f := f) (out := out) (ans := ans) (p := p) (T := T) (by rw [hp1, Int.toNat_natCast]) hT)
    have q1 : (j < (code.length : Int)) = True := eq_true (by omega)
    have q0 : (0 ≤ j) = True := eq_true (by omega)
    have HP := Aside0.mk (And.intro hp2 hp3)
    have HJ := Aside0.mk hj
    have HJN : Aside0 (j.toNat = p) := ⟨by omega⟩
    have hfx : Aside0 ((fol code out).1 = j) := ⟨by rw [hp1, hj]⟩
    have HTT := Aside0.mk hT
    have HS := Aside0.mk (spL_at (code := code) hp2)
    clear hp1 hp2 hp3 hj hT
    cases hst : (fol code out).2.2
    · have HST := Aside0.mk hst
      have hRe : R = out ++ ans := by rw [HRR.out]; exact HFOL.out.1 hst
      have HRE := Aside0.mk hRe
      clear hst hRe
      go_wp2_with (first
        | (go_at_call 43; refine (follow_any A c code l Ao co out _ (Kd.C_below HC.out S3.out.K.HB) HCc.out HCO.out.1 HCO.out.2 HR.out HLl.out HWK.out HO.out).mono ?_; rintro e w4 ⟨g4, k4, m4, rfl, hm4, ht4, hb4⟩; rw [HST.out, hfx.out]; have S4 := Aside0.mk (S3.out.below hb4); clear hm4 ht4 hb4)
        | (at_builtin; refine Kd.R_append_rows (Kd.int .i64) (Rr := (Kd.int .i64).K w4) (w0 := w) w.heap.size rfl (.tmp 41) (.tmp 42) 24 2 (.int .i64 0) 8 rfl Try.underlying24 info2 rfl (by decide) (by omega) _ out ans Ab _ _ (fun q => q ≠ b ∧ q ≠ gs ∧ q ≠ gm) (fun _ => False) rfl rfl S4.out.RO (Kd.C_below HA.out.1 S4.out.K.HB) (fun _ _ h => h) (fun _ h => h.elim) S4.out.fresh S4.out.K.HB S4.out.K.HB.size (by have h1_ := HA.out.2.2.2; have h2_ := HN.out.1; omega) ?_; intro v5 w5 h1 h2 h3 h4; have V5 := Aside0.mk h1; have B5 := Aside0.mk h2; clear h1 h2 h3 h4))
      go_ret2
      exact ⟨_, rfl, by rw [HRE.out]; exact Kd.R_mono V5.out (fun _ _ => trivial), B5.out⟩
    · have HST := Aside0.mk hst
      cases hsp : spr code p
      · have HSP := Aside0.mk hsp
        cases ans with
        | nil =>
          have HRE : Aside0 (R = out) := ⟨by rw [HRR.out]; exact (HFOL.out.2.2 hst hsp).1 rfl⟩
          clear hst hsp
          go_wp2_with (go_at_call 43; refine (follow_any A c code l Ao co out _ (Kd.C_below HC.out S3.out.K.HB) HCc.out HCO.out.1 HCO.out.2 HR.out HLl.out HWK.out HO.out).mono ?_; rintro e w4 ⟨g4, k4, m4, rfl, hm4, ht4, hb4⟩; rw [HST.out, hfx.out]; rw [HTT.out] at ht4; have S4 := Aside0.mk (S3.out.below hb4); have M4 := Aside0.mk hm4; have T4 := Aside0.mk ht4; clear hm4 ht4 hb4; have b1 := S4.out.K.c1; have hc3 := (S4.out.K.cs_ j (of_eq_true q0) (of_eq_true q1)).1; rw [show (spL code).getD j.toNat false = spr code p by rw [HJN.out, HS.out], HSP.out] at hc3)
          go_ret2
          exact ⟨_, rfl, by rw [HRE.out]; exact Kd.R_mono S4.out.RO (fun _ _ => trivial), S4.out.K.HB⟩
        | cons y r =>
          have HRE : Aside0 (R = fulF code f (out ++ [y]) r) := ⟨by rw [HRR.out]; exact (HFOL.out.2.2 hst hsp).2 y r rfl⟩
          clear hst hsp
          obtain ⟨ad2, ea, hx⟩ := Kd.at_int (Kd.C_below HA.out.1 S3.out.K.HB) 0 (by omega) (by simp)
          cases ea
          clear hx
          have hlen : (y :: r).length = r.length + 1 := rfl
          have q2 : ((0 : Int) < ((y :: r).length : Int)) = True := eq_true (by rw [hlen]; omega)
          have c8 : (((y :: r).length : Int) == 0) = false := beq_eq_false_iff_ne.2 (by rw [hlen]; omega)
          obtain ⟨i2, hi2, hs2⟩ : ∃ i, Try.prog.info? 2 = some i ∧ i.size = 1 := ⟨_, rfl, by kernel_rfl⟩
          have hcut := cut_from (P := Try.prog) 24 2 .i64 Try.underlying24 hi2 1 hs2 (some ad2) (y :: r).length cb 1 (by omega) (by rw [hlen]; omega)
          have hdrop := Kd.C_drop (m := 1) (c := cb) HA.out.1 (by rw [hlen]; omega) HA.out.2.1
          simp only [Nat.mul_one, show (Kd.int .i64).sz = 1 from rfl, show (1 : Int).toNat = 1 from rfl, List.drop_succ_cons, List.drop_zero, hlen, Nat.add_sub_cancel] at hcut hdrop
          generalize (if cb = 1 then some ad2 else (some ad2).map fun x => x.add 1) = Ad at hcut hdrop
          have HA2 : Aside0 ((Kd.int .i64).C w Ad r.length r ∧ r.length ≤ cb - 1 ∧ (∀ x ∈ r, wf64 x) ∧ r.length ≤ 100000) := ⟨hdrop, by have := HA.out.2.1; rw [hlen] at this; omega, fun x hx_ => HA.out.2.2.1 x (List.mem_cons_of_mem _ hx_), by have := HA.out.2.2.2; rw [hlen] at this; omega⟩
          have HY : Aside0 (wf64 y) := ⟨HA.out.2.2.1 y (List.mem_cons_self ..)⟩
          simp only [hlen] at q2 c8 ⊢
          clear hdrop hlen
          go_wp2_with (first | (go_at_call 43; refine (follow_any A c code l Ao co out _ (Kd.C_below HC.out S3.out.K.HB) HCc.out HCO.out.1 HCO.out.2 HR.out HLl.out HWK.out HO.out).mono ?_; rintro e w4 ⟨g4, k4, m4, rfl, hm4, ht4, hb4⟩; rw [HST.out, hfx.out]; rw [HTT.out] at ht4; have S4 := Aside0.mk (S3.out.below hb4); have M4 := Aside0.mk hm4; have T4 := Aside0.mk ht4; clear hm4 ht4 hb4; have b1 := S4.out.K.c1; have hc3 := (S4.out.K.cs_ j (of_eq_true q0) (of_eq_true q1)).1; rw [show (spL code).getD j.toNat false = spr code p by rw [HJN.out, HS.out], HSP.out] at hc3; obtain ⟨ad9, ea9, hx0⟩ := Kd.at_int (Kd.C_below HA.out.1 S4.out.K.HB) 0 (by omega) (by simp); cases ea9; have hx1 : w4.cell? ad2 = some (.int .i64 y) := (by simpa [Addr.add, rd] using hx0); clear hx0) | (at_builtin; refine Kd.R_append (Kd.int .i64) (w0 := w) w.heap.size rfl (.tmp 30) (.tmp 34) 24 2 (.int .i64 0) 8 rfl Try.underlying24 info2 rfl (by decide) (by omega) _ out y [.int .i64 y] (fun q => q ≠ b ∧ q ≠ gs ∧ q ≠ gm) (fun _ => False) rfl rfl rfl (fun _ hk => hk.elim) S4.out.fresh S4.out.RO S4.out.K.HB S4.out.K.HB.size (by have h2_ := HN.out.1; omega) ?_; intro v5 w5 h1 h2 h3 h4; have S5 := Aside0.mk (Fu.more S4.out h3 h1); clear h1 h2 h3 h4))
          obtain ⟨A5, c5, rfl⟩ := Kd.R_slice S5.out.RO
          refine ⟨⟨f, out ++ [y], r, Ad, cb - 1, rfl, S5, HA2, ⟨?_⟩, ⟨?_⟩, HRE⟩, ?_⟩
          · intro x hx
            rcases List.mem_append.1 hx with h | h
            · exact HO.out x h
            · rw [List.mem_singleton.1 h]; exact HY.out
          · have h1 := HP.out.2 HST.out; have h2 := HP.out.1; have h3 := HN.out; rw [List.length_append]; simp only [List.length_cons, List.length_nil]; omega
          · have h3 := HN.out; simp only [slLen, List.length_append, List.length_cons, List.length_nil]; omega
      · have HSP := Aside0.mk hsp
        have HRE : Aside0 (R = fulF code f (out ++ [rd T ((Mg code (ins code p).f1).getD 0)]) ans) := ⟨by rw [HRR.out]; exact HFOL.out.2.1 hst hsp⟩
        clear hst hsp
        obtain ⟨ad1, ea, -⟩ := at_T40 (Kd.C_below HC.out S3.out.K.HB) (p : Int) (by omega) (by have := HP.out.1; omega)
        cases ea
        obtain ⟨d, hd⟩ : ∃ d, (ins code p).f1 = d := ⟨_, rfl⟩
        obtain ⟨u, hu⟩ : ∃ u, (Mg code d).getD 0 = u := ⟨_, rfl⟩
        obtain ⟨z, hz⟩ : ∃ z, rd T u = z := ⟨_, rfl⟩
        have hdb := tmp_bd (HT.out.tD p HP.out.1)
        have hub : 0 ≤ u ∧ u < 400 := by
          have hm := Mg_spr HT.out HP.out.1 HSP.out
          obtain ⟨v, hv⟩ := Option.isSome_iff_exists.1 ((spr_kn p).1 HSP.out).2
          rw [hv, hd] at hm
          have := Mg_bd HT.out _ _ hm
          rw [hm] at hu
          simp only [Option.getD_some] at hu
          omega
        rw [hd] at hdb
        have HDU : Aside0 (wf64 d ∧ wf64 u) := ⟨wf64_of (by omega) (by omega), wf64_of (by omega) (by omega)⟩
        have HU := Aside0.mk (And.intro hu (And.intro hub hz))
        have HRE2 : Aside0 (R = fulF code f (out ++ [z]) ans) := ⟨by rw [HRE.out, hd, hu, hz]⟩
        have HDD := Aside0.mk hd
        clear hu hz hub hdb hd HRE
        go_wp2_with (go_at_call 43; refine (follow_any (some ad1) c code l Ao co out _ (Kd.C_below HC.out S3.out.K.HB) HCc.out HCO.out.1 HCO.out.2 HR.out HLl.out HWK.out HO.out).mono ?_; rintro e w4 ⟨g4, k4, m4, rfl, hm4, ht4, hb4⟩; rw [HST.out, hfx.out]; rw [HTT.out] at ht4; have S4 := Aside0.mk (S3.out.below hb4); have M4 := Aside0.mk hm4; have T4 := Aside0.mk ht4; clear hm4 ht4 hb4; have b1 := S4.out.K.c1; have hc3 := (S4.out.K.cs_ j (of_eq_true q0) (of_eq_true q1)).1; rw [show (spL code).getD j.toNat false = spr code p by rw [HJN.out, HS.out], HSP.out] at hc3)
        obtain ⟨ad9, ea9, -, k1, -⟩ := at_T40 (Kd.C_below HC.out S4.out.K.HB) (p : Int) (by omega) (by have := HP.out.1; omega)
        cases ea9
        rw [ins_at, HDD.out, HJ.out] at k1
        have b2 := S4.out.K.c2
        have r1 : (Instr.lookup 61 (.map (some gm)) (.int .i64 d) false).run Try.prog w4.drew = .ok (.int .i64 u) w4.drew := by
          have h_ := MapI.run1 (show MapI w4.drew gm km (Mg code) from S4.out.K.MM) d HDU.out.1
          rw [HU.out.1] at h_; exact h_
        have r2 : (Instr.lookup 87 (.map (some g4)) (.int .i64 u) false).run Try.prog w4.drew = .ok (.int .i64 z) w4.drew := by
          have h_ := MapJ.run1 (show MapJ w4.drew g4 k4 m4 from M4.out) u HDU.out.2
          rw [T4.out.2 u HU.out.2.1.1 HU.out.2.1.2, HU.out.2.2] at h_; exact h_
        have HZ : Aside0 (wf64 z) := ⟨by have h_ := MapJ.wf M4.out u HDU.out.2; rw [T4.out.2 u HU.out.2.1.1 HU.out.2.1.2, HU.out.2.2] at h_; exact h_⟩
        clear b1 hc3
        go_region_held3 (fun w' => w'.cell? ⟨b, 2, none⟩ = some (.map (some gm)) ∧ w'.cell? { block := (ad1.add (j.toNat * 8)).block, off := (ad1.add (j.toNat * 8)).off + 1 } = some (.int .i64 d)) (first | go_keep | exact ⟨b2b, k1b⟩)
          ((refine Kd.R_append_step (Kd.int .i64) (w0 := w) w.heap.size (by rfl) _ _ 24 2 (.int .i64 0) 8 rfl Try.underlying24 info2 rfl (by decide) (by decide) _ out z [.int .i64 z] (fun q => q ≠ b ∧ q ≠ gs ∧ q ≠ gm) (fun _ => False) (by rfl) (by rfl) rfl (fun _ h => h.elim) S4.out.drew.fresh S4.out.drew.RO S4.out.drew.K.HB S4.out.drew.K.HB.size (by have h2_ := HN.out.1; omega) ?_; intro v5 w5 h1 h2 h3 h4; have S5 := Aside0.mk (Fu.more S4.out.drew h3 h1); clear h1 h2 h3 h4; have b2b := S5.out.K.c2; obtain ⟨ad8, ea8, -, k1b, -⟩ := at_T40 (Kd.C_below HC.out S5.out.K.HB) (p : Int) (by omega) (by have := HP.out.1; omega); cases ea8; rw [ins_at, HDD.out, HJ.out] at k1b))
        go_wp2
        obtain ⟨A5, c5, rfl⟩ := Kd.R_slice S5.out.RO
        refine ⟨⟨f, out ++ [z], ans, Ab, cb, rfl, S5, HA, ⟨?_⟩, ⟨?_⟩, HRE2⟩, ?_⟩
        · intro x hx
          rcases List.mem_append.1 hx with h | h
          · exact HO.out x h
          · rw [List.mem_singleton.1 h]; exact HZ.out
        · have h1 := HP.out.2 HST.out; have h2 := HP.out.1; have h3 := HN.out; rw [List.length_append]; simp only [List.length_cons, List.length_nil]; omega
        · have h3 := HN.out; simp only [slLen, List.length_append, List.length_cons, List.length_nil]; omega
theorem full_any (A : Option Addr) (c : Nat) (code : List S40) (Al : Option Addr) (cl : Nat) (l : List S80) (Aa : Option Addr) (ca : Nat) (answers : List Int) (w : World) (hr : Kd.C k40 w A code.length code) (hc : code.length ≤ c) (hrl : Kd.C k80 w Al l.length l) (hcl : l.length ≤ cl) (hl : l.length ≤ 1000) (hra : (Kd.int .i64).C w Aa answers.length answers) (hca : answers.length ≤ ca) (hal : answers.length ≤ 100000) (hwK : ∀ i, i < code.length → wf64 (ins code i).f6) (hwA : ∀ x ∈ answers, wf64 x) :
    Calls Try.prog 27 #[.slice A code.length c, .slice Al l.length cl, .slice Aa answers.length ca] w fun e w' => ∃ v, e = .returned (.tuple #[v, .int .i64 (agF code l answers).2]) ∧ (Kd.int .i64).R 2 w' w.heap.size (fun _ => True) v (agF code l answers).1 ∧ Below w.heap.size w w' := by
  unfold agF
  cases hR : right code l
  · exact full_wrong A c code Al cl l Aa ca answers w hr hc hrl hcl hl hR
  · exact full_right A c code Al cl l Aa ca answers w hr hc hrl hcl hl hra hca hal hwK hwA hR
end Go.Proofs.Ytdmbnlpcfgphpaa.Q
