/- The contract of again.Again. -/
import Derived.Test.YtdmbnlpcfgphpaaAgn
namespace Go.Proofs.Ytdmbnlpcfgphpaa.Q
open Go.RowKit Go.Maps Go.Proofs.YtdmbnlpcfgphpaaW.PrintWords Go.Proofs.YtdmbnlpcfgphpaaW.PrintLast Go.Proofs.YtdmbnlpcfgphpaaW.PrintMore
set_option linter.unusedVariables false
set_option linter.unusedSimpArgs false
theorem meant_code {w W : World} {A : Option Addr} {n c b gs cs gm km : Nat} {sp : List Bool} {code : List S40} (t : Tr code) (S : Wk w W A n c b gs cs gm km sp (Mg code)) (u : Int) (hu : 0 ≤ u ∧ u < 400) :
    Calls Try.prog 42 #[.pointer (some ⟨b, 0, none⟩), .int .i64 u] W fun e W' => e = .returned (.int .i64 (mea code u)) ∧ W' = W := by
  have h := meant_any S u (wf64_of (by omega) (by omega))
  rw [mnt_Mg t] at h
  exact h
theorem fin_ {P G : Prop} (h : P → G) (p : P) : G := h p
theorem Ag.born {w W W1 : World} {A : Option Addr} {n c b gs cs gm km : Nat} {sp : List Bool} {M : KM} {ga ca : Nat} {xs : List Int} (S : Wk w W A n c b gs cs gm km sp M) (hg : W.grownBy W1 none) (hv : (Kd.int .i64).R 3 W1 w.heap.size (fun _ => True) (.slice (some ⟨ga, 0, none⟩) n ca) xs) (hn : W.heap.size ≤ ga) (hl : ga < W1.heap.size) :
    Ag w W1 A n c b gs cs gm km sp M ga ca xs (.slice none 0 0) [] := by
  have h1 := S.lb
  have h2 := S.ls
  have h3 := S.lm
  have h4 := S.HB.size
  refine ⟨S.below ⟨hg.os, hg.tape, hg.output, hg.size, fun k hk => hg.block k hk (by simp)⟩, Kd.R_mono (Kd.R_tight rfl hv) ?_, Kd.R_nil _ _ _ _ _, by omega, hl, by omega, by omega, by omega⟩
  intro q hq; simpa [Value.ownBlock] using hq
set_option maxHeartbeats 2000000 in
set_option maxRecDepth 100000 in
theorem again_wrong (A : Option Addr) (c : Nat) (code : List S40) (Al : Option Addr) (cl : Nat) (l : List S80) (w : World) (hr : Kd.C k40 w A code.length code) (hc : code.length ≤ c) (hrl : Kd.C k80 w Al l.length l) (hcl : l.length ≤ cl) (hl : l.length ≤ 1000) (hR : right code l = false) :
    Calls Try.prog 26 #[.slice A code.length c, .slice Al l.length cl] w fun e w' => ∃ v, e = .returned (.tuple #[v, .int .i64 3]) ∧ Kd.R k40 40 w' w.heap.size (fun _ => True) v [] ∧ Below w.heap.size w w' := by
  have HC := Aside0.mk hr
  have HL := Aside0.mk hrl
  have HCc := Aside0.mk hc
  have HCl := Aside0.mk hcl
  have HLl := Aside0.mk hl
  clear hr hrl hc hcl hl
  go_enter Try.func26, Try.ntmps26
  go_wp2_with (go_at_call 41; refine (begin_wrong A c code Al cl l _ HC.out HCc.out HL.out HCl.out HLl.out hR).mono ?_; rintro e w2 ⟨rfl, hb⟩; have HB := Aside0.mk hb; clear hb)
  go_ret2
  exact ⟨_, rfl, Kd.R_nil _ _ _ _ _, HB.out⟩
set_option maxHeartbeats 8000000 in
set_option maxRecDepth 100000 in
theorem again_right (A : Option Addr) (c : Nat) (code : List S40) (Al : Option Addr) (cl : Nat) (l : List S80) (w : World) (hr : Kd.C k40 w A code.length code) (hc : code.length ≤ c) (hrl : Kd.C k80 w Al l.length l) (hcl : l.length ≤ cl) (hl : l.length ≤ 1000) (hR : right code l = true) :
    Calls Try.prog 26 #[.slice A code.length c, .slice Al l.length cl] w fun e w' => ∃ v, e = .returned (.tuple #[v, .int .i64 0]) ∧ Kd.R k40 40 w' w.heap.size (fun _ => True) v (outL code code.length) ∧ Below w.heap.size w w' := by
  have t := tr_of hR
  have hn1 := t.n1
  have hn4 := t.n4
  have HT := Aside0.mk t
  have HLb := Aside0.mk (lb_of hR hl)
  have HC := Aside0.mk hr
  have HL := Aside0.mk hrl
  have HCc := Aside0.mk hc
  have HCl := Aside0.mk hcl
  have HLl := Aside0.mk hl
  have HR := Aside0.mk hR
  clear hr hrl hc hcl hl t hR
  have hln : (code.length : Int).toNat = code.length := Int.toNat_natCast _
  go_enter Try.func26, Try.ntmps26
  go_wp2_with (first
    | (go_at_call 41; refine (begin_right A c code Al cl l _ HC.out HCc.out HL.out HCl.out HLl.out HR.out).mono ?_; rintro e w2 ⟨b, gs, cs, gm, km, rfl, hkm, hs⟩; have S2 := Aside0.mk hs; clear hs hkm)
    | ((with_reducible refine gate_ (.makeSlice 57 (.tmp 24) (.tmp 24)) rfl ?_); refine Kd.R_make (Kd.int .i64) (w0 := w) w.heap.size 3 rfl (N := 25) rfl 57 _ _ rfl (code.length : Int) rfl rfl Try.underlying57 (.int .i64 0) 8 info3' rfl (by decide) (by decide) (0 : Int) (ok := fun _ => True) (okp := fun _ => True) ?hz (fun _ hk => hk) trivial (by omega) (by omega) ?hb ?hs ?_; (case hz => exact rfl); (case hb => exact S2.out.HB); (case hs => exact S2.out.HB.size); intro v6 W1 hv6 hb6 hg6 hn6; rw [hln] at hv6; obtain ⟨ga, ca, rfl, hgb, hgl, _⟩ := Kd.R_form hv6 (by simp; omega); rw [List.length_replicate] at hv6 ⊢; have S6 := Aside0.mk (Ag.born S2.out hg6 hv6 (by obtain ⟨q_, h1_, h2_⟩ := hn6; have h3_ : ga = q_ := (by simpa [Value.ownBlock] using h1_); omega) hgl); clear hv6 hb6 hg6 hn6 hgb hgl S2))
  clear hln
  go_loopw [28, 9] (fun v v2 w' => ∃ i : Nat, v = .int .i64 (i : Int) ∧ v2 = .int .i64 (nsp code i : Int) ∧ i ≤ code.length ∧ Aside0 (Ag w w' A code.length c b gs cs gm km (spL code) (Mg code) ga ca (atL code i) (.slice none 0 0) [])) (fun v _ _ => code.length - (intOf v).toNat)
  case atStart => exact ⟨0, rfl, rfl, by omega, by rw [atL_zero]; exact S6⟩
  case round =>
    clear S6
    obtain ⟨i, rfl, rfl, hi, S6⟩ := hrel
    by_cases hlt : i < code.length
    · obtain ⟨j, hj⟩ : ∃ j : Int, (i : Int) = j := ⟨_, rfl⟩
      obtain ⟨q, hq⟩ : ∃ q : Int, (nsp code i : Int) = q := ⟨_, rfl⟩
      have hq2 := nsp_le code i
      rw [hj, hq]
      have q1 : (j < (code.length : Int)) = True := eq_true (by omega)
      have q0 : (0 ≤ j) = True := eq_true (by omega)
      have c4 : decide (j < (code.length : Int)) = true := decide_eq_true (by omega)
      have HJ := Aside0.mk hj
      have HQ := Aside0.mk hq
      have e1 : wrap64 (j + 1) = j + 1 := wrap_of (by omega) (by omega)
      have e2 : wrap64 (q + 1) = q + 1 := wrap_of (by omega) (by omega)
      have hjn : j.toNat = i := by omega
      have HX : Aside0 ((atL code i).set j.toNat q = atL code (i + 1)) := ⟨by rw [hjn, ← hq]; exact atL_succ code i⟩
      have HJN := Aside0.mk hjn
      clear hj hq hjn
      have HS := Aside0.mk (spL_at (code := code) hlt)
      have HLT := Aside0.mk hlt
      cases hsp : spr code i
      all_goals as_aux_lemma =>
        have hc2 := S6.out.K.cs_ j (of_eq_true q0) (of_eq_true q1)
        rw [HJN.out, HS.out, hsp] at hc2
        have HSP := Aside0.mk hsp
        clear hsp hlt hi hc2
        go_wp2_with ((with_reducible refine gate_ (.store 3 (.tmp 34) (.tmp 33)) rfl ?_); refine S6.out.store_at rfl rfl _ _ rfl j q (of_eq_true q0) (of_eq_true q1) ?ha ?hx ?_; (case ha => rfl); (case hx => rfl); intro w3 hs; rw [HX.out] at hs; have S7 := Aside0.mk hs; have b1 := hs.K.c1; have hc3 := (hs.K.cs_ j (of_eq_true q0) (of_eq_true q1)).1; rw [HJN.out, HS.out, HSP.out, ← HJN.out] at hc3; clear hs)
        refine ⟨⟨i + 1, ?_, ?_, by have := HLT.out; omega, ?_⟩, by have := HLT.out; have := HJ.out; simp [intOf]; omega⟩
        · rw [e1, ← HJ.out]; rfl
        · first | (rw [e2, ← HQ.out]; simp [nsp, HSP.out]; done) | (rw [← HQ.out]; simp [nsp, HSP.out]; done)
        · exact S7
    · obtain rfl : i = code.length := by omega
      have c4 : decide ((code.length : Int) < (code.length : Int)) = false := decide_eq_false (by omega)
      obtain ⟨wo, rfl⟩ : ∃ wo : World, wo = wr := ⟨wr, rfl⟩
      clear hlt hi
      go_wp2
      clear c4
      go_loopw [48, 11] (fun v vo w' => ∃ i : Nat, v = .int .i64 (i : Int) ∧ i ≤ code.length ∧ Aside0 (Ag w w' A code.length c b gs cs gm km (spL code) (Mg code) ga ca (atL code code.length) vo (outL code i))) (fun v _ _ => code.length - (intOf v).toNat)
      case atStart => exact ⟨0, rfl, by omega, ⟨S6.out⟩⟩
      case round =>
        clear S6
        obtain ⟨i, rfl, hi, S6⟩ := hrel
        by_cases hlt : i < code.length
        · obtain ⟨wx, rfl⟩ : ∃ wx : World, wx = wr := ⟨wr, rfl⟩
          obtain ⟨ad1, ea, k0, k1, k2, k3, k4, k5, k6, k7⟩ := at_T40 (Kd.C_below HC.out S6.out.K.HB) (i : Int) (by omega) (by omega)
          cases ea
          rw [ins_at] at k0 k1 k2 k3 k4 k5 k6 k7
          obtain ⟨j, hj⟩ : ∃ j : Int, (i : Int) = j := ⟨_, rfl⟩
          rw [hj] at k0 k1 k2 k3 k4 k5 k6 k7 ⊢
          have q1 : (j < (code.length : Int)) = True := eq_true (by omega)
          have q0 : (0 ≤ j) = True := eq_true (by omega)
          have c4 : decide (j < (code.length : Int)) = true := decide_eq_true (by omega)
          have HJ := Aside0.mk hj
          have e1 : wrap64 (j + 1) = j + 1 := wrap_of (by omega) (by omega)
          have HJN : Aside0 (j.toNat = i) := ⟨by omega⟩
          have HS := Aside0.mk (spL_at (code := code) hlt)
          have HLT := Aside0.mk hlt
          have hok := HT.out.ok i hlt
          have hno := HT.out.noto i hlt
          have hlo := HLb.out i hlt
          have hb1 := tmp_bd (HT.out.tD i hlt)
          have hb2 := tmp_bd (HT.out.tA i hlt)
          have hb3 := tmp_bd (HT.out.tB i hlt)
          have hto := HT.out.tgt i hlt
          clear hj hlt hi
          have hbx : Aside0 (w.heap.size ≤ wx.heap.size ∧ wx.heap.size ≠ b ∧ wx.heap.size ≠ gs ∧ wx.heap.size ≠ gm ∧ wx.heap.size ≠ ga ∧ some wx.heap.size ≠ u11.ownBlock) := ⟨by have h1_ := S6.out.K.HB.size; have h2_ := S6.out.K.lb; have h3_ := S6.out.K.ls; have h4_ := S6.out.K.lm; have h5_ := S6.out.la; exact ⟨h1_, by omega, by omega, by omega, by omega, fun he_ => Nat.lt_irrefl _ (Kd.R_lt S6.out.RO _ he_.symm)⟩⟩
          cases hsp : spr code i
          · have HO : Aside0 (outL code (i + 1) = outL code i ++ [agI code (ins code i)]) := ⟨by simp [outL, hsp]⟩
            have HSP := Aside0.mk hsp
            clear hsp
            generalize ins code i = X at *
            obtain ⟨o, d, a, bb, loc, len, kk_, tt⟩ := X
            dsimp only at hok hno hlo hb1 hb2 hb3 hto k0 k1 k2 k3 k4 k5 k6 k7
            have hcap := hok
            clear hcap
            have S7 := Aside0.mk (S6.out.alloc (.cells #[.int .i64 o, .int .i64 d, .int .i64 a, .int .i64 bb, .int .i64 loc, .int .i64 len, .int .i64 kk_, .int .i64 tt] 40))
            have KX7 := Aside0.mk (blk_new wx (.cells #[.int .i64 o, .int .i64 d, .int .i64 a, .int .i64 bb, .int .i64 loc, .int .i64 len, .int .i64 kk_, .int .i64 tt] 40))
            have HB0 := Aside0.mk (And.intro hb1 (And.intro hb2 (And.intro hb3 hlo)))
            have HOK := Aside0.mk (And.intro hok (And.intro hno hto))
            clear hok hno hlo hb1 hb2 hb3 hto
            have b1 := S7.out.K.c1
            have hc3 := (S7.out.K.cs_ j (of_eq_true q0) (of_eq_true q1)).1
            rw [show (spL code).getD j.toNat false = false by rw [HJN.out, HS.out, HSP.out]] at hc3
            go_wp2
            generalize wx.alloc (.cells #[.int .i64 o, .int .i64 d, .int .i64 a, .int .i64 bb, .int .i64 loc, .int .i64 len, .int .i64 kk_, .int .i64 tt] 40) = wy at S7 KX7 ⊢
            clear b1 hc3 k0 k1 k2 k3 k4 k5 k6 k7
            have y2 : wy.drew.cell? ⟨wx.heap.size, 2, none⟩ = some (.int .i64 a) := blk_cell KX7.out 2
            have y3 : wy.drew.cell? ⟨wx.heap.size, 3, none⟩ = some (.int .i64 bb) := blk_cell KX7.out 3
            have f2 : wy.drew.frozen? ⟨wx.heap.size, 2, none⟩ = false := blk_frozen KX7.out 2
            have f3 : wy.drew.frozen? ⟨wx.heap.size, 3, none⟩ = false := blk_frozen KX7.out 3
            have KX8 : Aside0 ((wy.setCell ⟨wx.heap.size, 2, none⟩ (.int .i64 (mea code a))).heap[wx.heap.size]? = some (.cells #[.int .i64 o, .int .i64 d, .int .i64 (mea code a), .int .i64 bb, .int .i64 loc, .int .i64 len, .int .i64 kk_, .int .i64 tt] 40 (0, 0))) := ⟨blk_put KX7.out 2 _ rfl⟩
            have y3s : (wy.setCell ⟨wx.heap.size, 2, none⟩ (.int .i64 (mea code a))).drew.cell? ⟨wx.heap.size, 3, none⟩ = some (.int .i64 bb) := blk_cell KX8.out 3
            have f3s : (wy.setCell ⟨wx.heap.size, 2, none⟩ (.int .i64 (mea code a))).drew.frozen? ⟨wx.heap.size, 3, none⟩ = false := blk_frozen KX8.out 3
            rename_i hrest
            have HRest := Aside0.mk hrest
            clear hrest
            apply fin_
            case h =>
              intro hfin
              go_region_with
                (first | (go_at_call 42; (first | (with_reducible refine (meant_code HT.out (by repeat (first | exact S7.out.K | apply Wk.drewN | apply Wk.drew)) a HB0.out.2.1).mono ?_) | (with_reducible refine (meant_code HT.out (by repeat (first | exact S7.out.K | apply Wk.drewN | apply Wk.drew)) bb HB0.out.2.2.1).mono ?_)); rintro e w3 ⟨rfl, rfl⟩))
              all_goals exact hfin
            refine HRest.out _ _ ?_
            clear HRest y2 y3 f2 f3 y3s f3s
            have KX9 : Aside0 (((wy.setCell ⟨wx.heap.size, 2, none⟩ (.int .i64 (mea code a))).setCell ⟨wx.heap.size, 3, none⟩ (.int .i64 (mea code bb))).drew.heap[wx.heap.size]? = some (.cells #[.int .i64 o, .int .i64 d, .int .i64 (mea code a), .int .i64 (mea code bb), .int .i64 loc, .int .i64 len, .int .i64 kk_, .int .i64 tt] 40 (0, 0))) := ⟨blk_put KX8.out 3 _ rfl⟩
            have S9 := Aside0.mk (((S7.out.grown (grown_cell wy wx.heap.size 2 (.int .i64 (mea code a))) hbx.out.1 hbx.out.2.1 hbx.out.2.2.1 hbx.out.2.2.2.1 hbx.out.2.2.2.2.1 hbx.out.2.2.2.2.2).grown (grown_cell _ wx.heap.size 3 (.int .i64 (mea code bb))) hbx.out.1 hbx.out.2.1 hbx.out.2.2.1 hbx.out.2.2.2.1 hbx.out.2.2.2.2.1 hbx.out.2.2.2.2.2).drew)
            generalize ((wy.setCell ⟨wx.heap.size, 2, none⟩ (.int .i64 (mea code a))).setCell ⟨wx.heap.size, 3, none⟩ (.int .i64 (mea code bb))).drew = wz at KX9 S9 ⊢
            clear KX7 KX8 S7
            obtain ⟨hok, hno, hto⟩ := HOK.out
            rcases op_cases hok with rfl | rfl | rfl | rfl | rfl | rfl | rfl | rfl | rfl | rfl | rfl | rfl | rfl | rfl | rfl | rfl | rfl | rfl
            · skip
              obtain rfl := hno (by decide)
              clear hok hno hto HOK
              have y0 := blk_cell KX9.out 0
              have y1 := blk_cell KX9.out 1
              have y2 := blk_cell KX9.out 2
              have y3 := blk_cell KX9.out 3
              have y4 := blk_cell KX9.out 4
              have y5 := blk_cell KX9.out 5
              have y6 := blk_cell KX9.out 6
              have y7 := blk_cell KX9.out 7
              go_wp2_with (first | ((with_reducible refine gate_ (.store 3 (.tmp 88) (.const (.int .i64 0))) rfl ?_); refine blk_store (j := 2) (cells' := #[.int .i64 1, .int .i64 d, .int .i64 0, .int .i64 (mea code bb), .int .i64 loc, .int .i64 len, .int .i64 kk_, .int .i64 0]) KX9.out rfl rfl _ _ rfl 0 (mea code a) rfl ?ha ?hx rfl ?_; (case ha => rfl); (case hx => rfl); intro w10 hk hg; have KX10 := Aside0.mk hk; have S10 := Aside0.mk (S9.out.grown hg hbx.out.1 hbx.out.2.1 hbx.out.2.2.1 hbx.out.2.2.2.1 hbx.out.2.2.2.2.1 hbx.out.2.2.2.2.2); clear hk hg; have y0 := blk_cell KX10.out 0; have y1 := blk_cell KX10.out 1; have y2 := blk_cell KX10.out 2; have y3 := blk_cell KX10.out 3; have y4 := blk_cell KX10.out 4; have y5 := blk_cell KX10.out 5; have y6 := blk_cell KX10.out 6; have y7 := blk_cell KX10.out 7) | ((with_reducible refine gate_ (.store 3 (.tmp 89) (.const (.int .i64 0))) rfl ?_); refine blk_store (j := 3) (cells' := #[.int .i64 1, .int .i64 d, .int .i64 0, .int .i64 0, .int .i64 loc, .int .i64 len, .int .i64 kk_, .int .i64 0]) KX10.out rfl rfl _ _ rfl 0 (mea code bb) rfl ?ha ?hx rfl ?_; (case ha => rfl); (case hx => rfl); intro w11 hk hg; have KX11 := Aside0.mk hk; have S11 := Aside0.mk (S10.out.grown hg hbx.out.1 hbx.out.2.1 hbx.out.2.2.1 hbx.out.2.2.2.1 hbx.out.2.2.2.2.1 hbx.out.2.2.2.2.2); clear hk hg; have y0 := blk_cell KX11.out 0; have y1 := blk_cell KX11.out 1; have y2 := blk_cell KX11.out 2; have y3 := blk_cell KX11.out 3; have y4 := blk_cell KX11.out 4; have y5 := blk_cell KX11.out 5; have y6 := blk_cell KX11.out 6; have y7 := blk_cell KX11.out 7) | (at_builtin; refine Kd.R_append k40 (w0 := w) w.heap.size rfl (.tmp 109) (.tmp 111) 22 40 (.agg #[.int .i64 0, .int .i64 0, .int .i64 0, .int .i64 0, .int .i64 0, .int .i64 0, .int .i64 0, .int .i64 0]) 64 rfl Try.underlying22 info40 rfl (by decide) (by omega) u11 (outL code i) (⟨1, d, 0, 0, loc, len, kk_, 0⟩ : S40) [.int .i64 1, .int .i64 d, .int .i64 0, .int .i64 0, .int .i64 loc, .int .i64 len, .int .i64 kk_, .int .i64 0] (fun q => q ≠ b ∧ q ≠ gs ∧ q ≠ gm ∧ q ≠ ga) (fun _ => False) rfl rfl (k40_mkM _ _ _ ⟨1, d, 0, 0, loc, len, kk_, 0⟩) (fun _ hk => hk.elim) ?aF S11.out.RO S11.out.K.HB S11.out.K.HB.size ?aL ?_; (case aF => intro k_ hk_; have h1_ := S11.out.K.lb; have h2_ := S11.out.K.ls; have h3_ := S11.out.K.lm; have h4_ := S11.out.la; omega); (case aL => have h1_ := outL_len code i; have h2_ := nsp_le code i; have h3_ := HLT.out; omega); intro v1 w20 h1 h2 h3 h4; have S20 := Aside0.mk (Ag.more S11.out h3 h2 h1); clear h1 h2 h3 h4))
              have eX : agI code ⟨1, d, a, bb, loc, len, kk_, 0⟩ = ⟨1, d, 0, 0, loc, len, kk_, 0⟩ := by simp [agI, noA, noB]
              refine ⟨⟨i + 1, by rw [e1, ← HJ.out]; rfl, by have := HLT.out; omega, ⟨by rw [HO.out, eX]; exact S20.out⟩⟩, by have := HLT.out; have := HJ.out; simp [intOf]; omega⟩
            · skip
              obtain rfl := hno (by decide)
              clear hok hno hto HOK
              have y0 := blk_cell KX9.out 0
              have y1 := blk_cell KX9.out 1
              have y2 := blk_cell KX9.out 2
              have y3 := blk_cell KX9.out 3
              have y4 := blk_cell KX9.out 4
              have y5 := blk_cell KX9.out 5
              have y6 := blk_cell KX9.out 6
              have y7 := blk_cell KX9.out 7
              go_wp2_with (first | (at_builtin; refine Kd.R_append k40 (w0 := w) w.heap.size rfl (.tmp 109) (.tmp 111) 22 40 (.agg #[.int .i64 0, .int .i64 0, .int .i64 0, .int .i64 0, .int .i64 0, .int .i64 0, .int .i64 0, .int .i64 0]) 64 rfl Try.underlying22 info40 rfl (by decide) (by omega) u11 (outL code i) (⟨2, d, (mea code a), (mea code bb), loc, len, kk_, 0⟩ : S40) [.int .i64 2, .int .i64 d, .int .i64 (mea code a), .int .i64 (mea code bb), .int .i64 loc, .int .i64 len, .int .i64 kk_, .int .i64 0] (fun q => q ≠ b ∧ q ≠ gs ∧ q ≠ gm ∧ q ≠ ga) (fun _ => False) rfl rfl (k40_mkM _ _ _ ⟨2, d, (mea code a), (mea code bb), loc, len, kk_, 0⟩) (fun _ hk => hk.elim) ?aF S9.out.RO S9.out.K.HB S9.out.K.HB.size ?aL ?_; (case aF => intro k_ hk_; have h1_ := S9.out.K.lb; have h2_ := S9.out.K.ls; have h3_ := S9.out.K.lm; have h4_ := S9.out.la; omega); (case aL => have h1_ := outL_len code i; have h2_ := nsp_le code i; have h3_ := HLT.out; omega); intro v1 w20 h1 h2 h3 h4; have S20 := Aside0.mk (Ag.more S9.out h3 h2 h1); clear h1 h2 h3 h4))
              have eX : agI code ⟨2, d, a, bb, loc, len, kk_, 0⟩ = ⟨2, d, (mea code a), (mea code bb), loc, len, kk_, 0⟩ := by simp [agI, noA, noB]
              refine ⟨⟨i + 1, by rw [e1, ← HJ.out]; rfl, by have := HLT.out; omega, ⟨by rw [HO.out, eX]; exact S20.out⟩⟩, by have := HLT.out; have := HJ.out; simp [intOf]; omega⟩
            · skip
              obtain rfl := hno (by decide)
              clear hok hno hto HOK
              have y0 := blk_cell KX9.out 0
              have y1 := blk_cell KX9.out 1
              have y2 := blk_cell KX9.out 2
              have y3 := blk_cell KX9.out 3
              have y4 := blk_cell KX9.out 4
              have y5 := blk_cell KX9.out 5
              have y6 := blk_cell KX9.out 6
              have y7 := blk_cell KX9.out 7
              go_wp2_with (first | (at_builtin; refine Kd.R_append k40 (w0 := w) w.heap.size rfl (.tmp 109) (.tmp 111) 22 40 (.agg #[.int .i64 0, .int .i64 0, .int .i64 0, .int .i64 0, .int .i64 0, .int .i64 0, .int .i64 0, .int .i64 0]) 64 rfl Try.underlying22 info40 rfl (by decide) (by omega) u11 (outL code i) (⟨3, d, (mea code a), (mea code bb), loc, len, kk_, 0⟩ : S40) [.int .i64 3, .int .i64 d, .int .i64 (mea code a), .int .i64 (mea code bb), .int .i64 loc, .int .i64 len, .int .i64 kk_, .int .i64 0] (fun q => q ≠ b ∧ q ≠ gs ∧ q ≠ gm ∧ q ≠ ga) (fun _ => False) rfl rfl (k40_mkM _ _ _ ⟨3, d, (mea code a), (mea code bb), loc, len, kk_, 0⟩) (fun _ hk => hk.elim) ?aF S9.out.RO S9.out.K.HB S9.out.K.HB.size ?aL ?_; (case aF => intro k_ hk_; have h1_ := S9.out.K.lb; have h2_ := S9.out.K.ls; have h3_ := S9.out.K.lm; have h4_ := S9.out.la; omega); (case aL => have h1_ := outL_len code i; have h2_ := nsp_le code i; have h3_ := HLT.out; omega); intro v1 w20 h1 h2 h3 h4; have S20 := Aside0.mk (Ag.more S9.out h3 h2 h1); clear h1 h2 h3 h4))
              have eX : agI code ⟨3, d, a, bb, loc, len, kk_, 0⟩ = ⟨3, d, (mea code a), (mea code bb), loc, len, kk_, 0⟩ := by simp [agI, noA, noB]
              refine ⟨⟨i + 1, by rw [e1, ← HJ.out]; rfl, by have := HLT.out; omega, ⟨by rw [HO.out, eX]; exact S20.out⟩⟩, by have := HLT.out; have := HJ.out; simp [intOf]; omega⟩
            · skip
              obtain rfl := hno (by decide)
              clear hok hno hto HOK
              have y0 := blk_cell KX9.out 0
              have y1 := blk_cell KX9.out 1
              have y2 := blk_cell KX9.out 2
              have y3 := blk_cell KX9.out 3
              have y4 := blk_cell KX9.out 4
              have y5 := blk_cell KX9.out 5
              have y6 := blk_cell KX9.out 6
              have y7 := blk_cell KX9.out 7
              go_wp2_with (first | (at_builtin; refine Kd.R_append k40 (w0 := w) w.heap.size rfl (.tmp 109) (.tmp 111) 22 40 (.agg #[.int .i64 0, .int .i64 0, .int .i64 0, .int .i64 0, .int .i64 0, .int .i64 0, .int .i64 0, .int .i64 0]) 64 rfl Try.underlying22 info40 rfl (by decide) (by omega) u11 (outL code i) (⟨4, d, (mea code a), (mea code bb), loc, len, kk_, 0⟩ : S40) [.int .i64 4, .int .i64 d, .int .i64 (mea code a), .int .i64 (mea code bb), .int .i64 loc, .int .i64 len, .int .i64 kk_, .int .i64 0] (fun q => q ≠ b ∧ q ≠ gs ∧ q ≠ gm ∧ q ≠ ga) (fun _ => False) rfl rfl (k40_mkM _ _ _ ⟨4, d, (mea code a), (mea code bb), loc, len, kk_, 0⟩) (fun _ hk => hk.elim) ?aF S9.out.RO S9.out.K.HB S9.out.K.HB.size ?aL ?_; (case aF => intro k_ hk_; have h1_ := S9.out.K.lb; have h2_ := S9.out.K.ls; have h3_ := S9.out.K.lm; have h4_ := S9.out.la; omega); (case aL => have h1_ := outL_len code i; have h2_ := nsp_le code i; have h3_ := HLT.out; omega); intro v1 w20 h1 h2 h3 h4; have S20 := Aside0.mk (Ag.more S9.out h3 h2 h1); clear h1 h2 h3 h4))
              have eX : agI code ⟨4, d, a, bb, loc, len, kk_, 0⟩ = ⟨4, d, (mea code a), (mea code bb), loc, len, kk_, 0⟩ := by simp [agI, noA, noB]
              refine ⟨⟨i + 1, by rw [e1, ← HJ.out]; rfl, by have := HLT.out; omega, ⟨by rw [HO.out, eX]; exact S20.out⟩⟩, by have := HLT.out; have := HJ.out; simp [intOf]; omega⟩
            · skip
              obtain rfl := hno (by decide)
              clear hok hno hto HOK
              have y0 := blk_cell KX9.out 0
              have y1 := blk_cell KX9.out 1
              have y2 := blk_cell KX9.out 2
              have y3 := blk_cell KX9.out 3
              have y4 := blk_cell KX9.out 4
              have y5 := blk_cell KX9.out 5
              have y6 := blk_cell KX9.out 6
              have y7 := blk_cell KX9.out 7
              go_wp2_with (first | (at_builtin; refine Kd.R_append k40 (w0 := w) w.heap.size rfl (.tmp 109) (.tmp 111) 22 40 (.agg #[.int .i64 0, .int .i64 0, .int .i64 0, .int .i64 0, .int .i64 0, .int .i64 0, .int .i64 0, .int .i64 0]) 64 rfl Try.underlying22 info40 rfl (by decide) (by omega) u11 (outL code i) (⟨5, d, (mea code a), (mea code bb), loc, len, kk_, 0⟩ : S40) [.int .i64 5, .int .i64 d, .int .i64 (mea code a), .int .i64 (mea code bb), .int .i64 loc, .int .i64 len, .int .i64 kk_, .int .i64 0] (fun q => q ≠ b ∧ q ≠ gs ∧ q ≠ gm ∧ q ≠ ga) (fun _ => False) rfl rfl (k40_mkM _ _ _ ⟨5, d, (mea code a), (mea code bb), loc, len, kk_, 0⟩) (fun _ hk => hk.elim) ?aF S9.out.RO S9.out.K.HB S9.out.K.HB.size ?aL ?_; (case aF => intro k_ hk_; have h1_ := S9.out.K.lb; have h2_ := S9.out.K.ls; have h3_ := S9.out.K.lm; have h4_ := S9.out.la; omega); (case aL => have h1_ := outL_len code i; have h2_ := nsp_le code i; have h3_ := HLT.out; omega); intro v1 w20 h1 h2 h3 h4; have S20 := Aside0.mk (Ag.more S9.out h3 h2 h1); clear h1 h2 h3 h4))
              have eX : agI code ⟨5, d, a, bb, loc, len, kk_, 0⟩ = ⟨5, d, (mea code a), (mea code bb), loc, len, kk_, 0⟩ := by simp [agI, noA, noB]
              refine ⟨⟨i + 1, by rw [e1, ← HJ.out]; rfl, by have := HLT.out; omega, ⟨by rw [HO.out, eX]; exact S20.out⟩⟩, by have := HLT.out; have := HJ.out; simp [intOf]; omega⟩
            · skip
              obtain rfl := hno (by decide)
              clear hok hno hto HOK
              have y0 := blk_cell KX9.out 0
              have y1 := blk_cell KX9.out 1
              have y2 := blk_cell KX9.out 2
              have y3 := blk_cell KX9.out 3
              have y4 := blk_cell KX9.out 4
              have y5 := blk_cell KX9.out 5
              have y6 := blk_cell KX9.out 6
              have y7 := blk_cell KX9.out 7
              go_wp2_with (first | ((with_reducible refine gate_ (.store 3 (.tmp 88) (.const (.int .i64 0))) rfl ?_); refine blk_store (j := 2) (cells' := #[.int .i64 6, .int .i64 d, .int .i64 0, .int .i64 (mea code bb), .int .i64 loc, .int .i64 len, .int .i64 kk_, .int .i64 0]) KX9.out rfl rfl _ _ rfl 0 (mea code a) rfl ?ha ?hx rfl ?_; (case ha => rfl); (case hx => rfl); intro w10 hk hg; have KX10 := Aside0.mk hk; have S10 := Aside0.mk (S9.out.grown hg hbx.out.1 hbx.out.2.1 hbx.out.2.2.1 hbx.out.2.2.2.1 hbx.out.2.2.2.2.1 hbx.out.2.2.2.2.2); clear hk hg; have y0 := blk_cell KX10.out 0; have y1 := blk_cell KX10.out 1; have y2 := blk_cell KX10.out 2; have y3 := blk_cell KX10.out 3; have y4 := blk_cell KX10.out 4; have y5 := blk_cell KX10.out 5; have y6 := blk_cell KX10.out 6; have y7 := blk_cell KX10.out 7) | ((with_reducible refine gate_ (.store 3 (.tmp 89) (.const (.int .i64 0))) rfl ?_); refine blk_store (j := 3) (cells' := #[.int .i64 6, .int .i64 d, .int .i64 0, .int .i64 0, .int .i64 loc, .int .i64 len, .int .i64 kk_, .int .i64 0]) KX10.out rfl rfl _ _ rfl 0 (mea code bb) rfl ?ha ?hx rfl ?_; (case ha => rfl); (case hx => rfl); intro w11 hk hg; have KX11 := Aside0.mk hk; have S11 := Aside0.mk (S10.out.grown hg hbx.out.1 hbx.out.2.1 hbx.out.2.2.1 hbx.out.2.2.2.1 hbx.out.2.2.2.2.1 hbx.out.2.2.2.2.2); clear hk hg; have y0 := blk_cell KX11.out 0; have y1 := blk_cell KX11.out 1; have y2 := blk_cell KX11.out 2; have y3 := blk_cell KX11.out 3; have y4 := blk_cell KX11.out 4; have y5 := blk_cell KX11.out 5; have y6 := blk_cell KX11.out 6; have y7 := blk_cell KX11.out 7) | (at_builtin; refine Kd.R_append k40 (w0 := w) w.heap.size rfl (.tmp 109) (.tmp 111) 22 40 (.agg #[.int .i64 0, .int .i64 0, .int .i64 0, .int .i64 0, .int .i64 0, .int .i64 0, .int .i64 0, .int .i64 0]) 64 rfl Try.underlying22 info40 rfl (by decide) (by omega) u11 (outL code i) (⟨6, d, 0, 0, loc, len, kk_, 0⟩ : S40) [.int .i64 6, .int .i64 d, .int .i64 0, .int .i64 0, .int .i64 loc, .int .i64 len, .int .i64 kk_, .int .i64 0] (fun q => q ≠ b ∧ q ≠ gs ∧ q ≠ gm ∧ q ≠ ga) (fun _ => False) rfl rfl (k40_mkM _ _ _ ⟨6, d, 0, 0, loc, len, kk_, 0⟩) (fun _ hk => hk.elim) ?aF S11.out.RO S11.out.K.HB S11.out.K.HB.size ?aL ?_; (case aF => intro k_ hk_; have h1_ := S11.out.K.lb; have h2_ := S11.out.K.ls; have h3_ := S11.out.K.lm; have h4_ := S11.out.la; omega); (case aL => have h1_ := outL_len code i; have h2_ := nsp_le code i; have h3_ := HLT.out; omega); intro v1 w20 h1 h2 h3 h4; have S20 := Aside0.mk (Ag.more S11.out h3 h2 h1); clear h1 h2 h3 h4))
              have eX : agI code ⟨6, d, a, bb, loc, len, kk_, 0⟩ = ⟨6, d, 0, 0, loc, len, kk_, 0⟩ := by simp [agI, noA, noB]
              refine ⟨⟨i + 1, by rw [e1, ← HJ.out]; rfl, by have := HLT.out; omega, ⟨by rw [HO.out, eX]; exact S20.out⟩⟩, by have := HLT.out; have := HJ.out; simp [intOf]; omega⟩
            · skip
              obtain rfl := hno (by decide)
              clear hok hno hto HOK
              have y0 := blk_cell KX9.out 0
              have y1 := blk_cell KX9.out 1
              have y2 := blk_cell KX9.out 2
              have y3 := blk_cell KX9.out 3
              have y4 := blk_cell KX9.out 4
              have y5 := blk_cell KX9.out 5
              have y6 := blk_cell KX9.out 6
              have y7 := blk_cell KX9.out 7
              go_wp2_with (first | ((with_reducible refine gate_ (.store 3 (.tmp 99) (.const (.int .i64 0))) rfl ?_); refine blk_store (j := 3) (cells' := #[.int .i64 7, .int .i64 d, .int .i64 (mea code a), .int .i64 0, .int .i64 loc, .int .i64 len, .int .i64 kk_, .int .i64 0]) KX9.out rfl rfl _ _ rfl 0 (mea code bb) rfl ?ha ?hx rfl ?_; (case ha => rfl); (case hx => rfl); intro w10 hk hg; have KX10 := Aside0.mk hk; have S10 := Aside0.mk (S9.out.grown hg hbx.out.1 hbx.out.2.1 hbx.out.2.2.1 hbx.out.2.2.2.1 hbx.out.2.2.2.2.1 hbx.out.2.2.2.2.2); clear hk hg; have y0 := blk_cell KX10.out 0; have y1 := blk_cell KX10.out 1; have y2 := blk_cell KX10.out 2; have y3 := blk_cell KX10.out 3; have y4 := blk_cell KX10.out 4; have y5 := blk_cell KX10.out 5; have y6 := blk_cell KX10.out 6; have y7 := blk_cell KX10.out 7) | (at_builtin; refine Kd.R_append k40 (w0 := w) w.heap.size rfl (.tmp 109) (.tmp 111) 22 40 (.agg #[.int .i64 0, .int .i64 0, .int .i64 0, .int .i64 0, .int .i64 0, .int .i64 0, .int .i64 0, .int .i64 0]) 64 rfl Try.underlying22 info40 rfl (by decide) (by omega) u11 (outL code i) (⟨7, d, (mea code a), 0, loc, len, kk_, 0⟩ : S40) [.int .i64 7, .int .i64 d, .int .i64 (mea code a), .int .i64 0, .int .i64 loc, .int .i64 len, .int .i64 kk_, .int .i64 0] (fun q => q ≠ b ∧ q ≠ gs ∧ q ≠ gm ∧ q ≠ ga) (fun _ => False) rfl rfl (k40_mkM _ _ _ ⟨7, d, (mea code a), 0, loc, len, kk_, 0⟩) (fun _ hk => hk.elim) ?aF S10.out.RO S10.out.K.HB S10.out.K.HB.size ?aL ?_; (case aF => intro k_ hk_; have h1_ := S10.out.K.lb; have h2_ := S10.out.K.ls; have h3_ := S10.out.K.lm; have h4_ := S10.out.la; omega); (case aL => have h1_ := outL_len code i; have h2_ := nsp_le code i; have h3_ := HLT.out; omega); intro v1 w20 h1 h2 h3 h4; have S20 := Aside0.mk (Ag.more S10.out h3 h2 h1); clear h1 h2 h3 h4))
              have eX : agI code ⟨7, d, a, bb, loc, len, kk_, 0⟩ = ⟨7, d, (mea code a), 0, loc, len, kk_, 0⟩ := by simp [agI, noA, noB]
              refine ⟨⟨i + 1, by rw [e1, ← HJ.out]; rfl, by have := HLT.out; omega, ⟨by rw [HO.out, eX]; exact S20.out⟩⟩, by have := HLT.out; have := HJ.out; simp [intOf]; omega⟩
            · skip
              obtain rfl := hno (by decide)
              clear hok hno hto HOK
              have y0 := blk_cell KX9.out 0
              have y1 := blk_cell KX9.out 1
              have y2 := blk_cell KX9.out 2
              have y3 := blk_cell KX9.out 3
              have y4 := blk_cell KX9.out 4
              have y5 := blk_cell KX9.out 5
              have y6 := blk_cell KX9.out 6
              have y7 := blk_cell KX9.out 7
              go_wp2_with (first | ((with_reducible refine gate_ (.store 3 (.tmp 88) (.const (.int .i64 0))) rfl ?_); refine blk_store (j := 2) (cells' := #[.int .i64 8, .int .i64 d, .int .i64 0, .int .i64 (mea code bb), .int .i64 loc, .int .i64 len, .int .i64 kk_, .int .i64 0]) KX9.out rfl rfl _ _ rfl 0 (mea code a) rfl ?ha ?hx rfl ?_; (case ha => rfl); (case hx => rfl); intro w10 hk hg; have KX10 := Aside0.mk hk; have S10 := Aside0.mk (S9.out.grown hg hbx.out.1 hbx.out.2.1 hbx.out.2.2.1 hbx.out.2.2.2.1 hbx.out.2.2.2.2.1 hbx.out.2.2.2.2.2); clear hk hg; have y0 := blk_cell KX10.out 0; have y1 := blk_cell KX10.out 1; have y2 := blk_cell KX10.out 2; have y3 := blk_cell KX10.out 3; have y4 := blk_cell KX10.out 4; have y5 := blk_cell KX10.out 5; have y6 := blk_cell KX10.out 6; have y7 := blk_cell KX10.out 7) | ((with_reducible refine gate_ (.store 3 (.tmp 89) (.const (.int .i64 0))) rfl ?_); refine blk_store (j := 3) (cells' := #[.int .i64 8, .int .i64 d, .int .i64 0, .int .i64 0, .int .i64 loc, .int .i64 len, .int .i64 kk_, .int .i64 0]) KX10.out rfl rfl _ _ rfl 0 (mea code bb) rfl ?ha ?hx rfl ?_; (case ha => rfl); (case hx => rfl); intro w11 hk hg; have KX11 := Aside0.mk hk; have S11 := Aside0.mk (S10.out.grown hg hbx.out.1 hbx.out.2.1 hbx.out.2.2.1 hbx.out.2.2.2.1 hbx.out.2.2.2.2.1 hbx.out.2.2.2.2.2); clear hk hg; have y0 := blk_cell KX11.out 0; have y1 := blk_cell KX11.out 1; have y2 := blk_cell KX11.out 2; have y3 := blk_cell KX11.out 3; have y4 := blk_cell KX11.out 4; have y5 := blk_cell KX11.out 5; have y6 := blk_cell KX11.out 6; have y7 := blk_cell KX11.out 7) | (at_builtin; refine Kd.R_append k40 (w0 := w) w.heap.size rfl (.tmp 109) (.tmp 111) 22 40 (.agg #[.int .i64 0, .int .i64 0, .int .i64 0, .int .i64 0, .int .i64 0, .int .i64 0, .int .i64 0, .int .i64 0]) 64 rfl Try.underlying22 info40 rfl (by decide) (by omega) u11 (outL code i) (⟨8, d, 0, 0, loc, len, kk_, 0⟩ : S40) [.int .i64 8, .int .i64 d, .int .i64 0, .int .i64 0, .int .i64 loc, .int .i64 len, .int .i64 kk_, .int .i64 0] (fun q => q ≠ b ∧ q ≠ gs ∧ q ≠ gm ∧ q ≠ ga) (fun _ => False) rfl rfl (k40_mkM _ _ _ ⟨8, d, 0, 0, loc, len, kk_, 0⟩) (fun _ hk => hk.elim) ?aF S11.out.RO S11.out.K.HB S11.out.K.HB.size ?aL ?_; (case aF => intro k_ hk_; have h1_ := S11.out.K.lb; have h2_ := S11.out.K.ls; have h3_ := S11.out.K.lm; have h4_ := S11.out.la; omega); (case aL => have h1_ := outL_len code i; have h2_ := nsp_le code i; have h3_ := HLT.out; omega); intro v1 w20 h1 h2 h3 h4; have S20 := Aside0.mk (Ag.more S11.out h3 h2 h1); clear h1 h2 h3 h4))
              have eX : agI code ⟨8, d, a, bb, loc, len, kk_, 0⟩ = ⟨8, d, 0, 0, loc, len, kk_, 0⟩ := by simp [agI, noA, noB]
              refine ⟨⟨i + 1, by rw [e1, ← HJ.out]; rfl, by have := HLT.out; omega, ⟨by rw [HO.out, eX]; exact S20.out⟩⟩, by have := HLT.out; have := HJ.out; simp [intOf]; omega⟩
            · skip
              obtain rfl := hno (by decide)
              clear hok hno hto HOK
              have y0 := blk_cell KX9.out 0
              have y1 := blk_cell KX9.out 1
              have y2 := blk_cell KX9.out 2
              have y3 := blk_cell KX9.out 3
              have y4 := blk_cell KX9.out 4
              have y5 := blk_cell KX9.out 5
              have y6 := blk_cell KX9.out 6
              have y7 := blk_cell KX9.out 7
              go_wp2_with (first | ((with_reducible refine gate_ (.store 3 (.tmp 99) (.const (.int .i64 0))) rfl ?_); refine blk_store (j := 3) (cells' := #[.int .i64 9, .int .i64 d, .int .i64 (mea code a), .int .i64 0, .int .i64 loc, .int .i64 len, .int .i64 kk_, .int .i64 0]) KX9.out rfl rfl _ _ rfl 0 (mea code bb) rfl ?ha ?hx rfl ?_; (case ha => rfl); (case hx => rfl); intro w10 hk hg; have KX10 := Aside0.mk hk; have S10 := Aside0.mk (S9.out.grown hg hbx.out.1 hbx.out.2.1 hbx.out.2.2.1 hbx.out.2.2.2.1 hbx.out.2.2.2.2.1 hbx.out.2.2.2.2.2); clear hk hg; have y0 := blk_cell KX10.out 0; have y1 := blk_cell KX10.out 1; have y2 := blk_cell KX10.out 2; have y3 := blk_cell KX10.out 3; have y4 := blk_cell KX10.out 4; have y5 := blk_cell KX10.out 5; have y6 := blk_cell KX10.out 6; have y7 := blk_cell KX10.out 7) | (at_builtin; refine Kd.R_append k40 (w0 := w) w.heap.size rfl (.tmp 109) (.tmp 111) 22 40 (.agg #[.int .i64 0, .int .i64 0, .int .i64 0, .int .i64 0, .int .i64 0, .int .i64 0, .int .i64 0, .int .i64 0]) 64 rfl Try.underlying22 info40 rfl (by decide) (by omega) u11 (outL code i) (⟨9, d, (mea code a), 0, loc, len, kk_, 0⟩ : S40) [.int .i64 9, .int .i64 d, .int .i64 (mea code a), .int .i64 0, .int .i64 loc, .int .i64 len, .int .i64 kk_, .int .i64 0] (fun q => q ≠ b ∧ q ≠ gs ∧ q ≠ gm ∧ q ≠ ga) (fun _ => False) rfl rfl (k40_mkM _ _ _ ⟨9, d, (mea code a), 0, loc, len, kk_, 0⟩) (fun _ hk => hk.elim) ?aF S10.out.RO S10.out.K.HB S10.out.K.HB.size ?aL ?_; (case aF => intro k_ hk_; have h1_ := S10.out.K.lb; have h2_ := S10.out.K.ls; have h3_ := S10.out.K.lm; have h4_ := S10.out.la; omega); (case aL => have h1_ := outL_len code i; have h2_ := nsp_le code i; have h3_ := HLT.out; omega); intro v1 w20 h1 h2 h3 h4; have S20 := Aside0.mk (Ag.more S10.out h3 h2 h1); clear h1 h2 h3 h4))
              have eX : agI code ⟨9, d, a, bb, loc, len, kk_, 0⟩ = ⟨9, d, (mea code a), 0, loc, len, kk_, 0⟩ := by simp [agI, noA, noB]
              refine ⟨⟨i + 1, by rw [e1, ← HJ.out]; rfl, by have := HLT.out; omega, ⟨by rw [HO.out, eX]; exact S20.out⟩⟩, by have := HLT.out; have := HJ.out; simp [intOf]; omega⟩
            · skip
              obtain rfl := hno (by decide)
              clear hok hno hto HOK
              have y0 := blk_cell KX9.out 0
              have y1 := blk_cell KX9.out 1
              have y2 := blk_cell KX9.out 2
              have y3 := blk_cell KX9.out 3
              have y4 := blk_cell KX9.out 4
              have y5 := blk_cell KX9.out 5
              have y6 := blk_cell KX9.out 6
              have y7 := blk_cell KX9.out 7
              go_wp2_with (first | ((with_reducible refine gate_ (.store 3 (.tmp 99) (.const (.int .i64 0))) rfl ?_); refine blk_store (j := 3) (cells' := #[.int .i64 10, .int .i64 d, .int .i64 (mea code a), .int .i64 0, .int .i64 loc, .int .i64 len, .int .i64 kk_, .int .i64 0]) KX9.out rfl rfl _ _ rfl 0 (mea code bb) rfl ?ha ?hx rfl ?_; (case ha => rfl); (case hx => rfl); intro w10 hk hg; have KX10 := Aside0.mk hk; have S10 := Aside0.mk (S9.out.grown hg hbx.out.1 hbx.out.2.1 hbx.out.2.2.1 hbx.out.2.2.2.1 hbx.out.2.2.2.2.1 hbx.out.2.2.2.2.2); clear hk hg; have y0 := blk_cell KX10.out 0; have y1 := blk_cell KX10.out 1; have y2 := blk_cell KX10.out 2; have y3 := blk_cell KX10.out 3; have y4 := blk_cell KX10.out 4; have y5 := blk_cell KX10.out 5; have y6 := blk_cell KX10.out 6; have y7 := blk_cell KX10.out 7) | (at_builtin; refine Kd.R_append k40 (w0 := w) w.heap.size rfl (.tmp 109) (.tmp 111) 22 40 (.agg #[.int .i64 0, .int .i64 0, .int .i64 0, .int .i64 0, .int .i64 0, .int .i64 0, .int .i64 0, .int .i64 0]) 64 rfl Try.underlying22 info40 rfl (by decide) (by omega) u11 (outL code i) (⟨10, d, (mea code a), 0, loc, len, kk_, 0⟩ : S40) [.int .i64 10, .int .i64 d, .int .i64 (mea code a), .int .i64 0, .int .i64 loc, .int .i64 len, .int .i64 kk_, .int .i64 0] (fun q => q ≠ b ∧ q ≠ gs ∧ q ≠ gm ∧ q ≠ ga) (fun _ => False) rfl rfl (k40_mkM _ _ _ ⟨10, d, (mea code a), 0, loc, len, kk_, 0⟩) (fun _ hk => hk.elim) ?aF S10.out.RO S10.out.K.HB S10.out.K.HB.size ?aL ?_; (case aF => intro k_ hk_; have h1_ := S10.out.K.lb; have h2_ := S10.out.K.ls; have h3_ := S10.out.K.lm; have h4_ := S10.out.la; omega); (case aL => have h1_ := outL_len code i; have h2_ := nsp_le code i; have h3_ := HLT.out; omega); intro v1 w20 h1 h2 h3 h4; have S20 := Aside0.mk (Ag.more S10.out h3 h2 h1); clear h1 h2 h3 h4))
              have eX : agI code ⟨10, d, a, bb, loc, len, kk_, 0⟩ = ⟨10, d, (mea code a), 0, loc, len, kk_, 0⟩ := by simp [agI, noA, noB]
              refine ⟨⟨i + 1, by rw [e1, ← HJ.out]; rfl, by have := HLT.out; omega, ⟨by rw [HO.out, eX]; exact S20.out⟩⟩, by have := HLT.out; have := HJ.out; simp [intOf]; omega⟩
            · skip
              obtain rfl := hno (by decide)
              clear hok hno hto HOK
              have y0 := blk_cell KX9.out 0
              have y1 := blk_cell KX9.out 1
              have y2 := blk_cell KX9.out 2
              have y3 := blk_cell KX9.out 3
              have y4 := blk_cell KX9.out 4
              have y5 := blk_cell KX9.out 5
              have y6 := blk_cell KX9.out 6
              have y7 := blk_cell KX9.out 7
              go_wp2_with (first | ((with_reducible refine gate_ (.store 3 (.tmp 99) (.const (.int .i64 0))) rfl ?_); refine blk_store (j := 3) (cells' := #[.int .i64 11, .int .i64 d, .int .i64 (mea code a), .int .i64 0, .int .i64 loc, .int .i64 len, .int .i64 kk_, .int .i64 0]) KX9.out rfl rfl _ _ rfl 0 (mea code bb) rfl ?ha ?hx rfl ?_; (case ha => rfl); (case hx => rfl); intro w10 hk hg; have KX10 := Aside0.mk hk; have S10 := Aside0.mk (S9.out.grown hg hbx.out.1 hbx.out.2.1 hbx.out.2.2.1 hbx.out.2.2.2.1 hbx.out.2.2.2.2.1 hbx.out.2.2.2.2.2); clear hk hg; have y0 := blk_cell KX10.out 0; have y1 := blk_cell KX10.out 1; have y2 := blk_cell KX10.out 2; have y3 := blk_cell KX10.out 3; have y4 := blk_cell KX10.out 4; have y5 := blk_cell KX10.out 5; have y6 := blk_cell KX10.out 6; have y7 := blk_cell KX10.out 7) | (at_builtin; refine Kd.R_append k40 (w0 := w) w.heap.size rfl (.tmp 109) (.tmp 111) 22 40 (.agg #[.int .i64 0, .int .i64 0, .int .i64 0, .int .i64 0, .int .i64 0, .int .i64 0, .int .i64 0, .int .i64 0]) 64 rfl Try.underlying22 info40 rfl (by decide) (by omega) u11 (outL code i) (⟨11, d, (mea code a), 0, loc, len, kk_, 0⟩ : S40) [.int .i64 11, .int .i64 d, .int .i64 (mea code a), .int .i64 0, .int .i64 loc, .int .i64 len, .int .i64 kk_, .int .i64 0] (fun q => q ≠ b ∧ q ≠ gs ∧ q ≠ gm ∧ q ≠ ga) (fun _ => False) rfl rfl (k40_mkM _ _ _ ⟨11, d, (mea code a), 0, loc, len, kk_, 0⟩) (fun _ hk => hk.elim) ?aF S10.out.RO S10.out.K.HB S10.out.K.HB.size ?aL ?_; (case aF => intro k_ hk_; have h1_ := S10.out.K.lb; have h2_ := S10.out.K.ls; have h3_ := S10.out.K.lm; have h4_ := S10.out.la; omega); (case aL => have h1_ := outL_len code i; have h2_ := nsp_le code i; have h3_ := HLT.out; omega); intro v1 w20 h1 h2 h3 h4; have S20 := Aside0.mk (Ag.more S10.out h3 h2 h1); clear h1 h2 h3 h4))
              have eX : agI code ⟨11, d, a, bb, loc, len, kk_, 0⟩ = ⟨11, d, (mea code a), 0, loc, len, kk_, 0⟩ := by simp [agI, noA, noB]
              refine ⟨⟨i + 1, by rw [e1, ← HJ.out]; rfl, by have := HLT.out; omega, ⟨by rw [HO.out, eX]; exact S20.out⟩⟩, by have := HLT.out; have := HJ.out; simp [intOf]; omega⟩
            · skip
              obtain ⟨ht1, ht2⟩ := hto (by decide)
              have q1t : (tt < (code.length : Int)) = True := eq_true (by omega)
              have q0t : (0 ≤ tt) = True := eq_true (by omega)
              have c7 : (tt != 0) = true := bne_iff_ne.2 (by omega)
              have HTT : Aside0 (¬ tt = 0 ∧ tt.toNat < code.length) := ⟨by omega⟩
              clear ht1 ht2
              clear hok hno hto HOK
              have y0 := blk_cell KX9.out 0
              have y1 := blk_cell KX9.out 1
              have y2 := blk_cell KX9.out 2
              have y3 := blk_cell KX9.out 3
              have y4 := blk_cell KX9.out 4
              have y5 := blk_cell KX9.out 5
              have y6 := blk_cell KX9.out 6
              have y7 := blk_cell KX9.out 7
              have hca := (S9.out.ca_ tt (of_eq_true q0t) (of_eq_true q1t)).1
              rw [atL_at code tt.toNat HTT.out.2] at hca
              go_wp2_with (first | ((with_reducible refine gate_ (.store 3 (.tmp 108) (.tmp 107)) rfl ?_); refine blk_store (j := 7) (cells' := #[.int .i64 12, .int .i64 d, .int .i64 (mea code a), .int .i64 (mea code bb), .int .i64 loc, .int .i64 len, .int .i64 kk_, .int .i64 (nsp code tt.toNat : Int)]) KX9.out rfl rfl _ _ rfl (nsp code tt.toNat : Int) tt rfl ?ha ?hx rfl ?_; (case ha => rfl); (case hx => rfl); intro w10 hk hg; have KX10 := Aside0.mk hk; have S10 := Aside0.mk (S9.out.grown hg hbx.out.1 hbx.out.2.1 hbx.out.2.2.1 hbx.out.2.2.2.1 hbx.out.2.2.2.2.1 hbx.out.2.2.2.2.2); clear hk hg; have y0 := blk_cell KX10.out 0; have y1 := blk_cell KX10.out 1; have y2 := blk_cell KX10.out 2; have y3 := blk_cell KX10.out 3; have y4 := blk_cell KX10.out 4; have y5 := blk_cell KX10.out 5; have y6 := blk_cell KX10.out 6; have y7 := blk_cell KX10.out 7) | (at_builtin; refine Kd.R_append k40 (w0 := w) w.heap.size rfl (.tmp 109) (.tmp 111) 22 40 (.agg #[.int .i64 0, .int .i64 0, .int .i64 0, .int .i64 0, .int .i64 0, .int .i64 0, .int .i64 0, .int .i64 0]) 64 rfl Try.underlying22 info40 rfl (by decide) (by omega) u11 (outL code i) (⟨12, d, (mea code a), (mea code bb), loc, len, kk_, (nsp code tt.toNat : Int)⟩ : S40) [.int .i64 12, .int .i64 d, .int .i64 (mea code a), .int .i64 (mea code bb), .int .i64 loc, .int .i64 len, .int .i64 kk_, .int .i64 (nsp code tt.toNat : Int)] (fun q => q ≠ b ∧ q ≠ gs ∧ q ≠ gm ∧ q ≠ ga) (fun _ => False) rfl rfl (k40_mkM _ _ _ ⟨12, d, (mea code a), (mea code bb), loc, len, kk_, (nsp code tt.toNat : Int)⟩) (fun _ hk => hk.elim) ?aF S10.out.RO S10.out.K.HB S10.out.K.HB.size ?aL ?_; (case aF => intro k_ hk_; have h1_ := S10.out.K.lb; have h2_ := S10.out.K.ls; have h3_ := S10.out.K.lm; have h4_ := S10.out.la; omega); (case aL => have h1_ := outL_len code i; have h2_ := nsp_le code i; have h3_ := HLT.out; omega); intro v1 w20 h1 h2 h3 h4; have S20 := Aside0.mk (Ag.more S10.out h3 h2 h1); clear h1 h2 h3 h4))
              have eX : agI code ⟨12, d, a, bb, loc, len, kk_, tt⟩ = ⟨12, d, (mea code a), (mea code bb), loc, len, kk_, (nsp code tt.toNat : Int)⟩ := by simp [agI, noA, noB, HTT.out.1]
              refine ⟨⟨i + 1, by rw [e1, ← HJ.out]; rfl, by have := HLT.out; omega, ⟨by rw [HO.out, eX]; exact S20.out⟩⟩, by have := HLT.out; have := HJ.out; simp [intOf]; omega⟩
            · skip
              obtain rfl := hno (by decide)
              clear hok hno hto HOK
              have y0 := blk_cell KX9.out 0
              have y1 := blk_cell KX9.out 1
              have y2 := blk_cell KX9.out 2
              have y3 := blk_cell KX9.out 3
              have y4 := blk_cell KX9.out 4
              have y5 := blk_cell KX9.out 5
              have y6 := blk_cell KX9.out 6
              have y7 := blk_cell KX9.out 7
              go_wp2_with (first | ((with_reducible refine gate_ (.store 3 (.tmp 99) (.const (.int .i64 0))) rfl ?_); refine blk_store (j := 3) (cells' := #[.int .i64 13, .int .i64 d, .int .i64 (mea code a), .int .i64 0, .int .i64 loc, .int .i64 len, .int .i64 kk_, .int .i64 0]) KX9.out rfl rfl _ _ rfl 0 (mea code bb) rfl ?ha ?hx rfl ?_; (case ha => rfl); (case hx => rfl); intro w10 hk hg; have KX10 := Aside0.mk hk; have S10 := Aside0.mk (S9.out.grown hg hbx.out.1 hbx.out.2.1 hbx.out.2.2.1 hbx.out.2.2.2.1 hbx.out.2.2.2.2.1 hbx.out.2.2.2.2.2); clear hk hg; have y0 := blk_cell KX10.out 0; have y1 := blk_cell KX10.out 1; have y2 := blk_cell KX10.out 2; have y3 := blk_cell KX10.out 3; have y4 := blk_cell KX10.out 4; have y5 := blk_cell KX10.out 5; have y6 := blk_cell KX10.out 6; have y7 := blk_cell KX10.out 7) | (at_builtin; refine Kd.R_append k40 (w0 := w) w.heap.size rfl (.tmp 109) (.tmp 111) 22 40 (.agg #[.int .i64 0, .int .i64 0, .int .i64 0, .int .i64 0, .int .i64 0, .int .i64 0, .int .i64 0, .int .i64 0]) 64 rfl Try.underlying22 info40 rfl (by decide) (by omega) u11 (outL code i) (⟨13, d, (mea code a), 0, loc, len, kk_, 0⟩ : S40) [.int .i64 13, .int .i64 d, .int .i64 (mea code a), .int .i64 0, .int .i64 loc, .int .i64 len, .int .i64 kk_, .int .i64 0] (fun q => q ≠ b ∧ q ≠ gs ∧ q ≠ gm ∧ q ≠ ga) (fun _ => False) rfl rfl (k40_mkM _ _ _ ⟨13, d, (mea code a), 0, loc, len, kk_, 0⟩) (fun _ hk => hk.elim) ?aF S10.out.RO S10.out.K.HB S10.out.K.HB.size ?aL ?_; (case aF => intro k_ hk_; have h1_ := S10.out.K.lb; have h2_ := S10.out.K.ls; have h3_ := S10.out.K.lm; have h4_ := S10.out.la; omega); (case aL => have h1_ := outL_len code i; have h2_ := nsp_le code i; have h3_ := HLT.out; omega); intro v1 w20 h1 h2 h3 h4; have S20 := Aside0.mk (Ag.more S10.out h3 h2 h1); clear h1 h2 h3 h4))
              have eX : agI code ⟨13, d, a, bb, loc, len, kk_, 0⟩ = ⟨13, d, (mea code a), 0, loc, len, kk_, 0⟩ := by simp [agI, noA, noB]
              refine ⟨⟨i + 1, by rw [e1, ← HJ.out]; rfl, by have := HLT.out; omega, ⟨by rw [HO.out, eX]; exact S20.out⟩⟩, by have := HLT.out; have := HJ.out; simp [intOf]; omega⟩
            · skip
              obtain rfl := hno (by decide)
              clear hok hno hto HOK
              have y0 := blk_cell KX9.out 0
              have y1 := blk_cell KX9.out 1
              have y2 := blk_cell KX9.out 2
              have y3 := blk_cell KX9.out 3
              have y4 := blk_cell KX9.out 4
              have y5 := blk_cell KX9.out 5
              have y6 := blk_cell KX9.out 6
              have y7 := blk_cell KX9.out 7
              go_wp2_with (first | (at_builtin; refine Kd.R_append k40 (w0 := w) w.heap.size rfl (.tmp 109) (.tmp 111) 22 40 (.agg #[.int .i64 0, .int .i64 0, .int .i64 0, .int .i64 0, .int .i64 0, .int .i64 0, .int .i64 0, .int .i64 0]) 64 rfl Try.underlying22 info40 rfl (by decide) (by omega) u11 (outL code i) (⟨14, d, (mea code a), (mea code bb), loc, len, kk_, 0⟩ : S40) [.int .i64 14, .int .i64 d, .int .i64 (mea code a), .int .i64 (mea code bb), .int .i64 loc, .int .i64 len, .int .i64 kk_, .int .i64 0] (fun q => q ≠ b ∧ q ≠ gs ∧ q ≠ gm ∧ q ≠ ga) (fun _ => False) rfl rfl (k40_mkM _ _ _ ⟨14, d, (mea code a), (mea code bb), loc, len, kk_, 0⟩) (fun _ hk => hk.elim) ?aF S9.out.RO S9.out.K.HB S9.out.K.HB.size ?aL ?_; (case aF => intro k_ hk_; have h1_ := S9.out.K.lb; have h2_ := S9.out.K.ls; have h3_ := S9.out.K.lm; have h4_ := S9.out.la; omega); (case aL => have h1_ := outL_len code i; have h2_ := nsp_le code i; have h3_ := HLT.out; omega); intro v1 w20 h1 h2 h3 h4; have S20 := Aside0.mk (Ag.more S9.out h3 h2 h1); clear h1 h2 h3 h4))
              have eX : agI code ⟨14, d, a, bb, loc, len, kk_, 0⟩ = ⟨14, d, (mea code a), (mea code bb), loc, len, kk_, 0⟩ := by simp [agI, noA, noB]
              refine ⟨⟨i + 1, by rw [e1, ← HJ.out]; rfl, by have := HLT.out; omega, ⟨by rw [HO.out, eX]; exact S20.out⟩⟩, by have := HLT.out; have := HJ.out; simp [intOf]; omega⟩
            · skip
              obtain rfl := hno (by decide)
              clear hok hno hto HOK
              have y0 := blk_cell KX9.out 0
              have y1 := blk_cell KX9.out 1
              have y2 := blk_cell KX9.out 2
              have y3 := blk_cell KX9.out 3
              have y4 := blk_cell KX9.out 4
              have y5 := blk_cell KX9.out 5
              have y6 := blk_cell KX9.out 6
              have y7 := blk_cell KX9.out 7
              go_wp2_with (first | ((with_reducible refine gate_ (.store 3 (.tmp 99) (.const (.int .i64 0))) rfl ?_); refine blk_store (j := 3) (cells' := #[.int .i64 15, .int .i64 d, .int .i64 (mea code a), .int .i64 0, .int .i64 loc, .int .i64 len, .int .i64 kk_, .int .i64 0]) KX9.out rfl rfl _ _ rfl 0 (mea code bb) rfl ?ha ?hx rfl ?_; (case ha => rfl); (case hx => rfl); intro w10 hk hg; have KX10 := Aside0.mk hk; have S10 := Aside0.mk (S9.out.grown hg hbx.out.1 hbx.out.2.1 hbx.out.2.2.1 hbx.out.2.2.2.1 hbx.out.2.2.2.2.1 hbx.out.2.2.2.2.2); clear hk hg; have y0 := blk_cell KX10.out 0; have y1 := blk_cell KX10.out 1; have y2 := blk_cell KX10.out 2; have y3 := blk_cell KX10.out 3; have y4 := blk_cell KX10.out 4; have y5 := blk_cell KX10.out 5; have y6 := blk_cell KX10.out 6; have y7 := blk_cell KX10.out 7) | (at_builtin; refine Kd.R_append k40 (w0 := w) w.heap.size rfl (.tmp 109) (.tmp 111) 22 40 (.agg #[.int .i64 0, .int .i64 0, .int .i64 0, .int .i64 0, .int .i64 0, .int .i64 0, .int .i64 0, .int .i64 0]) 64 rfl Try.underlying22 info40 rfl (by decide) (by omega) u11 (outL code i) (⟨15, d, (mea code a), 0, loc, len, kk_, 0⟩ : S40) [.int .i64 15, .int .i64 d, .int .i64 (mea code a), .int .i64 0, .int .i64 loc, .int .i64 len, .int .i64 kk_, .int .i64 0] (fun q => q ≠ b ∧ q ≠ gs ∧ q ≠ gm ∧ q ≠ ga) (fun _ => False) rfl rfl (k40_mkM _ _ _ ⟨15, d, (mea code a), 0, loc, len, kk_, 0⟩) (fun _ hk => hk.elim) ?aF S10.out.RO S10.out.K.HB S10.out.K.HB.size ?aL ?_; (case aF => intro k_ hk_; have h1_ := S10.out.K.lb; have h2_ := S10.out.K.ls; have h3_ := S10.out.K.lm; have h4_ := S10.out.la; omega); (case aL => have h1_ := outL_len code i; have h2_ := nsp_le code i; have h3_ := HLT.out; omega); intro v1 w20 h1 h2 h3 h4; have S20 := Aside0.mk (Ag.more S10.out h3 h2 h1); clear h1 h2 h3 h4))
              have eX : agI code ⟨15, d, a, bb, loc, len, kk_, 0⟩ = ⟨15, d, (mea code a), 0, loc, len, kk_, 0⟩ := by simp [agI, noA, noB]
              refine ⟨⟨i + 1, by rw [e1, ← HJ.out]; rfl, by have := HLT.out; omega, ⟨by rw [HO.out, eX]; exact S20.out⟩⟩, by have := HLT.out; have := HJ.out; simp [intOf]; omega⟩
            · skip
              obtain ⟨ht1, ht2⟩ := hto (by decide)
              have q1t : (tt < (code.length : Int)) = True := eq_true (by omega)
              have q0t : (0 ≤ tt) = True := eq_true (by omega)
              have c7 : (tt != 0) = true := bne_iff_ne.2 (by omega)
              have HTT : Aside0 (¬ tt = 0 ∧ tt.toNat < code.length) := ⟨by omega⟩
              clear ht1 ht2
              clear hok hno hto HOK
              have y0 := blk_cell KX9.out 0
              have y1 := blk_cell KX9.out 1
              have y2 := blk_cell KX9.out 2
              have y3 := blk_cell KX9.out 3
              have y4 := blk_cell KX9.out 4
              have y5 := blk_cell KX9.out 5
              have y6 := blk_cell KX9.out 6
              have y7 := blk_cell KX9.out 7
              have hca := (S9.out.ca_ tt (of_eq_true q0t) (of_eq_true q1t)).1
              rw [atL_at code tt.toNat HTT.out.2] at hca
              go_wp2_with (first | ((with_reducible refine gate_ (.store 3 (.tmp 108) (.tmp 107)) rfl ?_); refine blk_store (j := 7) (cells' := #[.int .i64 16, .int .i64 d, .int .i64 (mea code a), .int .i64 (mea code bb), .int .i64 loc, .int .i64 len, .int .i64 kk_, .int .i64 (nsp code tt.toNat : Int)]) KX9.out rfl rfl _ _ rfl (nsp code tt.toNat : Int) tt rfl ?ha ?hx rfl ?_; (case ha => rfl); (case hx => rfl); intro w10 hk hg; have KX10 := Aside0.mk hk; have S10 := Aside0.mk (S9.out.grown hg hbx.out.1 hbx.out.2.1 hbx.out.2.2.1 hbx.out.2.2.2.1 hbx.out.2.2.2.2.1 hbx.out.2.2.2.2.2); clear hk hg; have y0 := blk_cell KX10.out 0; have y1 := blk_cell KX10.out 1; have y2 := blk_cell KX10.out 2; have y3 := blk_cell KX10.out 3; have y4 := blk_cell KX10.out 4; have y5 := blk_cell KX10.out 5; have y6 := blk_cell KX10.out 6; have y7 := blk_cell KX10.out 7) | (at_builtin; refine Kd.R_append k40 (w0 := w) w.heap.size rfl (.tmp 109) (.tmp 111) 22 40 (.agg #[.int .i64 0, .int .i64 0, .int .i64 0, .int .i64 0, .int .i64 0, .int .i64 0, .int .i64 0, .int .i64 0]) 64 rfl Try.underlying22 info40 rfl (by decide) (by omega) u11 (outL code i) (⟨16, d, (mea code a), (mea code bb), loc, len, kk_, (nsp code tt.toNat : Int)⟩ : S40) [.int .i64 16, .int .i64 d, .int .i64 (mea code a), .int .i64 (mea code bb), .int .i64 loc, .int .i64 len, .int .i64 kk_, .int .i64 (nsp code tt.toNat : Int)] (fun q => q ≠ b ∧ q ≠ gs ∧ q ≠ gm ∧ q ≠ ga) (fun _ => False) rfl rfl (k40_mkM _ _ _ ⟨16, d, (mea code a), (mea code bb), loc, len, kk_, (nsp code tt.toNat : Int)⟩) (fun _ hk => hk.elim) ?aF S10.out.RO S10.out.K.HB S10.out.K.HB.size ?aL ?_; (case aF => intro k_ hk_; have h1_ := S10.out.K.lb; have h2_ := S10.out.K.ls; have h3_ := S10.out.K.lm; have h4_ := S10.out.la; omega); (case aL => have h1_ := outL_len code i; have h2_ := nsp_le code i; have h3_ := HLT.out; omega); intro v1 w20 h1 h2 h3 h4; have S20 := Aside0.mk (Ag.more S10.out h3 h2 h1); clear h1 h2 h3 h4))
              have eX : agI code ⟨16, d, a, bb, loc, len, kk_, tt⟩ = ⟨16, d, (mea code a), (mea code bb), loc, len, kk_, (nsp code tt.toNat : Int)⟩ := by simp [agI, noA, noB, HTT.out.1]
              refine ⟨⟨i + 1, by rw [e1, ← HJ.out]; rfl, by have := HLT.out; omega, ⟨by rw [HO.out, eX]; exact S20.out⟩⟩, by have := HLT.out; have := HJ.out; simp [intOf]; omega⟩
            · skip
              obtain ⟨ht1, ht2⟩ := hto (by decide)
              have q1t : (tt < (code.length : Int)) = True := eq_true (by omega)
              have q0t : (0 ≤ tt) = True := eq_true (by omega)
              have c7 : (tt != 0) = true := bne_iff_ne.2 (by omega)
              have HTT : Aside0 (¬ tt = 0 ∧ tt.toNat < code.length) := ⟨by omega⟩
              clear ht1 ht2
              clear hok hno hto HOK
              have y0 := blk_cell KX9.out 0
              have y1 := blk_cell KX9.out 1
              have y2 := blk_cell KX9.out 2
              have y3 := blk_cell KX9.out 3
              have y4 := blk_cell KX9.out 4
              have y5 := blk_cell KX9.out 5
              have y6 := blk_cell KX9.out 6
              have y7 := blk_cell KX9.out 7
              have hca := (S9.out.ca_ tt (of_eq_true q0t) (of_eq_true q1t)).1
              rw [atL_at code tt.toNat HTT.out.2] at hca
              go_wp2_with (first | ((with_reducible refine gate_ (.store 3 (.tmp 108) (.tmp 107)) rfl ?_); refine blk_store (j := 7) (cells' := #[.int .i64 17, .int .i64 d, .int .i64 (mea code a), .int .i64 (mea code bb), .int .i64 loc, .int .i64 len, .int .i64 kk_, .int .i64 (nsp code tt.toNat : Int)]) KX9.out rfl rfl _ _ rfl (nsp code tt.toNat : Int) tt rfl ?ha ?hx rfl ?_; (case ha => rfl); (case hx => rfl); intro w10 hk hg; have KX10 := Aside0.mk hk; have S10 := Aside0.mk (S9.out.grown hg hbx.out.1 hbx.out.2.1 hbx.out.2.2.1 hbx.out.2.2.2.1 hbx.out.2.2.2.2.1 hbx.out.2.2.2.2.2); clear hk hg; have y0 := blk_cell KX10.out 0; have y1 := blk_cell KX10.out 1; have y2 := blk_cell KX10.out 2; have y3 := blk_cell KX10.out 3; have y4 := blk_cell KX10.out 4; have y5 := blk_cell KX10.out 5; have y6 := blk_cell KX10.out 6; have y7 := blk_cell KX10.out 7) | (at_builtin; refine Kd.R_append k40 (w0 := w) w.heap.size rfl (.tmp 109) (.tmp 111) 22 40 (.agg #[.int .i64 0, .int .i64 0, .int .i64 0, .int .i64 0, .int .i64 0, .int .i64 0, .int .i64 0, .int .i64 0]) 64 rfl Try.underlying22 info40 rfl (by decide) (by omega) u11 (outL code i) (⟨17, d, (mea code a), (mea code bb), loc, len, kk_, (nsp code tt.toNat : Int)⟩ : S40) [.int .i64 17, .int .i64 d, .int .i64 (mea code a), .int .i64 (mea code bb), .int .i64 loc, .int .i64 len, .int .i64 kk_, .int .i64 (nsp code tt.toNat : Int)] (fun q => q ≠ b ∧ q ≠ gs ∧ q ≠ gm ∧ q ≠ ga) (fun _ => False) rfl rfl (k40_mkM _ _ _ ⟨17, d, (mea code a), (mea code bb), loc, len, kk_, (nsp code tt.toNat : Int)⟩) (fun _ hk => hk.elim) ?aF S10.out.RO S10.out.K.HB S10.out.K.HB.size ?aL ?_; (case aF => intro k_ hk_; have h1_ := S10.out.K.lb; have h2_ := S10.out.K.ls; have h3_ := S10.out.K.lm; have h4_ := S10.out.la; omega); (case aL => have h1_ := outL_len code i; have h2_ := nsp_le code i; have h3_ := HLT.out; omega); intro v1 w20 h1 h2 h3 h4; have S20 := Aside0.mk (Ag.more S10.out h3 h2 h1); clear h1 h2 h3 h4))
              have eX : agI code ⟨17, d, a, bb, loc, len, kk_, tt⟩ = ⟨17, d, (mea code a), (mea code bb), loc, len, kk_, (nsp code tt.toNat : Int)⟩ := by simp [agI, noA, noB, HTT.out.1]
              refine ⟨⟨i + 1, by rw [e1, ← HJ.out]; rfl, by have := HLT.out; omega, ⟨by rw [HO.out, eX]; exact S20.out⟩⟩, by have := HLT.out; have := HJ.out; simp [intOf]; omega⟩
            · skip
              obtain rfl := hno (by decide)
              clear hok hno hto HOK
              have y0 := blk_cell KX9.out 0
              have y1 := blk_cell KX9.out 1
              have y2 := blk_cell KX9.out 2
              have y3 := blk_cell KX9.out 3
              have y4 := blk_cell KX9.out 4
              have y5 := blk_cell KX9.out 5
              have y6 := blk_cell KX9.out 6
              have y7 := blk_cell KX9.out 7
              go_wp2_with (first | ((with_reducible refine gate_ (.store 3 (.tmp 88) (.const (.int .i64 0))) rfl ?_); refine blk_store (j := 2) (cells' := #[.int .i64 18, .int .i64 d, .int .i64 0, .int .i64 (mea code bb), .int .i64 loc, .int .i64 len, .int .i64 kk_, .int .i64 0]) KX9.out rfl rfl _ _ rfl 0 (mea code a) rfl ?ha ?hx rfl ?_; (case ha => rfl); (case hx => rfl); intro w10 hk hg; have KX10 := Aside0.mk hk; have S10 := Aside0.mk (S9.out.grown hg hbx.out.1 hbx.out.2.1 hbx.out.2.2.1 hbx.out.2.2.2.1 hbx.out.2.2.2.2.1 hbx.out.2.2.2.2.2); clear hk hg; have y0 := blk_cell KX10.out 0; have y1 := blk_cell KX10.out 1; have y2 := blk_cell KX10.out 2; have y3 := blk_cell KX10.out 3; have y4 := blk_cell KX10.out 4; have y5 := blk_cell KX10.out 5; have y6 := blk_cell KX10.out 6; have y7 := blk_cell KX10.out 7) | ((with_reducible refine gate_ (.store 3 (.tmp 89) (.const (.int .i64 0))) rfl ?_); refine blk_store (j := 3) (cells' := #[.int .i64 18, .int .i64 d, .int .i64 0, .int .i64 0, .int .i64 loc, .int .i64 len, .int .i64 kk_, .int .i64 0]) KX10.out rfl rfl _ _ rfl 0 (mea code bb) rfl ?ha ?hx rfl ?_; (case ha => rfl); (case hx => rfl); intro w11 hk hg; have KX11 := Aside0.mk hk; have S11 := Aside0.mk (S10.out.grown hg hbx.out.1 hbx.out.2.1 hbx.out.2.2.1 hbx.out.2.2.2.1 hbx.out.2.2.2.2.1 hbx.out.2.2.2.2.2); clear hk hg; have y0 := blk_cell KX11.out 0; have y1 := blk_cell KX11.out 1; have y2 := blk_cell KX11.out 2; have y3 := blk_cell KX11.out 3; have y4 := blk_cell KX11.out 4; have y5 := blk_cell KX11.out 5; have y6 := blk_cell KX11.out 6; have y7 := blk_cell KX11.out 7) | (at_builtin; refine Kd.R_append k40 (w0 := w) w.heap.size rfl (.tmp 109) (.tmp 111) 22 40 (.agg #[.int .i64 0, .int .i64 0, .int .i64 0, .int .i64 0, .int .i64 0, .int .i64 0, .int .i64 0, .int .i64 0]) 64 rfl Try.underlying22 info40 rfl (by decide) (by omega) u11 (outL code i) (⟨18, d, 0, 0, loc, len, kk_, 0⟩ : S40) [.int .i64 18, .int .i64 d, .int .i64 0, .int .i64 0, .int .i64 loc, .int .i64 len, .int .i64 kk_, .int .i64 0] (fun q => q ≠ b ∧ q ≠ gs ∧ q ≠ gm ∧ q ≠ ga) (fun _ => False) rfl rfl (k40_mkM _ _ _ ⟨18, d, 0, 0, loc, len, kk_, 0⟩) (fun _ hk => hk.elim) ?aF S11.out.RO S11.out.K.HB S11.out.K.HB.size ?aL ?_; (case aF => intro k_ hk_; have h1_ := S11.out.K.lb; have h2_ := S11.out.K.ls; have h3_ := S11.out.K.lm; have h4_ := S11.out.la; omega); (case aL => have h1_ := outL_len code i; have h2_ := nsp_le code i; have h3_ := HLT.out; omega); intro v1 w20 h1 h2 h3 h4; have S20 := Aside0.mk (Ag.more S11.out h3 h2 h1); clear h1 h2 h3 h4))
              have eX : agI code ⟨18, d, a, bb, loc, len, kk_, 0⟩ = ⟨18, d, 0, 0, loc, len, kk_, 0⟩ := by simp [agI, noA, noB]
              refine ⟨⟨i + 1, by rw [e1, ← HJ.out]; rfl, by have := HLT.out; omega, ⟨by rw [HO.out, eX]; exact S20.out⟩⟩, by have := HLT.out; have := HJ.out; simp [intOf]; omega⟩
          · as_aux_lemma =>
              have HSP := Aside0.mk hsp
              have HO : Aside0 (outL code (i + 1) = outL code i) := ⟨by simp [outL, hsp]⟩
              clear hok hno hlo hb1 hb2 hb3 hto hsp
              have S7 := Aside0.mk (S6.out.alloc (.cells #[.int .i64 (ins code i).f0, .int .i64 (ins code i).f1, .int .i64 (ins code i).f2, .int .i64 (ins code i).f3, .int .i64 (ins code i).f4, .int .i64 (ins code i).f5, .int .i64 (ins code i).f6, .int .i64 (ins code i).f7] 40))
              have b1 := S7.out.K.c1
              have hc3 := (S7.out.K.cs_ j (of_eq_true q0) (of_eq_true q1)).1
              rw [show (spL code).getD j.toNat false = true by rw [HJN.out, HS.out, HSP.out]] at hc3
              go_wp2
              refine ⟨⟨i + 1, by rw [e1, ← HJ.out]; rfl, by have := HLT.out; omega, ⟨by rw [HO.out]; exact S7.out⟩⟩, by have := HLT.out; have := HJ.out; simp [intOf]; omega⟩
        · obtain rfl : i = code.length := by omega
          have c4 : decide ((code.length : Int) < (code.length : Int)) = false := decide_eq_false (by omega)
          go_wp2
          go_ret2
          exact ⟨_, rfl, Kd.R_mono S6.out.RO (fun _ _ => trivial), S6.out.K.HB⟩
theorem again_any (A : Option Addr) (c : Nat) (code : List S40) (Al : Option Addr) (cl : Nat) (l : List S80) (w : World) (hr : Kd.C k40 w A code.length code) (hc : code.length ≤ c) (hrl : Kd.C k80 w Al l.length l) (hcl : l.length ≤ cl) (hl : l.length ≤ 1000) :
    Calls Try.prog 26 #[.slice A code.length c, .slice Al l.length cl] w fun e w' => ∃ v, e = .returned (.tuple #[v, .int .i64 (agA code l).2]) ∧ Kd.R k40 40 w' w.heap.size (fun _ => True) v (agA code l).1 ∧ Below w.heap.size w w' := by
  unfold agA
  cases hR : right code l
  · exact again_wrong A c code Al cl l w hr hc hrl hcl hl hR
  · exact again_right A c code Al cl l w hr hc hrl hcl hl hR
end Go.Proofs.Ytdmbnlpcfgphpaa.Q
