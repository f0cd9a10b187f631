/- The contract of the law TreeNames. -/
import Derived.Test.YtdmbnlpcfgphpaaPnm
import Derived.Test.YtdmbnlpcfgphpaaPsame
import Derived.Test.YtdmbnlpcfgphpaaPmore
import Derived.Test.YtdmbnlpcfgphpaaQx9
import Derived.Test.YtdmbnlpcfgphpaaQx15
import Derived.Test.YtdmbnlpcfgphpaaQx16
import Derived.Test.YtdmbnlpcfgphpaaPln
namespace Go.Proofs.Ytdmbnlpcfgphpaa.Q
open Go.RowKit Go.Proofs.YtdmbnlpcfgphpaaW.PrintWords Go.Proofs.YtdmbnlpcfgphpaaW.PrintLast Go.Proofs.YtdmbnlpcfgphpaaW.PrintMore
set_option linter.unusedVariables false
set_option linter.unusedSimpArgs false
theorem awake_any (w : World) : Calls Try.prog 11 #[] w fun e w' => e = .returned (.bool true) ∧ Below w.heap.size w w' := selvagelaw10_awake.calls 10 true w (by kernel_rfl)
theorem copy_any (A : Option Addr) (c : Nat) (code : List S40) (w : World) (hr : Kd.C k40 w A code.length code) (hc : code.length ≤ c) (hn : code.length ≤ 400) :
    Calls Try.prog 12 #[.slice A code.length c] w fun e w' => ∃ v, e = .returned v ∧ Kd.R k40 40 w' w.heap.size (fun _ => True) v code ∧ Below w.heap.size w w' :=
  selvageref10_Copy.calls A c code code w hr hc (by unfold selvageref10_Copy.f; rw [Option.bind_some, if_pos (by simp; omega), List.nil_append])
theorem by_bd (turn : Int) : 0 ≤ wrap64 ((IntKind.u64.wrap turn).tmod 400) ∧ wrap64 ((IntKind.u64.wrap turn).tmod 400) < 400 := by
  have h : 0 ≤ IntKind.u64.wrap turn := by
    simp only [IntKind.wrap]
    first | (simp; omega) | omega | (apply Int.emod_nonneg; decide)
  have h1 : (IntKind.u64.wrap turn).tmod 400 = (IntKind.u64.wrap turn) % 400 := Int.tmod_eq_emod_of_nonneg h
  rw [h1, wrap_of (by omega) (by omega)]
  omega
def mix (b : Int) (code : List S40) (i : Nat) : List S40 := (code.take i).map (rnI b) ++ code.drop i
theorem mix_len (b : Int) (code : List S40) (i : Nat) : (mix b code i).length = code.length := by
  unfold mix; rw [List.length_append, List.length_map, List.length_take, List.length_drop]; omega
theorem mix_zero (b : Int) (code : List S40) : mix b code 0 = code := rfl
theorem mix_all (b : Int) (code : List S40) : mix b code code.length = rnC b code := by
  unfold mix rnC; rw [List.take_length, List.drop_length, List.append_nil]
theorem mix_at {b : Int} {code : List S40} {i : Nat} (hi : i < code.length) : (mix b code i)[i]? = some (ins code i) := by
  unfold mix ins
  rw [List.getElem?_append_right (by rw [List.length_map, List.length_take]; omega), List.length_map, List.length_take, show i - min i code.length = 0 by omega, List.getElem?_drop, Nat.add_zero, List.getD_eq_getElem?_getD, List.getElem?_eq_getElem hi]
  rfl
theorem mix_succ {b : Int} {code : List S40} {i : Nat} (hi : i < code.length) : (mix b code i).set i (rnI b (ins code i)) = mix b code (i + 1) := by
  unfold mix
  rw [List.set_append_right _ _ (by rw [List.length_map, List.length_take]; omega), List.length_map, List.length_take, show i - min i code.length = 0 by omega, List.drop_eq_getElem_cons hi, List.set_cons_zero, List.take_succ_eq_append_getElem hi, List.map_append, List.append_assoc]
  simp [ins, hi]
theorem has_lit {o c : Int} {b : Bool} (w : World) (h : hck c = true) (e : hsv o c = b) : Calls Try.prog 20 #[.int .i64 o, .int .u8 c] w fun e w' => e = .returned (.bool b) ∧ ∃ n, w' = w.drewN n := by
  subst e
  exact has_any o c w h
theorem size3n : (Try.prog.info? 3).map (·.size) = some 1 := by kernel_rfl
def row40 (x : S40) : List Value := [.int .i64 x.f0, .int .i64 x.f1, .int .i64 x.f2, .int .i64 x.f3, .int .i64 x.f4, .int .i64 x.f5, .int .i64 x.f6, .int .i64 x.f7]
theorem cells40 {W : World} {base g n cap : Nat} {ok : Nat → Prop} {xs : List S40} {x : S40} {i : Nat} (h : Kd.R k40 40 W base ok (.slice (some ⟨g, 0, none⟩) n cap) xs) (hx : xs[i]? = some x) : ∀ j u, (row40 x)[j]? = some u → W.cell? ⟨g, i * 8 + j, none⟩ = some u := by
  obtain ⟨hn, hc, hC⟩ := Kd.R_reads' h
  have hi : i < xs.length := by
    rcases Nat.lt_or_ge i xs.length with h1 | h1
    · exact h1
    · rw [List.getElem?_eq_none h1] at hx; cases hx
  obtain ⟨ad, c, e, _, hK, hcc⟩ := Kd.C_get hC z40 (i : Int) (by omega) (by omega)
  have ex : xs.getD ((i : Int)).toNat z40 = x := by rw [Int.toNat_natCast, List.getD_eq_getElem?_getD, hx]; rfl
  rw [ex] at hK
  obtain rfl := k40_open hK
  cases e
  intro j u hu
  have h9 := hcc j u hu
  have e8 : (⟨g, 0, none⟩ : Addr).add (((i : Int)).toNat * k40.sz + j) = ⟨g, i * 8 + j, none⟩ := by rw [add_plain]; rfl
  rw [e8] at h9
  exact h9
section
variable {ops : Array Oper} {rest : List Oper} {o : Oper} {a : Act} {Q : Exit → Act → World → Prop}
/-- A store into a field of a piece in a row of one's own. -/
theorem fld_store {w W : World} {g cap n i : Nat} {xs : List S40} {x x' : S40} {v : Int} (j : Nat) (hN : o.dst = none) (hgd : o.guard = none) (p y : Operand) (ho : o.op = .store 3 p y) (haddr : a.eval p = .pointer (some ⟨g, i * 8 + j, none⟩)) (hy : a.eval y = .int .i64 v)
    (HO : Kd.R k40 40 W w.heap.size (fun _ => True) (.slice (some ⟨g, 0, none⟩) n cap) xs) (hi : i < n) (hx : xs[i]? = some x) (hj : j < 8) (hrow : (row40 x).take j ++ [.int .i64 v] ++ (row40 x).drop (j + 1) = row40 x') (HB : Below w.heap.size w W)
    (h : ∀ w1, Kd.R k40 40 w1 w.heap.size (fun _ => True) (.slice (some ⟨g, 0, none⟩) n cap) (xs.set i x') → Below w.heap.size w w1 → (xs.set i x')[i]? = some x' → wpList Try.prog ops Q rest a w1) : wpList Try.prog ops Q (o :: rest) a W := by
  have hin : i < xs.length := by
    rcases Nat.lt_or_ge i xs.length with h1 | h1
    · exact h1
    · rw [List.getElem?_eq_none h1] at hx; cases hx
  refine Kd.R_store k40 (w0 := w) w.heap.size hN hgd 3 p y ho 40 (i : Int) j xs x' (.int .i64 v) [.int .i64 v] (row40 x) (fun _ => True) (fun _ => False) haddr (by rw [Int.toNat_natCast]; rfl) hy rfl size3n (by intro q hq; simp at hq; subst hq; rfl) HO (by omega) (by omega) rfl (by rw [Int.toNat_natCast]; exact cells40 HO hx) hj ?_ (fun _ h => h.elim) HB ?_
  · show k40.M W w.heap.size (fun _ => False) x' ((row40 x).take j ++ [.int .i64 v] ++ (row40 x).drop (j + 1))
    rw [hrow]
    exact k40_mkM _ _ _ x'
  · intro w1 hR hB _
    rw [Int.toNat_natCast] at hR
    exact h w1 hR hB (by rw [List.getElem?_set_self hin])
end
theorem get_set40 {xs : List S40} {i : Nat} {x y : S40} (hx : xs[i]? = some x) : (xs.set i y)[i]? = some y := by
  have hin : i < xs.length := by
    rcases Nat.lt_or_ge i xs.length with h1 | h1
    · exact h1
    · rw [List.getElem?_eq_none h1] at hx; cases hx
  rw [List.getElem?_set_self hin]
theorem set_same40 {xs : List S40} {i : Nat} {x : S40} (hx : xs[i]? = some x) : xs.set i x = xs := by
  apply List.ext_getElem?
  intro j
  by_cases h : i = j
  · subst h
    have := get_set40 (y := x) hx
    rw [this, hx]
  · rw [List.getElem?_set_ne h]
theorem right_copy {B : Int} (A : Option Addr) (c : Nat) (code : List S40) (Al : Option Addr) (cl : Nat) (l : List S80) (w : World) (hr : Kd.C k40 w A code.length (rnC B code)) (hc : code.length ≤ c) (hrl : Kd.C k80 w Al l.length l) (hcl : l.length ≤ cl) (hl : l.length ≤ 1000) (hR : right code l = true) :
    Calls Try.prog 13 #[.slice A code.length c, .slice Al l.length cl] w fun e w' => e = .returned (.bool true) ∧ Below w.heap.size w w' := by
  have e1 := rnC_len B code
  have h := right_any A c (rnC B code) Al cl l w (by rw [e1]; exact hr) (by rw [e1]; exact hc) hrl hcl hl
  rw [e1, right_rn hR] at h
  exact h
theorem run_copy {B : Int} (A : Option Addr) (c : Nat) (code : List S40) (Al : Option Addr) (cl : Nat) (l : List S80) (An : Option Addr) (cn : Nat) (answers : List Int) (w : World) (hr : Kd.C k40 w A code.length (rnC B code)) (hc : code.length ≤ c) (hrl : Kd.C k80 w Al l.length l) (hcl : l.length ≤ cl) (hl : l.length ≤ 1000) (hra : (Kd.int .i64).C w An answers.length answers) (hca : answers.length ≤ cn) (hR : right code l = true) :
    Calls Try.prog 16 #[.slice A code.length c, .slice Al l.length cl, .slice An answers.length cn] w (RunEnd (runAll code l answers) w) := by
  have e1 := rnC_len B code
  have h := run_right A c (rnC B code) Al cl l An cn answers w (by rw [e1]; exact hr) (by rw [e1]; exact hc) hrl hcl hl hra hca (right_rn hR)
  rw [e1, runAll_rn hR] at h
  exact h
theorem trace_two (code : List S40) (l : List S80) (answers : List Int) (v1 v2 : Value) (b1 : Nat) (w1 w2 : World) (h1 : Kd.R k47 47 w1 b1 (fun _ => True) v1 (runAll code l answers).1) (hb : Below w1.heap.size w1 w2) (h2 : Kd.R k47 47 w2 w1.heap.size (fun _ => True) v2 (runAll code l answers).1) :
    Calls Try.prog 15 #[.agg #[v1, .int .i64 (runAll code l answers).2], .agg #[v2, .int .i64 (runAll code l answers).2]] w2 fun e w' => e = .returned (.bool true) ∧ Below w2.heap.size w2 w' := by
  have hn := runAll_len code l answers
  obtain ⟨A1, c1, rfl⟩ := Kd.R_slice h1
  obtain ⟨A2, c2, rfl⟩ := Kd.R_slice h2
  obtain ⟨_, hc1, hC1⟩ := Kd.R_reads' h1
  obtain ⟨_, hc2, hC2⟩ := Kd.R_reads' h2
  exact selvageref08_SameTrace.calls 500 A1 c1 _ _ A2 c2 _ _ true w2 (Kd.C_below hC1 hb) hc1 hC2 hc2 (trace_self _ _ (by omega) _ (by omega))
theorem nm_fact {b t : Int} (hb0 : 0 ≤ b) (hb1 : b < 400) (ht : 0 ≤ t ∧ t < 400) : wrap64 (t + b) = t + b ∧ (t + b).tmod 400 = nm b t := by
  refine ⟨by rw [wrap_of (by omega) (by omega)], ?_⟩
  unfold nm
  exact Int.tmod_eq_emod_of_nonneg (by omega)
set_option maxHeartbeats 8000000 in
set_option maxRecDepth 100000 in
theorem names_any (A : Option Addr) (c : Nat) (code : List S40) (Al : Option Addr) (cl : Nat) (l : List S80) (An : Option Addr) (cn : Nat) (answers : List Int) (turn : Int) (w : World) (hr : Kd.C k40 w A code.length code) (hc : code.length ≤ c) (hrl : Kd.C k80 w Al l.length l) (hcl : l.length ≤ cl) (hra : (Kd.int .i64).C w An answers.length answers) (hca : answers.length ≤ cn) :
    Calls Try.prog 5 #[.slice A code.length c, .slice Al l.length cl, .slice An answers.length cn, .int .i64 turn] w fun e w' => e = .returned (.bool true) ∧ Below w.heap.size w w' := by
  have HC := Aside0.mk hr
  have HL := Aside0.mk hrl
  have HA := Aside0.mk hra
  have HCc := Aside0.mk hc
  have HCl := Aside0.mk hcl
  have HCn := Aside0.mk hca
  clear hr hrl hra hc hcl hca
  by_cases h1 : 400 < code.length
  · have c1 : decide ((400 : Int) < (code.length : Int)) = true := decide_eq_true (by omega)
    have c1' : decide (400 < code.length) = true := decide_eq_true h1
    go_enter Try.func5, Try.ntmps5
    go_wp2_with (go_at_call 11; refine (awake_any _).mono ?_; rintro e w1 ⟨rfl, hb⟩; have HB := Aside0.mk hb; clear hb)
    go_ret
    exact ⟨rfl, HB.out⟩
  have c1 : decide ((400 : Int) < (code.length : Int)) = false := decide_eq_false (by omega)
  have c1' : decide (400 < code.length) = false := decide_eq_false h1
  by_cases h2 : 16 < l.length
  · have c2 : decide ((16 : Int) < (l.length : Int)) = true := decide_eq_true (by omega)
    have c2' : decide (16 < l.length) = true := decide_eq_true h2
    go_enter Try.func5, Try.ntmps5
    go_wp2_with (go_at_call 11; refine (awake_any _).mono ?_; rintro e w1 ⟨rfl, hb⟩; have HB := Aside0.mk hb; clear hb)
    go_ret
    exact ⟨rfl, HB.out⟩
  have c2 : decide ((16 : Int) < (l.length : Int)) = false := decide_eq_false (by omega)
  have c2' : decide (16 < l.length) = false := decide_eq_false h2
  by_cases h3 : 200 < answers.length
  · have c3 : decide ((200 : Int) < (answers.length : Int)) = true := decide_eq_true (by omega)
    have c3' : decide (200 < answers.length) = true := decide_eq_true h3
    go_enter Try.func5, Try.ntmps5
    go_wp2_with (go_at_call 11; refine (awake_any _).mono ?_; rintro e w1 ⟨rfl, hb⟩; have HB := Aside0.mk hb; clear hb)
    go_ret
    exact ⟨rfl, HB.out⟩
  have c3 : decide ((200 : Int) < (answers.length : Int)) = false := decide_eq_false (by omega)
  have c3' : decide (200 < answers.length) = false := decide_eq_false h3
  have HLl : Aside0 (l.length ≤ 1000) := ⟨by omega⟩
  cases hR : right code l
  · go_enter Try.func5, Try.ntmps5
    go_wp2_with (first | (go_at_call 11; refine (awake_any _).mono ?_; rintro e w1 ⟨rfl, hb⟩; have HB := Aside0.mk hb; clear hb) | (go_at_call 13; refine (right_any A c code Al cl l _ (Kd.C_below HC.out HB.out) HCc.out (Kd.C_below HL.out HB.out) HCl.out HLl.out).mono ?_; rintro e w2 ⟨rfl, hb⟩; rw [hR]; have HB2 := Aside0.mk (below_step HB.out hb); clear hb))
    go_ret
    exact ⟨rfl, HB2.out⟩
  have HR := Aside0.mk hR
  have hn1 := (right_parts hR).1
  clear hR
  go_enter Try.func5, Try.ntmps5
  go_wp2_with (first | (go_at_call 11; refine (awake_any _).mono ?_; rintro e w1 ⟨rfl, hb⟩; have HB := Aside0.mk hb; clear hb) | (go_at_call 13; refine (right_any A c code Al cl l _ (Kd.C_below HC.out HB.out) HCc.out (Kd.C_below HL.out HB.out) HCl.out HLl.out).mono ?_; rintro e w2 ⟨rfl, hb⟩; rw [HR.out]; have HB2 := Aside0.mk (below_step HB.out hb); clear hb) | (go_at_call 12; refine (copy_any A c code _ (Kd.C_below HC.out HB2.out) HCc.out (by omega)).mono ?_; rintro e w3 ⟨v, rfl, hR3, hb⟩; obtain ⟨g, cg, rfl, hbg, hlg, -⟩ := Kd.R_form hR3 hn1; have HB3 := Aside0.mk (below_step HB2.out hb); have HO := Aside0.mk (Kd.R_lower hR3 (below_size HB2.out)); clear hb hR3))
  obtain ⟨hB0, hB1⟩ := by_bd turn
  generalize wrap64 ((IntKind.u64.wrap turn).tmod 400) = B at hB0 hB1 ⊢
  go_loopw [11] (fun v w' => ∃ i : Nat, v = .int .i64 (i : Int) ∧ i ≤ code.length ∧ Aside0 (Below w.heap.size w w') ∧ Aside0 (Kd.R k40 40 w' w.heap.size (fun _ => True) (.slice (some ⟨g, 0, none⟩) code.length cg) (mix B code i))) (fun v _ => code.length - (intOf v).toNat)
  case atStart => exact ⟨0, rfl, by omega, HB3, HO⟩
  case round =>
    clear HO HB3 hbg hlg
    obtain ⟨i, rfl, hi, HB, HO⟩ := hrel
    by_cases hlt : i < code.length
    · have c4 : decide ((i : Int) < (code.length : Int)) = true := decide_eq_true (by omega)
      have q1 : ((i : Int) < (code.length : Int)) = True := eq_true (by omega)
      have q0 : (0 ≤ (i : Int)) = True := eq_true (by omega)
      have hX0 := mix_at (b := B) hlt
      have HK := Aside0.mk ((right_parts HR.out).2.2.2.1 i hlt)
      have HS := Aside0.mk (mix_succ (b := B) hlt)
      obtain ⟨hT1, hT2, hT3⟩ : tmp (usD (ins code i).f0) (ins code i).f1 = true ∧ tmp (usA (ins code i).f0) (ins code i).f2 = true ∧ tmp (usB (ins code i).f0) (ins code i).f3 = true := by
        have := HK.out
        simp only [chk, Bool.and_eq_true] at this
        exact ⟨this.1.1.1.1.1.1.2, this.1.1.1.1.1.2, this.1.1.1.1.2⟩
      clear HK
      generalize ins code i = X at hX0 HS hT1 hT2 hT3
      have HX0 := Aside0.mk hX0
      clear hX0
      obtain ⟨o, d, a, b, loc, len, kk, tt⟩ := X
      dsimp only at hT1 hT2 hT3
      have u1 := hsv_d o
      have u2 := hsv_a o
      have u3 := hsv_b o
      have HC0 := Aside0.mk (cells40 HO.out HX0.out)
      have k0 : wr.cell? ⟨g, i * 8, none⟩ = some (.int .i64 o) := HC0.out 0 _ rfl
      have k1 : wr.cell? ⟨g, i * 8 + 1, none⟩ = some (.int .i64 d) := HC0.out 1 _ rfl
      have k2 : wr.cell? ⟨g, i * 8 + 2, none⟩ = some (.int .i64 a) := HC0.out 2 _ rfl
      have k3 : wr.cell? ⟨g, i * 8 + 3, none⟩ = some (.int .i64 b) := HC0.out 3 _ rfl
      clear HC0
      cases hd : usD o <;> cases ha : usA o <;> cases hb : usB o <;> rw [hd] at u1 hT1 <;> rw [ha] at u2 hT2 <;> rw [hb] at u3 hT3
      · go_wp2_with (first | ((go_at_call 20); (first | (with_reducible refine (has_lit _ rfl u1).mono ?_) | (with_reducible refine (has_lit _ rfl u2).mono ?_) | (with_reducible refine (has_lit _ rfl u3).mono ?_)); rintro e wn ⟨rfl, ⟨nd, rfl⟩⟩))
        refine ⟨⟨i + 1, rfl, by omega, ⟨by repeat (first | exact HB.out | apply pw_below_drewN | apply below_drew1)⟩, ⟨by rw [← HS.out]; simp only [rnI, hd, ha, hb, if_true, if_false, Bool.false_eq_true]; have h9 := HO.out; rw [set_same40 HX0.out]; repeat (first | exact h9 | apply Kd.R_drewN | apply Kd.R_drew)⟩⟩, by simp [intOf]; omega⟩
      · have hf2 := tmp_bd2 hT3 rfl
        obtain ⟨e2a, e2b⟩ := nm_fact hB0 hB1 hf2
        go_wp2_with (first | ((go_at_call 20); (first | (with_reducible refine (has_lit _ rfl u1).mono ?_) | (with_reducible refine (has_lit _ rfl u2).mono ?_) | (with_reducible refine (has_lit _ rfl u3).mono ?_)); rintro e wn ⟨rfl, ⟨nd, rfl⟩⟩) | ((with_reducible refine gate_ (.store 3 (.tmp 93) (.tmp 91)) rfl ?_); refine fld_store (w := w) (i := i) (x := ⟨o, d, a, b, loc, len, kk, tt⟩) (x' := ⟨o, d, a, nm B b, loc, len, kk, tt⟩) (v := nm B b) 3 rfl rfl _ _ rfl ?ha ?hy (by repeat (first | exact HO.out | apply Kd.R_drewN | apply Kd.R_drew)) hlt HX0.out (by decide) rfl (by repeat (first | exact HB.out | apply pw_below_drewN | apply below_drew1)) ?_; (case ha => rfl); (case hy => first | rfl | (simp [Act.eval]; done)); intro w7 hR hB2 hx2; have HO7 := Aside0.mk hR; have HB7 := Aside0.mk hB2; have HX7 := Aside0.mk hx2; clear hR hB2 hx2; have HC7 := cells40 HO7.out HX7.out; have k0_7 : w7.cell? ⟨g, i * 8, none⟩ = some (.int .i64 o) := HC7 0 _ rfl; have k2_7 : w7.cell? ⟨g, i * 8 + 2, none⟩ = some (.int .i64 (a)) := HC7 2 _ rfl; have k3_7 : w7.cell? ⟨g, i * 8 + 3, none⟩ = some (.int .i64 (nm B b)) := HC7 3 _ rfl; clear HC7))
        refine ⟨⟨i + 1, rfl, by omega, ⟨by repeat (first | exact HB7.out | apply pw_below_drewN | apply below_drew1)⟩, ⟨by rw [← HS.out]; simp only [rnI, hd, ha, hb, if_true, if_false, Bool.false_eq_true]; have h9 := HO7.out; repeat (first | exact h9 | apply Kd.R_drewN | apply Kd.R_drew)⟩⟩, by simp [intOf]; omega⟩
      · have hf1 := tmp_bd2 hT2 rfl
        obtain ⟨e1a, e1b⟩ := nm_fact hB0 hB1 hf1
        go_wp2_with (first | ((go_at_call 20); (first | (with_reducible refine (has_lit _ rfl u1).mono ?_) | (with_reducible refine (has_lit _ rfl u2).mono ?_) | (with_reducible refine (has_lit _ rfl u3).mono ?_)); rintro e wn ⟨rfl, ⟨nd, rfl⟩⟩) | ((with_reducible refine gate_ (.store 3 (.tmp 78) (.tmp 76)) rfl ?_); refine fld_store (w := w) (i := i) (x := ⟨o, d, a, b, loc, len, kk, tt⟩) (x' := ⟨o, d, nm B a, b, loc, len, kk, tt⟩) (v := nm B a) 2 rfl rfl _ _ rfl ?ha ?hy (by repeat (first | exact HO.out | apply Kd.R_drewN | apply Kd.R_drew)) hlt HX0.out (by decide) rfl (by repeat (first | exact HB.out | apply pw_below_drewN | apply below_drew1)) ?_; (case ha => rfl); (case hy => first | rfl | (simp [Act.eval]; done)); intro w6 hR hB2 hx2; have HO6 := Aside0.mk hR; have HB6 := Aside0.mk hB2; have HX6 := Aside0.mk hx2; clear hR hB2 hx2; have HC6 := cells40 HO6.out HX6.out; have k0_6 : w6.cell? ⟨g, i * 8, none⟩ = some (.int .i64 o) := HC6 0 _ rfl; have k2_6 : w6.cell? ⟨g, i * 8 + 2, none⟩ = some (.int .i64 (nm B a)) := HC6 2 _ rfl; have k3_6 : w6.cell? ⟨g, i * 8 + 3, none⟩ = some (.int .i64 (b)) := HC6 3 _ rfl; clear HC6))
        refine ⟨⟨i + 1, rfl, by omega, ⟨by repeat (first | exact HB6.out | apply pw_below_drewN | apply below_drew1)⟩, ⟨by rw [← HS.out]; simp only [rnI, hd, ha, hb, if_true, if_false, Bool.false_eq_true]; have h9 := HO6.out; repeat (first | exact h9 | apply Kd.R_drewN | apply Kd.R_drew)⟩⟩, by simp [intOf]; omega⟩
      · have hf1 := tmp_bd2 hT2 rfl
        obtain ⟨e1a, e1b⟩ := nm_fact hB0 hB1 hf1
        have hf2 := tmp_bd2 hT3 rfl
        obtain ⟨e2a, e2b⟩ := nm_fact hB0 hB1 hf2
        go_wp2_with (first | ((go_at_call 20); (first | (with_reducible refine (has_lit _ rfl u1).mono ?_) | (with_reducible refine (has_lit _ rfl u2).mono ?_) | (with_reducible refine (has_lit _ rfl u3).mono ?_)); rintro e wn ⟨rfl, ⟨nd, rfl⟩⟩) | ((with_reducible refine gate_ (.store 3 (.tmp 78) (.tmp 76)) rfl ?_); refine fld_store (w := w) (i := i) (x := ⟨o, d, a, b, loc, len, kk, tt⟩) (x' := ⟨o, d, nm B a, b, loc, len, kk, tt⟩) (v := nm B a) 2 rfl rfl _ _ rfl ?ha ?hy (by repeat (first | exact HO.out | apply Kd.R_drewN | apply Kd.R_drew)) hlt HX0.out (by decide) rfl (by repeat (first | exact HB.out | apply pw_below_drewN | apply below_drew1)) ?_; (case ha => rfl); (case hy => first | rfl | (simp [Act.eval]; done)); intro w6 hR hB2 hx2; have HO6 := Aside0.mk hR; have HB6 := Aside0.mk hB2; have HX6 := Aside0.mk hx2; clear hR hB2 hx2; have HC6 := cells40 HO6.out HX6.out; have k0_6 : w6.cell? ⟨g, i * 8, none⟩ = some (.int .i64 o) := HC6 0 _ rfl; have k2_6 : w6.cell? ⟨g, i * 8 + 2, none⟩ = some (.int .i64 (nm B a)) := HC6 2 _ rfl; have k3_6 : w6.cell? ⟨g, i * 8 + 3, none⟩ = some (.int .i64 (b)) := HC6 3 _ rfl; clear HC6) | ((with_reducible refine gate_ (.store 3 (.tmp 93) (.tmp 91)) rfl ?_); refine fld_store (w := w) (i := i) (x := ⟨o, d, nm B a, b, loc, len, kk, tt⟩) (x' := ⟨o, d, nm B a, nm B b, loc, len, kk, tt⟩) (v := nm B b) 3 rfl rfl _ _ rfl ?ha ?hy (by repeat (first | exact HO6.out | apply Kd.R_drewN | apply Kd.R_drew)) hlt HX6.out (by decide) rfl (by repeat (first | exact HB6.out | apply pw_below_drewN | apply below_drew1)) ?_; (case ha => rfl); (case hy => first | rfl | (simp [Act.eval]; done)); intro w7 hR hB2 hx2; have HO7 := Aside0.mk hR; have HB7 := Aside0.mk hB2; have HX7 := Aside0.mk hx2; clear hR hB2 hx2; have HC7 := cells40 HO7.out HX7.out; have k0_7 : w7.cell? ⟨g, i * 8, none⟩ = some (.int .i64 o) := HC7 0 _ rfl; have k2_7 : w7.cell? ⟨g, i * 8 + 2, none⟩ = some (.int .i64 (nm B a)) := HC7 2 _ rfl; have k3_7 : w7.cell? ⟨g, i * 8 + 3, none⟩ = some (.int .i64 (nm B b)) := HC7 3 _ rfl; clear HC7))
        refine ⟨⟨i + 1, rfl, by omega, ⟨by repeat (first | exact HB7.out | apply pw_below_drewN | apply below_drew1)⟩, ⟨by rw [← HS.out]; simp only [rnI, hd, ha, hb, if_true, if_false, Bool.false_eq_true]; have h9 := HO7.out; simp only [List.set_set] at h9; repeat (first | exact h9 | apply Kd.R_drewN | apply Kd.R_drew)⟩⟩, by simp [intOf]; omega⟩
      · have hf0 := tmp_bd2 hT1 rfl
        obtain ⟨e0a, e0b⟩ := nm_fact hB0 hB1 hf0
        go_wp2_with (first | ((go_at_call 20); (first | (with_reducible refine (has_lit _ rfl u1).mono ?_) | (with_reducible refine (has_lit _ rfl u2).mono ?_) | (with_reducible refine (has_lit _ rfl u3).mono ?_)); rintro e wn ⟨rfl, ⟨nd, rfl⟩⟩) | ((with_reducible refine gate_ (.store 3 (.tmp 63) (.tmp 61)) rfl ?_); refine fld_store (w := w) (i := i) (x := ⟨o, d, a, b, loc, len, kk, tt⟩) (x' := ⟨o, nm B d, a, b, loc, len, kk, tt⟩) (v := nm B d) 1 rfl rfl _ _ rfl ?ha ?hy (by repeat (first | exact HO.out | apply Kd.R_drewN | apply Kd.R_drew)) hlt HX0.out (by decide) rfl (by repeat (first | exact HB.out | apply pw_below_drewN | apply below_drew1)) ?_; (case ha => rfl); (case hy => first | rfl | (simp [Act.eval]; done)); intro w5 hR hB2 hx2; have HO5 := Aside0.mk hR; have HB5 := Aside0.mk hB2; have HX5 := Aside0.mk hx2; clear hR hB2 hx2; have HC5 := cells40 HO5.out HX5.out; have k0_5 : w5.cell? ⟨g, i * 8, none⟩ = some (.int .i64 o) := HC5 0 _ rfl; have k2_5 : w5.cell? ⟨g, i * 8 + 2, none⟩ = some (.int .i64 (a)) := HC5 2 _ rfl; have k3_5 : w5.cell? ⟨g, i * 8 + 3, none⟩ = some (.int .i64 (b)) := HC5 3 _ rfl; clear HC5))
        refine ⟨⟨i + 1, rfl, by omega, ⟨by repeat (first | exact HB5.out | apply pw_below_drewN | apply below_drew1)⟩, ⟨by rw [← HS.out]; simp only [rnI, hd, ha, hb, if_true, if_false, Bool.false_eq_true]; have h9 := HO5.out; repeat (first | exact h9 | apply Kd.R_drewN | apply Kd.R_drew)⟩⟩, by simp [intOf]; omega⟩
      · have hf0 := tmp_bd2 hT1 rfl
        obtain ⟨e0a, e0b⟩ := nm_fact hB0 hB1 hf0
        have hf2 := tmp_bd2 hT3 rfl
        obtain ⟨e2a, e2b⟩ := nm_fact hB0 hB1 hf2
        go_wp2_with (first | ((go_at_call 20); (first | (with_reducible refine (has_lit _ rfl u1).mono ?_) | (with_reducible refine (has_lit _ rfl u2).mono ?_) | (with_reducible refine (has_lit _ rfl u3).mono ?_)); rintro e wn ⟨rfl, ⟨nd, rfl⟩⟩) | ((with_reducible refine gate_ (.store 3 (.tmp 63) (.tmp 61)) rfl ?_); refine fld_store (w := w) (i := i) (x := ⟨o, d, a, b, loc, len, kk, tt⟩) (x' := ⟨o, nm B d, a, b, loc, len, kk, tt⟩) (v := nm B d) 1 rfl rfl _ _ rfl ?ha ?hy (by repeat (first | exact HO.out | apply Kd.R_drewN | apply Kd.R_drew)) hlt HX0.out (by decide) rfl (by repeat (first | exact HB.out | apply pw_below_drewN | apply below_drew1)) ?_; (case ha => rfl); (case hy => first | rfl | (simp [Act.eval]; done)); intro w5 hR hB2 hx2; have HO5 := Aside0.mk hR; have HB5 := Aside0.mk hB2; have HX5 := Aside0.mk hx2; clear hR hB2 hx2; have HC5 := cells40 HO5.out HX5.out; have k0_5 : w5.cell? ⟨g, i * 8, none⟩ = some (.int .i64 o) := HC5 0 _ rfl; have k2_5 : w5.cell? ⟨g, i * 8 + 2, none⟩ = some (.int .i64 (a)) := HC5 2 _ rfl; have k3_5 : w5.cell? ⟨g, i * 8 + 3, none⟩ = some (.int .i64 (b)) := HC5 3 _ rfl; clear HC5) | ((with_reducible refine gate_ (.store 3 (.tmp 93) (.tmp 91)) rfl ?_); refine fld_store (w := w) (i := i) (x := ⟨o, nm B d, a, b, loc, len, kk, tt⟩) (x' := ⟨o, nm B d, a, nm B b, loc, len, kk, tt⟩) (v := nm B b) 3 rfl rfl _ _ rfl ?ha ?hy (by repeat (first | exact HO5.out | apply Kd.R_drewN | apply Kd.R_drew)) hlt HX5.out (by decide) rfl (by repeat (first | exact HB5.out | apply pw_below_drewN | apply below_drew1)) ?_; (case ha => rfl); (case hy => first | rfl | (simp [Act.eval]; done)); intro w7 hR hB2 hx2; have HO7 := Aside0.mk hR; have HB7 := Aside0.mk hB2; have HX7 := Aside0.mk hx2; clear hR hB2 hx2; have HC7 := cells40 HO7.out HX7.out; have k0_7 : w7.cell? ⟨g, i * 8, none⟩ = some (.int .i64 o) := HC7 0 _ rfl; have k2_7 : w7.cell? ⟨g, i * 8 + 2, none⟩ = some (.int .i64 (a)) := HC7 2 _ rfl; have k3_7 : w7.cell? ⟨g, i * 8 + 3, none⟩ = some (.int .i64 (nm B b)) := HC7 3 _ rfl; clear HC7))
        refine ⟨⟨i + 1, rfl, by omega, ⟨by repeat (first | exact HB7.out | apply pw_below_drewN | apply below_drew1)⟩, ⟨by rw [← HS.out]; simp only [rnI, hd, ha, hb, if_true, if_false, Bool.false_eq_true]; have h9 := HO7.out; simp only [List.set_set] at h9; repeat (first | exact h9 | apply Kd.R_drewN | apply Kd.R_drew)⟩⟩, by simp [intOf]; omega⟩
      · have hf0 := tmp_bd2 hT1 rfl
        obtain ⟨e0a, e0b⟩ := nm_fact hB0 hB1 hf0
        have hf1 := tmp_bd2 hT2 rfl
        obtain ⟨e1a, e1b⟩ := nm_fact hB0 hB1 hf1
        go_wp2_with (first | ((go_at_call 20); (first | (with_reducible refine (has_lit _ rfl u1).mono ?_) | (with_reducible refine (has_lit _ rfl u2).mono ?_) | (with_reducible refine (has_lit _ rfl u3).mono ?_)); rintro e wn ⟨rfl, ⟨nd, rfl⟩⟩) | ((with_reducible refine gate_ (.store 3 (.tmp 63) (.tmp 61)) rfl ?_); refine fld_store (w := w) (i := i) (x := ⟨o, d, a, b, loc, len, kk, tt⟩) (x' := ⟨o, nm B d, a, b, loc, len, kk, tt⟩) (v := nm B d) 1 rfl rfl _ _ rfl ?ha ?hy (by repeat (first | exact HO.out | apply Kd.R_drewN | apply Kd.R_drew)) hlt HX0.out (by decide) rfl (by repeat (first | exact HB.out | apply pw_below_drewN | apply below_drew1)) ?_; (case ha => rfl); (case hy => first | rfl | (simp [Act.eval]; done)); intro w5 hR hB2 hx2; have HO5 := Aside0.mk hR; have HB5 := Aside0.mk hB2; have HX5 := Aside0.mk hx2; clear hR hB2 hx2; have HC5 := cells40 HO5.out HX5.out; have k0_5 : w5.cell? ⟨g, i * 8, none⟩ = some (.int .i64 o) := HC5 0 _ rfl; have k2_5 : w5.cell? ⟨g, i * 8 + 2, none⟩ = some (.int .i64 (a)) := HC5 2 _ rfl; have k3_5 : w5.cell? ⟨g, i * 8 + 3, none⟩ = some (.int .i64 (b)) := HC5 3 _ rfl; clear HC5) | ((with_reducible refine gate_ (.store 3 (.tmp 78) (.tmp 76)) rfl ?_); refine fld_store (w := w) (i := i) (x := ⟨o, nm B d, a, b, loc, len, kk, tt⟩) (x' := ⟨o, nm B d, nm B a, b, loc, len, kk, tt⟩) (v := nm B a) 2 rfl rfl _ _ rfl ?ha ?hy (by repeat (first | exact HO5.out | apply Kd.R_drewN | apply Kd.R_drew)) hlt HX5.out (by decide) rfl (by repeat (first | exact HB5.out | apply pw_below_drewN | apply below_drew1)) ?_; (case ha => rfl); (case hy => first | rfl | (simp [Act.eval]; done)); intro w6 hR hB2 hx2; have HO6 := Aside0.mk hR; have HB6 := Aside0.mk hB2; have HX6 := Aside0.mk hx2; clear hR hB2 hx2; have HC6 := cells40 HO6.out HX6.out; have k0_6 : w6.cell? ⟨g, i * 8, none⟩ = some (.int .i64 o) := HC6 0 _ rfl; have k2_6 : w6.cell? ⟨g, i * 8 + 2, none⟩ = some (.int .i64 (nm B a)) := HC6 2 _ rfl; have k3_6 : w6.cell? ⟨g, i * 8 + 3, none⟩ = some (.int .i64 (b)) := HC6 3 _ rfl; clear HC6))
        refine ⟨⟨i + 1, rfl, by omega, ⟨by repeat (first | exact HB6.out | apply pw_below_drewN | apply below_drew1)⟩, ⟨by rw [← HS.out]; simp only [rnI, hd, ha, hb, if_true, if_false, Bool.false_eq_true]; have h9 := HO6.out; simp only [List.set_set] at h9; repeat (first | exact h9 | apply Kd.R_drewN | apply Kd.R_drew)⟩⟩, by simp [intOf]; omega⟩
      · have hf0 := tmp_bd2 hT1 rfl
        obtain ⟨e0a, e0b⟩ := nm_fact hB0 hB1 hf0
        have hf1 := tmp_bd2 hT2 rfl
        obtain ⟨e1a, e1b⟩ := nm_fact hB0 hB1 hf1
        have hf2 := tmp_bd2 hT3 rfl
        obtain ⟨e2a, e2b⟩ := nm_fact hB0 hB1 hf2
        go_wp2_with (first | ((go_at_call 20); (first | (with_reducible refine (has_lit _ rfl u1).mono ?_) | (with_reducible refine (has_lit _ rfl u2).mono ?_) | (with_reducible refine (has_lit _ rfl u3).mono ?_)); rintro e wn ⟨rfl, ⟨nd, rfl⟩⟩) | ((with_reducible refine gate_ (.store 3 (.tmp 63) (.tmp 61)) rfl ?_); refine fld_store (w := w) (i := i) (x := ⟨o, d, a, b, loc, len, kk, tt⟩) (x' := ⟨o, nm B d, a, b, loc, len, kk, tt⟩) (v := nm B d) 1 rfl rfl _ _ rfl ?ha ?hy (by repeat (first | exact HO.out | apply Kd.R_drewN | apply Kd.R_drew)) hlt HX0.out (by decide) rfl (by repeat (first | exact HB.out | apply pw_below_drewN | apply below_drew1)) ?_; (case ha => rfl); (case hy => first | rfl | (simp [Act.eval]; done)); intro w5 hR hB2 hx2; have HO5 := Aside0.mk hR; have HB5 := Aside0.mk hB2; have HX5 := Aside0.mk hx2; clear hR hB2 hx2; have HC5 := cells40 HO5.out HX5.out; have k0_5 : w5.cell? ⟨g, i * 8, none⟩ = some (.int .i64 o) := HC5 0 _ rfl; have k2_5 : w5.cell? ⟨g, i * 8 + 2, none⟩ = some (.int .i64 (a)) := HC5 2 _ rfl; have k3_5 : w5.cell? ⟨g, i * 8 + 3, none⟩ = some (.int .i64 (b)) := HC5 3 _ rfl; clear HC5) | ((with_reducible refine gate_ (.store 3 (.tmp 78) (.tmp 76)) rfl ?_); refine fld_store (w := w) (i := i) (x := ⟨o, nm B d, a, b, loc, len, kk, tt⟩) (x' := ⟨o, nm B d, nm B a, b, loc, len, kk, tt⟩) (v := nm B a) 2 rfl rfl _ _ rfl ?ha ?hy (by repeat (first | exact HO5.out | apply Kd.R_drewN | apply Kd.R_drew)) hlt HX5.out (by decide) rfl (by repeat (first | exact HB5.out | apply pw_below_drewN | apply below_drew1)) ?_; (case ha => rfl); (case hy => first | rfl | (simp [Act.eval]; done)); intro w6 hR hB2 hx2; have HO6 := Aside0.mk hR; have HB6 := Aside0.mk hB2; have HX6 := Aside0.mk hx2; clear hR hB2 hx2; have HC6 := cells40 HO6.out HX6.out; have k0_6 : w6.cell? ⟨g, i * 8, none⟩ = some (.int .i64 o) := HC6 0 _ rfl; have k2_6 : w6.cell? ⟨g, i * 8 + 2, none⟩ = some (.int .i64 (nm B a)) := HC6 2 _ rfl; have k3_6 : w6.cell? ⟨g, i * 8 + 3, none⟩ = some (.int .i64 (b)) := HC6 3 _ rfl; clear HC6) | ((with_reducible refine gate_ (.store 3 (.tmp 93) (.tmp 91)) rfl ?_); refine fld_store (w := w) (i := i) (x := ⟨o, nm B d, nm B a, b, loc, len, kk, tt⟩) (x' := ⟨o, nm B d, nm B a, nm B b, loc, len, kk, tt⟩) (v := nm B b) 3 rfl rfl _ _ rfl ?ha ?hy (by repeat (first | exact HO6.out | apply Kd.R_drewN | apply Kd.R_drew)) hlt HX6.out (by decide) rfl (by repeat (first | exact HB6.out | apply pw_below_drewN | apply below_drew1)) ?_; (case ha => rfl); (case hy => first | rfl | (simp [Act.eval]; done)); intro w7 hR hB2 hx2; have HO7 := Aside0.mk hR; have HB7 := Aside0.mk hB2; have HX7 := Aside0.mk hx2; clear hR hB2 hx2; have HC7 := cells40 HO7.out HX7.out; have k0_7 : w7.cell? ⟨g, i * 8, none⟩ = some (.int .i64 o) := HC7 0 _ rfl; have k2_7 : w7.cell? ⟨g, i * 8 + 2, none⟩ = some (.int .i64 (nm B a)) := HC7 2 _ rfl; have k3_7 : w7.cell? ⟨g, i * 8 + 3, none⟩ = some (.int .i64 (nm B b)) := HC7 3 _ rfl; clear HC7))
        refine ⟨⟨i + 1, rfl, by omega, ⟨by repeat (first | exact HB7.out | apply pw_below_drewN | apply below_drew1)⟩, ⟨by rw [← HS.out]; simp only [rnI, hd, ha, hb, if_true, if_false, Bool.false_eq_true]; have h9 := HO7.out; simp only [List.set_set] at h9; repeat (first | exact h9 | apply Kd.R_drewN | apply Kd.R_drew)⟩⟩, by simp [intOf]; omega⟩
    · obtain rfl : i = code.length := by omega
      have c4 : decide ((code.length : Int) < (code.length : Int)) = false := decide_eq_false (by omega)
      have HO1 : Aside0 (Kd.R k40 40 wr w.heap.size (fun _ => True) (.slice (some ⟨g, 0, none⟩) code.length cg) (rnC B code)) := ⟨by have h9 := HO.out; rw [mix_all] at h9; exact h9⟩
      have hlC : (rnC B code).length = code.length := rnC_len B code
      have HCo : Aside0 (Kd.C k40 wr (some ⟨g, 0, none⟩) code.length (rnC B code)) := ⟨by obtain ⟨_, _, h9⟩ := Kd.R_reads' HO1.out; first | exact h9 | (rw [hlC] at h9; exact h9) | (rw [← hlC]; exact h9)⟩
      have HCg : Aside0 (code.length ≤ cg) := ⟨by obtain ⟨h8, h9, _⟩ := Kd.R_reads' HO1.out; omega⟩
      have HCw : Aside0 (Kd.C k40 wr A code.length code) := ⟨Kd.C_below HC.out HB.out⟩
      have HLw : Aside0 (Kd.C k80 wr Al l.length l) := ⟨Kd.C_below HL.out HB.out⟩
      have HAw : Aside0 ((Kd.int .i64).C wr An answers.length answers) := ⟨Kd.C_below HA.out HB.out⟩
      clear HO HO1
      go_wp2_with (first | (go_at_call 13; refine (right_copy (some ⟨g, 0, none⟩) cg code Al cl l _ HCo.out HCg.out HLw.out HCl.out HLl.out HR.out).mono ?_; rintro e x1 ⟨rfl, hb⟩; have HX1 := Aside0.mk hb; clear hb) | (go_at_call 16; refine (run_right A c code Al cl l An cn answers _ (Kd.C_below HCw.out HX2.out) HCc.out (Kd.C_below HLw.out HX2.out) HCl.out HLl.out (Kd.C_below HAw.out HX2.out) HCn.out HR.out).mono ?_; rintro e x3 ⟨v2, rfl, hv2, hb⟩; have HV2 := Aside0.mk hv2; have HX3 := Aside0.mk hb; clear hb hv2) | (go_at_call 16; refine (run_copy (some ⟨g, 0, none⟩) cg code Al cl l An cn answers _ (Kd.C_below HCo.out HX1.out) HCg.out (Kd.C_below HLw.out HX1.out) HCl.out HLl.out (Kd.C_below HAw.out HX1.out) HCn.out HR.out).mono ?_; rintro e x2 ⟨v1, rfl, hv1, hb⟩; have HV1 := Aside0.mk hv1; have HX2 := Aside0.mk (below_step HX1.out hb); clear hb hv1) | (go_at_call 15; refine (trace_two code l answers v1 v2 _ _ _ HV1.out HX3.out HV2.out).mono ?_; rintro e x4 ⟨rfl, hb⟩; have HX4 := Aside0.mk hb; clear hb))
      go_ret
      exact ⟨rfl, below_step HB.out (below_step HX2.out (below_step HX3.out HX4.out))⟩
end Go.Proofs.Ytdmbnlpcfgphpaa.Q
