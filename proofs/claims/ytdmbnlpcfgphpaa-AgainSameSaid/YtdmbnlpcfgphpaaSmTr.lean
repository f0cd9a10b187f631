/- Several of my texts in one: Trh, Tr1, Tr2, Tr3, Tr4, Tr5, Trj, Trl. -/
import Derived.Test.YtdmbnlpcfgphpaaWk
import Derived.Test.YtdmbnlpcfgphpaaSmQk
namespace Go.Proofs.Ytdmbnlpcfgphpaa.Q
open Go.RowKit Go.Proofs.YtdmbnlpcfgphpaaW.PrintWords Go.Proofs.YtdmbnlpcfgphpaaW.PrintLast Go.Proofs.YtdmbnlpcfgphpaaW.PrintMore
set_option linter.unusedVariables false
set_option linter.unusedSimpArgs false
/-- Is the run over at this piece? -/
def endsA (x : S40) (T : List Int) : Bool := x.f0 == 18 || (x.f0 == 5 && rd T x.f3 == 0) || ((x.f0 == 13 || x.f0 == 14) && (decide (rd T x.f2 < 0) || decide (x.f5 ≤ rd T x.f2)))
def isAsk (o : Int) : Bool := o == 6 || o == 8 || o == 10 || o == 11 || o == 12 || o == 13
def isTell (o : Int) : Bool := o == 7 || o == 9 || o == 14 || o == 15
def tnew (x : S40) (T : List Int) (old : Int) : List Int :=
  if x.f0 = 1 then T.set x.f1.toNat x.f6 else if x.f0 = 2 then T.set x.f1.toNat (wrap64 (rd T x.f2 + rd T x.f3)) else if x.f0 = 3 then T.set x.f1.toNat (wrap64 (rd T x.f2 - rd T x.f3))
  else if x.f0 = 4 then T.set x.f1.toNat (wrap64 (rd T x.f2 * rd T x.f3)) else if x.f0 = 5 then T.set x.f1.toNat (wrap64 ((rd T x.f2).tdiv (rd T x.f3)))
  else if x.f0 = 6 ∨ x.f0 = 8 ∨ x.f0 = 10 ∨ x.f0 = 11 ∨ x.f0 = 13 then T.set x.f1.toNat old else T
def tnxt (x : S40) (i : Int) (T : List Int) (old : Int) : Int :=
  if x.f0 = 16 then (if rd T x.f2 < rd T x.f3 then i + 1 else x.f7) else if x.f0 = 17 then (if rd T x.f2 = rd T x.f3 then i + 1 else x.f7) else if x.f0 = 12 then (if old = rd T x.f2 then i + 1 else x.f7) else i + 1
/-- The trail, as a plain function: sp, kv: which piece is told what is known. -/
def trl (code : List S40) (sp : Nat → Bool) (kv : Nat → Int) : Nat → Int → List Int → List Int → List Int → List Int → List Int × List Int
  | 0, _, _, _, ps, ts => (ps, ts)
  | f + 1, i, T, ans, ps, ts =>
    if endsA (ins code i.toNat) T = true then (ps, ts ++ ans)
    else if isAsk (ins code i.toNat).f0 = true then
      if sp i.toNat = true then trl code sp kv f (tnxt (ins code i.toNat) i T (rd T (kv i.toNat))) (tnew (ins code i.toNat) T (rd T (kv i.toNat))) ans (ps ++ [i]) (ts ++ [rd T (kv i.toNat)])
      else match ans with
        | [] => (ps, ts)
        | y :: s => trl code sp kv f (tnxt (ins code i.toNat) i T y) (tnew (ins code i.toNat) T y) s (ps ++ [i]) (ts ++ [y])
    else trl code sp kv f (tnxt (ins code i.toNat) i T 0) (tnew (ins code i.toNat) T 0) ans (if isTell (ins code i.toNat).f0 = true then ps ++ [i] else ps) ts
def tcl (T : List Int) : Array Value := (T.map (Value.int .i64)).toArray
theorem tcl_get (T : List Int) (h : T.length = 400) (i : Int) (h0 : 0 ≤ i) (h1 : i < 400) : (tcl T)[i.toNat]? = some (.int .i64 (rd T i)) := by
  have : i.toNat < T.length := by omega
  simp [tcl, rd, List.getD, this]
theorem tcl_set (T : List Int) (i : Nat) (n : Int) : (tcl T).setIfInBounds i (.int .i64 n) = tcl (T.set i n) := by
  simp [tcl, List.map_set]
theorem kdi_E (q e : TypeId) (h : q ∈ e :: (Kd.int .i64).E) : q = e := by
  have h2 : (Kd.int .i64).E = [] := rfl
  rw [h2] at h
  simpa using h
structure Tw (w W : World) (g : Nat) (T : List Int) (v8 : Value) (ps : List Int) (v9 : Value) (ts : List Int) : Prop where
  HB : Below w.heap.size w W
  b10 : W.heap[g]? = some (.cells (tcl T) 73 (0, 0))
  TL : T.length = 400
  R8 : (Kd.int .i64).R 3 W w.heap.size (fun _ => True) v8 ps
  R9 : (Kd.int .i64).R 2 W w.heap.size (fun _ => True) v9 ts
  l10 : w.heap.size ≤ g
section
variable {w W W' : World} {g : Nat} {T : List Int} {v8 : Value} {ps : List Int} {v9 : Value} {ts : List Int}
theorem Tw.below (S : Tw w W g T v8 ps v9 ts) (hb : Below W.heap.size W W') : Tw w W' g T v8 ps v9 ts :=
  ⟨below_step S.HB hb, blk_below S.b10 hb, S.TL, Kd.R_below S.R8 hb, Kd.R_below S.R9 hb, S.l10⟩
theorem Tw.alloc (S : Tw w W g T v8 ps v9 ts) (o : Obj) : Tw w (W.alloc o) g T v8 ps v9 ts := S.below (below_alloc (Below.refl _ _) o)
theorem Tw.drewN (S : Tw w W g T v8 ps v9 ts) (j : Nat) : Tw w (W.drewN j) g T v8 ps v9 ts := S.below (pw_below_drewN (Below.refl _ _) j)
theorem Tw.drew (S : Tw w W g T v8 ps v9 ts) : Tw w W.drew g T v8 ps v9 ts := S.below (below_drew1 (Below.refl _ _))
theorem Tw.ctemp (S : Tw w W g T v8 ps v9 ts) (i : Int) (h0 : 0 ≤ i) (h1 : i < 400) : W.cell? ⟨g, i.toNat, none⟩ = some (.int .i64 (rd T i)) := (blk_cell S.b10 _).trans (tcl_get _ S.TL i h0 h1)
theorem Tw.put (S : Tw w W g T v8 ps v9 ts) (i : Int) (n : Int) : Tw w (W.setCell ⟨g, i.toNat, none⟩ (.int .i64 n)) g (T.set i.toNat n) v8 ps v9 ts :=
  ⟨below_set S.HB S.l10, blk_put S.b10 _ _ (tcl_set _ _ _), by rw [List.length_set]; exact S.TL, Kd.R_set S.R8 S.b10 (fun q hq => by rw [kdi_E q _ hq]; decide) _ _, Kd.R_set S.R9 S.b10 (fun q hq => by rw [kdi_E q _ hq]; decide) _ _, S.l10⟩
theorem int_over {e e' : TypeId} {b b' : Nat} {u v : Value} {xs ys : List Int} {ok : Nat → Prop} (h : (Kd.int .i64).R e W b (fun _ => True) u xs) (hv : (Kd.int .i64).R e' W b' ok v ys) (ht : e ≠ e') (hg : W.grownBy W' v.ownBlock) : (Kd.int .i64).R e W' b (fun _ => True) u xs :=
  Kd.R_mono (Kd.R_step (Kd.R_bound h) (fun k hk hlt => hg.block k hlt (by
    obtain ⟨-, -, -, q, hq, cells, hc⟩ := hk
    rw [kdi_E q _ hq] at hc
    exact Kd.R_ne hv hc (fun e => ht e.symm)))) (fun _ _ => trivial)
theorem Tw.app8 (S : Tw w W g T v8 ps v9 ts) {v1 : Value} {ps' : List Int} (hg : W.grownBy W' v8.ownBlock) (hB : Below w.heap.size w W') (h1 : (Kd.int .i64).R 3 W' w.heap.size (fun _ => True) v1 ps') : Tw w W' g T v1 ps' v9 ts :=
  ⟨hB, blk_grown S.b10 hg (Kd.R_ne S.R8 S.b10 (by decide)), S.TL, h1, int_over S.R9 S.R8 (by decide) hg, S.l10⟩
theorem Tw.app9 (S : Tw w W g T v8 ps v9 ts) {v1 : Value} {ts' : List Int} (hg : W.grownBy W' v9.ownBlock) (hB : Below w.heap.size w W') (h1 : (Kd.int .i64).R 2 W' w.heap.size (fun _ => True) v1 ts') : Tw w W' g T v8 ps v1 ts' :=
  ⟨hB, blk_grown S.b10 hg (Kd.R_ne S.R9 S.b10 (by decide)), S.TL, int_over S.R8 S.R9 (by decide) hg, h1, S.l10⟩
end
noncomputable def trS : Code := match Try.f29.body with
  | some (.seq _ (.seq _ (.seq _ (.seq _ (.seq _ (.block _ (.loop (.block _ s)))))))) => s
  | _ => .skip
noncomputable def trB : Code := match trS with
  | .seq _ (.seq _ b) => b
  | _ => .skip
noncomputable def trR : Code := match trB with
  | .seq (.seq _ (.cond _ r _)) _ => r
  | _ => .skip
noncomputable def trC : Code := match trB with
  | .seq _ c => c
  | _ => .skip
noncomputable def trAsk : Code := match trC with
  | .seq _ (.seq (.seq _ (.block _ (.seq _ (.cond _ a _)))) _) => a
  | _ => .skip
noncomputable def trTell : Code := match trC with
  | .seq _ (.seq (.seq _ (.block _ (.seq _ (.cond _ _ t)))) _) => t
  | _ => .skip
noncomputable def trD : Code := match trC with
  | .seq _ (.seq _ d) => d
  | _ => .skip
noncomputable def trApp : Code := match trAsk with
  | .seq _ p => p
  | _ => .skip
noncomputable def tr1 : Code → Code
  | .seq a _ => a
  | _ => .skip
noncomputable def tr2 : Code → Code
  | .seq _ b => b
  | _ => .skip
noncomputable def trBl : Code → Code
  | .block _ b => b
  | _ => .skip
set_option maxRecDepth 100000 in
/-- The frame within a round; the scratch is whatever it is. -/
def TrF (A : Option Addr) (c : Nat) (code : List S40) (v1 : Value) (fill : Bool) (v8 v9 : Value) (g : Nat) (i : Int) (v12 v13 v14 v15 : Value) (a : Act) : Prop :=
  ∃ u3 u4 u5 u6 u7 u16 u17 u18 u19 u20 u21 u22 u23 u24 u25 u26 u27 u28 u29 u30 u31 u32 u33 u34 u35 u36 u37 u38 u39 u40 u41 u42 u43 u44 u45 u46 u47 u48 u49 u50 u51 u52 u53 u54 u55 u56 u57 u58 u59 u60 u61 u62 u63 u64 u65 u66 u67 u68 u69 u70 u71 u72 u73 u74 u75 u76 u77 u78 u79 u80 u81 u82 u83 u84 u85 u86 u87 u88 u89 u90 u91 u92 u93 u94 u95 u96 u97 u98 u99 u100 u101 u102 u103 u104 u105 u106 u107 u108 u109 u110 u111 u112 u113 u114 u115 u116 u117 u118 u119 u120 u121 u122 u123 u124 u125 u126 u127 u128 u129 u130 u131 u132 u133 u134 u135 u136 u137 u138 u139 u140 u141 u142 u143 u144 u145 u146 u147 u148 u149 u150 u151 u152 u153 u154 u155 u156 u157 u158 u159 u160 u161 u162 u163 u164 u165 u166 u167 u168 u169 u170 u171 u172 u173 u174 u175 u176 u177 u178 u179 u180 u181 u182 u183 u184 u185 u186 u187 u188, a = { tmps := #[.slice A code.length c, v1, .bool fill, u3, u4, u5, u6, u7, v8, v9, .pointer (some ⟨g, 0, none⟩), .int .i64 i, v12, v13, v14, v15, u16, u17, u18, u19, u20, u21, u22, u23, u24, u25, u26, u27, u28, u29, u30, u31, u32, u33, u34, u35, u36, u37, u38, u39, u40, u41, u42, u43, u44, u45, u46, u47, u48, u49, u50, u51, u52, u53, u54, u55, u56, u57, u58, u59, u60, u61, u62, u63, u64, u65, u66, u67, u68, u69, u70, u71, u72, u73, u74, u75, u76, u77, u78, u79, u80, u81, u82, u83, u84, u85, u86, u87, u88, u89, u90, u91, u92, u93, u94, u95, u96, u97, u98, u99, u100, u101, u102, u103, u104, u105, u106, u107, u108, u109, u110, u111, u112, u113, u114, u115, u116, u117, u118, u119, u120, u121, u122, u123, u124, u125, u126, u127, u128, u129, u130, u131, u132, u133, u134, u135, u136, u137, u138, u139, u140, u141, u142, u143, u144, u145, u146, u147, u148, u149, u150, u151, u152, u153, u154, u155, u156, u157, u158, u159, u160, u161, u162, u163, u164, u165, u166, u167, u168, u169, u170, u171, u172, u173, u174, u175, u176, u177, u178, u179, u180, u181, u182, u183, u184, u185, u186, u187, u188], defers := [] }
def Bx (W : World) (gx : Nat) (x : S40) : Prop := W.heap[gx]? = some (.cells #[.int .i64 x.f0, .int .i64 x.f1, .int .i64 x.f2, .int .i64 x.f3, .int .i64 x.f4, .int .i64 x.f5, .int .i64 x.f6, .int .i64 x.f7] 40 (0, 0))
theorem tr_get {l : List Value} {k : Nat} {v u : Value} (h : ({ tmps := ⟨l⟩, defers := [] } : Act).tmps.getD k undef = v) (e : l[k]? = some u) : u = v := by
  have h2 : (l[k]?).getD undef = v := by
    by_cases hk : k < l.length
    · simpa [Array.getD, hk] using h
    · simpa [Array.getD, hk] using h
  rw [e] at h2
  exact h2
noncomputable def trP : Code := tr2 (tr1 trAsk)
end Go.Proofs.Ytdmbnlpcfgphpaa.Q
namespace Go.Proofs.Ytdmbnlpcfgphpaa.Q
open Go.RowKit Go.Proofs.YtdmbnlpcfgphpaaW.PrintWords Go.Proofs.YtdmbnlpcfgphpaaW.PrintLast Go.Proofs.YtdmbnlpcfgphpaaW.PrintMore
set_option linter.unusedVariables false
set_option linter.unusedSimpArgs false
set_option maxHeartbeats 8000000 in
set_option maxRecDepth 100000 in
theorem tr_A {A : Option Addr} {c : Nat} {code : List S40} {v1 : Value} {fill : Bool} {v8 v9 : Value} {g gx : Nat} {i : Nat} {v12 v13 v14 v15 : Value} {w W : World} {T ps ts : List Int} {a : Act} {R : Exit → Act → World → Prop} (HF : TrF A c code v1 fill v8 v9 g (i : Int) v12 v13 v14 v15 a) (S : Tw w W g T v8 ps v9 ts) (hC : Kd.C k40 w A code.length code) (hi : i < code.length) {x : S40} (hx : ins code i = x)
    (ha : 0 ≤ x.f2 ∧ x.f2 < 400) (hb : 0 ≤ x.f3 ∧ x.f3 < 400)
    (go : ∀ a' W' gx, TrF A c code v1 fill v8 v9 g (i : Int) (.pointer (some ⟨gx, 0, none⟩)) (.int .i64 (rd T x.f2)) (.int .i64 (rd T x.f3)) v15 a' → Tw w W' g T v8 ps v9 ts → Bx W' gx x → trB.wp Try.prog R a' W') :
    trS.wp Try.prog R a W := by
  rw [show trS = .seq (tr1 trS) (.seq (tr1 (tr2 trS)) trB) from rfl]
  generalize trB = KB at go ⊢
  have GO := Aside0.mk go
  obtain ⟨ad1, ea, k0, k1, k2, k3, k4, k5, k6, k7⟩ := at_T40 (Kd.C_below hC S.HB) (i : Int) (by omega) (by omega)
  cases ea
  simp only [Int.toNat_natCast] at k0 k1 k2 k3 k4 k5 k6 k7
  rw [show rd_T40 code (i : Int) = ins code i from rfl, hx] at k0 k1 k2 k3 k4 k5 k6 k7
  obtain ⟨o, d, a_, b, loc, len, kk, tt⟩ := x
  dsimp only at k0 k1 k2 k3 k4 k5 k6 k7 ha hb
  obtain ⟨ha0, ha1⟩ := ha
  obtain ⟨hb0, hb1⟩ := hb
  have q1 : ((i : Int) < (code.length : Int)) = True := eq_true (by omega)
  have q0 : (0 ≤ (i : Int)) = True := eq_true (by omega)
  have S0 := Aside0.mk S
  have KX : Aside0 (Bx (W.alloc (.cells #[.int .i64 o, .int .i64 d, .int .i64 a_, .int .i64 b, .int .i64 loc, .int .i64 len, .int .i64 kk, .int .i64 tt] 40)) W.heap.size ⟨o, d, a_, b, loc, len, kk, tt⟩) := ⟨blk_new _ _⟩
  have S1 := Aside0.mk (S0.out.alloc (.cells #[.int .i64 o, .int .i64 d, .int .i64 a_, .int .i64 b, .int .i64 loc, .int .i64 len, .int .i64 kk, .int .i64 tt] 40))
  clear S go hC hx
  unfold TrF at HF
  iterate 178 (obtain ⟨_, HF⟩ := HF)
  subst HF
  unfold trS Try.f29 tr1 tr2
  dsimp only
  go_wp2_with fail
  generalize hW1 : (W.alloc (.cells #[.int .i64 o, .int .i64 d, .int .i64 a_, .int .i64 b, .int .i64 loc, .int .i64 len, .int .i64 kk, .int .i64 tt] 40)) = W1 at KX S1 ⊢
  clear hW1 k0 k1 k2 k3 k4 k5 k6 k7 S0
  generalize W.heap.size = bx at KX ⊢
  have x2 := blk_cell KX.out 2
  have x3 := blk_cell KX.out 3
  have hta := S1.out.ctemp a_ ha0 ha1
  have htb := S1.out.ctemp b hb0 hb1
  go_quiet (fail)
  generalize hW2 : W1.drewN nq = W2
  have KY : Aside0 (Bx W2 bx ⟨o, d, a_, b, loc, len, kk, tt⟩) := ⟨by rw [← hW2]; exact blk_drewN KX.out _⟩
  have S2 : Aside0 (Tw w W2 g T v8 ps v9 ts) := ⟨by rw [← hW2]; exact S1.out.drewN _⟩
  go_wp2_with fail
  refine GO.out _ _ bx ?_ S2.out KY.out
  unfold TrF
  (repeat apply Exists.intro)
  exact rfl
set_option maxHeartbeats 8000000 in
set_option maxRecDepth 100000 in
theorem tr_R {A : Option Addr} {c : Nat} {code : List S40} {v1 : Value} {fill : Bool} {v8 v9 : Value} {g gx : Nat} {i : Nat} {v12 v13 v14 v15 : Value} {w W : World} {T ps ts : List Int} {a : Act} {R : Exit → Act → World → Prop} {An : Option Addr} {cn : Nat} {ans : List Int} (HF : TrF A c code v1 fill v8 v9 g (i : Int) v12 v13 v14 v15 a) (h1 : v1 = .slice An ans.length cn) (S : Tw w W g T v8 ps v9 ts) (hA : (Kd.int .i64).C w An ans.length ans) (hn : ts.length + ans.length ≤ 1000)
    (ret : ∀ a' W' v9', a'.tmps.getD 6 undef = v8 → a'.tmps.getD 7 undef = v9' → a'.defers = [] → Tw w W' g T v8 ps v9' (ts ++ ans) → R .ret a' W') : trR.wp Try.prog R a W := by
  subst h1
  obtain ⟨A9, c9, rfl⟩ := Kd.R_slice S.R9
  have GO := Aside0.mk ret
  have SA := Aside0.mk S
  have HA := Aside0.mk hA
  have HN := Aside0.mk hn
  clear ret S hA hn
  unfold trR trB trS Try.f29
  dsimp only
  unfold TrF at HF
  iterate 178 (obtain ⟨_, HF⟩ := HF)
  subst HF
  go_wp2_with (at_builtin; refine Kd.R_append_rows (Kd.int .i64) (Rr := (Kd.int .i64).K W) (w0 := w) w.heap.size rfl (.tmp 62) (.tmp 63) 24 2 (.int .i64 0) 8 rfl Try.underlying24 info2 rfl (by decide) (by omega) _ ts ans An _ _ (fun _ => True) (fun _ => False) rfl rfl SA.out.R9 (Kd.C_below HA.out SA.out.HB) (fun _ _ h => h) (fun _ h => h.elim) (fun _ _ => trivial) SA.out.HB SA.out.HB.size (by have := HN.out; omega) ?_; intro v5 w5 h1 h2 h3 h4; have S5 := Aside0.mk (SA.out.app9 h3 h2 h1); clear h1 h2 h3 h4)
  exact GO.out _ _ _ rfl rfl rfl S5.out
set_option maxHeartbeats 8000000 in
set_option maxRecDepth 100000 in
theorem tr_X {A : Option Addr} {c : Nat} {code : List S40} {v1 : Value} {fill : Bool} {v8 v9 : Value} {g gx : Nat} {i : Nat} {v12 v13 v14 v15 : Value} {w W : World} {T ps ts : List Int} {a : Act} {R : Exit → Act → World → Prop} {sb : Bool} {x : S40} (HF : TrF A c code v1 fill v8 v9 g (i : Int) (.pointer (some ⟨gx, 0, none⟩)) v13 v14 v15 a) (S : Tw w W g T v8 ps v9 ts) (KX : Bx W gx x)
    (hs : ∀ W, Below w.heap.size w W → Calls Try.prog 28 #[.slice A code.length c, .int .i64 (i : Int)] W fun e w' => e = .returned (.bool sb) ∧ Below W.heap.size W w')
    (go : ∀ a' W', TrF A c code v1 fill v8 v9 g (i : Int) (.pointer (some ⟨gx, 0, none⟩)) v13 v14 v15 a' → a'.tmps.getD 79 undef = .bool (fill && sb) → Tw w W' g T v8 ps v9 ts → Bx W' gx x → trP.wp Try.prog R a' W') :
    (tr1 trAsk).wp Try.prog R a W := by
  rw [show tr1 trAsk = .seq (tr1 (tr1 trAsk)) trP from rfl]
  generalize trP = KP at go ⊢
  have GO := Aside0.mk go
  have S0 := Aside0.mk S
  have X0 := Aside0.mk KX
  have HS := Aside0.mk hs
  clear go S KX hs
  unfold TrF at HF
  iterate 178 (obtain ⟨_, HF⟩ := HF)
  subst HF
  unfold trAsk trC trB trS Try.f29 tr1
  dsimp only
  cases fill
  · as_aux_lemma =>
      go_wp2_with fail
      refine GO.out _ _ ?_ rfl S0.out X0.out
      unfold TrF
      (repeat apply Exists.intro)
      exact rfl
  · cases sb
    · as_aux_lemma =>
        go_wp2_with (go_at_call 28; refine (HS.out _ S0.out.HB).mono ?_; rintro e w2 ⟨rfl, hb⟩; have S1 := Aside0.mk (S0.out.below hb); have X1 := Aside0.mk (blk_below X0.out hb); clear hb)
        refine GO.out _ _ ?_ rfl S1.out X1.out
        unfold TrF
        (repeat apply Exists.intro)
        exact rfl
    · as_aux_lemma =>
        go_wp2_with (go_at_call 28; refine (HS.out _ S0.out.HB).mono ?_; rintro e w2 ⟨rfl, hb⟩; have S1 := Aside0.mk (S0.out.below hb); have X1 := Aside0.mk (blk_below X0.out hb); clear hb)
        refine GO.out _ _ ?_ rfl S1.out X1.out
        unfold TrF
        (repeat apply Exists.intro)
        exact rfl
set_option maxHeartbeats 8000000 in
set_option maxRecDepth 100000 in
theorem tr_K {A : Option Addr} {c : Nat} {code : List S40} {v1 : Value} {fill : Bool} {v8 v9 : Value} {g gx : Nat} {i : Nat} {v12 v13 v14 v15 : Value} {w W : World} {T ps ts : List Int} {a : Act} {R : Exit → Act → World → Prop} {kv : Int} {x : S40} (HF : TrF A c code v1 fill v8 v9 g (i : Int) (.pointer (some ⟨gx, 0, none⟩)) v13 v14 v15 a) (h79 : a.tmps.getD 79 undef = .bool true) (S : Tw w W g T v8 ps v9 ts) (KX : Bx W gx x) (hk0 : 0 ≤ kv) (hk1 : kv < 400)
    (hs : ∀ W, Below w.heap.size w W → Calls Try.prog 44 #[.slice A code.length c, .int .i64 (i : Int), .int .i64 x.f4] W fun e w' => e = .returned (.int .i64 kv) ∧ Below W.heap.size W w')
    (go : ∀ a' W', TrF A c code v1 fill v8 v9 g (i : Int) (.pointer (some ⟨gx, 0, none⟩)) v13 v14 (.int .i64 (rd T kv)) a' → Tw w W' g T v8 ps v9 ts → Bx W' gx x → R .normal a' W') :
    trP.wp Try.prog R a W := by
  have GO := Aside0.mk go
  have S0 := Aside0.mk S
  have X0 := Aside0.mk KX
  have HS := Aside0.mk hs
  have x4 := blk_cell KX 4
  obtain ⟨o, d, a_, b, loc, len, kk, tt⟩ := x
  dsimp only at x4 HS GO
  clear go S KX hs
  unfold TrF at HF
  iterate 178 (obtain ⟨_, HF⟩ := HF)
  subst HF
  replace h79 := tr_get h79 rfl
  subst h79
  unfold trP trAsk trC trB trS Try.f29 tr1 tr2
  dsimp only
  go_wp2_with (go_at_call 44; refine (HS.out _ S0.out.HB).mono ?_; rintro e w2 ⟨rfl, hb⟩; have S1 := Aside0.mk (S0.out.below hb); have X1 := Aside0.mk (blk_below X0.out hb); have htk := S1.out.ctemp kv hk0 hk1; clear hb)
  refine GO.out _ _ ?_ S1.out X1.out
  unfold TrF
  (repeat apply Exists.intro)
  exact rfl
set_option maxHeartbeats 8000000 in
set_option maxRecDepth 100000 in
theorem tr_N {A : Option Addr} {c : Nat} {code : List S40} {v1 : Value} {fill : Bool} {v8 v9 : Value} {g gx : Nat} {i : Nat} {v12 v13 v14 v15 : Value} {w W : World} {T ps ts : List Int} {a : Act} {R : Exit → Act → World → Prop} {An : Option Addr} {cn : Nat} (HF : TrF A c code v1 fill v8 v9 g (i : Int) v12 v13 v14 v15 a) (h79 : a.tmps.getD 79 undef = .bool false) (h1 : v1 = .slice An 0 cn)
    (ret : ∀ a', a'.tmps.getD 6 undef = v8 → a'.tmps.getD 7 undef = v9 → a'.defers = [] → R .ret a' W) :
    trP.wp Try.prog R a W := by
  subst h1
  have GO := Aside0.mk ret
  clear ret
  unfold TrF at HF
  iterate 178 (obtain ⟨_, HF⟩ := HF)
  subst HF
  replace h79 := tr_get h79 rfl
  subst h79
  unfold trP trAsk trC trB trS Try.f29 tr1 tr2
  dsimp only
  go_wp2_with fail
  exact GO.out _ rfl rfl rfl
set_option maxHeartbeats 8000000 in
set_option maxRecDepth 100000 in
theorem tr_Y {A : Option Addr} {c : Nat} {code : List S40} {v1 : Value} {fill : Bool} {v8 v9 : Value} {g gx : Nat} {i : Nat} {v12 v13 v14 v15 : Value} {w W : World} {T ps ts : List Int} {a : Act} {R : Exit → Act → World → Prop} {An : Option Addr} {cn : Nat} {y : Int} {s : List Int} (HF : TrF A c code v1 fill v8 v9 g (i : Int) v12 v13 v14 v15 a) (h79 : a.tmps.getD 79 undef = .bool false) (h1 : v1 = .slice An (y :: s).length cn) (hc : (y :: s).length ≤ cn) (hn : s.length ≤ 1000)
    (hB : Below w.heap.size w W) (hA : (Kd.int .i64).C w An (y :: s).length (y :: s))
    (go : ∀ a' Ab, TrF A c code (.slice Ab s.length (cn - 1)) fill v8 v9 g (i : Int) v12 v13 v14 (.int .i64 y) a' → (Kd.int .i64).C w Ab s.length s → R .normal a' W) :
    trP.wp Try.prog R a W := by
  subst h1
  obtain ⟨ad, ea, hx⟩ := Kd.at_int (Kd.C_below hA hB) 0 (by omega) (by simp)
  cases ea
  have hx0 : W.cell? ad = some (.int .i64 y) := by simpa [Addr.add, rd] using hx
  clear hx
  have hlen : (y :: s).length = s.length + 1 := rfl
  have q1 : ((0 : Int) < ((y :: s).length : Int)) = True := eq_true (by rw [hlen]; omega)
  have e1 : (((y :: s).length : Int) == 0) = false := beq_eq_false_iff_ne.2 (by rw [hlen]; omega)
  obtain ⟨i2, hi2, hs2⟩ : ∃ i, Try.prog.info? 2 = some i ∧ i.size = 1 := ⟨_, rfl, by kernel_rfl⟩
  have hcut := cut_from (P := Try.prog) 24 2 .i64 Try.underlying24 hi2 1 hs2 (some ad) (y :: s).length cn 1 (by omega) (by rw [hlen]; omega)
  have hdrop := Kd.C_drop (m := 1) (c := cn) hA (by rw [hlen]; omega) hc
  simp only [Nat.mul_one, show (Kd.int .i64).sz = 1 from rfl, show (1 : Int).toNat = 1 from rfl, List.drop_succ_cons, List.drop_zero, hlen, Nat.add_sub_cancel] at hcut hdrop
  generalize (if cn = 1 then some ad else (some ad).map fun x => x.add 1) = Ab at hcut hdrop
  have HD := Aside0.mk hdrop
  simp only [hlen] at e1 q1 HF
  have GO := Aside0.mk go
  clear go hdrop hc hlen hA hB
  unfold TrF at HF
  iterate 178 (obtain ⟨_, HF⟩ := HF)
  subst HF
  replace h79 := tr_get h79 rfl
  subst h79
  unfold trP trAsk trC trB trS Try.f29 tr1 tr2
  dsimp only
  go_wp2_with fail
  refine GO.out _ Ab ?_ HD.out
  unfold TrF
  (repeat apply Exists.intro)
  exact rfl
set_option maxHeartbeats 8000000 in
set_option maxRecDepth 100000 in
theorem tr_App {A : Option Addr} {c : Nat} {code : List S40} {v1 : Value} {fill : Bool} {v8 v9 : Value} {g gx : Nat} {i : Nat} {v12 v13 v14 v15 : Value} {w W : World} {T ps ts : List Int} {a : Act} {R : Exit → Act → World → Prop} {y : Int} (HF : TrF A c code v1 fill v8 v9 g (i : Int) v12 v13 v14 (.int .i64 y) a) (S : Tw w W g T v8 ps v9 ts) (hn : ts.length ≤ 1000 ∧ ps.length ≤ 1000) {x : S40} (KX : Bx W gx x)
    (go : ∀ a' W' v8' v9', TrF A c code v1 fill v8' v9' g (i : Int) v12 v13 v14 (.int .i64 y) a' → Tw w W' g T v8' (ps ++ [(i : Int)]) v9' (ts ++ [y]) → Bx W' gx x → R .normal a' W') : trApp.wp Try.prog R a W := by
  obtain ⟨A9, c9, rfl⟩ := Kd.R_slice S.R9
  obtain ⟨A8, c8, rfl⟩ := Kd.R_slice S.R8
  have GO := Aside0.mk go
  have SA := Aside0.mk S
  have HN := Aside0.mk hn
  have HX := Aside0.mk KX
  clear go S hn KX
  unfold trApp trAsk trC trB trS Try.f29
  dsimp only
  unfold TrF at HF
  iterate 178 (obtain ⟨_, HF⟩ := HF)
  subst HF
  go_wp2_with (first
    | (at_builtin; refine Kd.R_append (Kd.int .i64) (w0 := w) w.heap.size rfl (.tmp 97) (.tmp 99) 24 2 (.int .i64 0) 8 rfl Try.underlying24 info2 rfl (by decide) (by omega) _ ts y [.int .i64 y] (fun _ => True) (fun _ => False) rfl rfl rfl (fun _ hk => hk.elim) (fun _ _ => trivial) SA.out.R9 SA.out.HB SA.out.HB.size (by have := HN.out; omega) ?_; intro v5 w5 h1 h2 h3 h4; have S5 := Aside0.mk (SA.out.app9 h3 h2 h1); have X5 := Aside0.mk (blk_grown HX.out h3 (Kd.R_ne SA.out.R9 HX.out (by decide))); clear h1 h2 h3 h4)
    | (at_builtin; refine Kd.R_append (Kd.int .i64) (w0 := w) w.heap.size rfl (.tmp 101) (.tmp 103) 57 3 (.int .i64 0) 8 rfl Try.underlying57 info3 rfl (by decide) (by omega) _ ps (i : Int) [.int .i64 (i : Int)] (fun _ => True) (fun _ => False) rfl rfl rfl (fun _ hk => hk.elim) (fun _ _ => trivial) S5.out.R8 S5.out.HB S5.out.HB.size (by have := HN.out; omega) ?_; intro v6 w6 h1 h2 h3 h4; have S6 := Aside0.mk (S5.out.app8 h3 h2 h1); have X6 := Aside0.mk (blk_grown X5.out h3 (Kd.R_ne S5.out.R8 X5.out (by decide))); clear h1 h2 h3 h4))
  refine GO.out _ _ _ _ ?_ S6.out X6.out
  unfold TrF
  (repeat apply Exists.intro)
  exact rfl
end Go.Proofs.Ytdmbnlpcfgphpaa.Q
namespace Go.Proofs.Ytdmbnlpcfgphpaa.Q
open Go.RowKit Go.Proofs.YtdmbnlpcfgphpaaW.PrintWords Go.Proofs.YtdmbnlpcfgphpaaW.PrintLast Go.Proofs.YtdmbnlpcfgphpaaW.PrintMore
set_option linter.unusedVariables false
set_option linter.unusedSimpArgs false
set_option maxHeartbeats 8000000 in
set_option maxRecDepth 100000 in
theorem tr_B {A : Option Addr} {c : Nat} {code : List S40} {v1 : Value} {fill : Bool} {v8 v9 : Value} {g gx : Nat} {i : Nat} {v12 v13 v14 v15 : Value} {w W : World} {T ps ts : List Int} {a : Act} {R : Exit → Act → World → Prop} (HF : TrF A c code v1 fill v8 v9 g (i : Int) (.pointer (some ⟨gx, 0, none⟩)) v13 v14 v15 a) {x : S40} (h13 : v13 = .int .i64 (rd T x.f2)) (h14 : v14 = .int .i64 (rd T x.f3)) (KX : Bx W gx x) (hok : okO x.f0 = true)
    (hr : endsA x T = true → ∀ K a', TrF A c code v1 fill v8 v9 g (i : Int) (.pointer (some ⟨gx, 0, none⟩)) v13 v14 v15 a' → trR.wp Try.prog (Exit.then K R) a' W)
    (hc : endsA x T = false → ∀ a', TrF A c code v1 fill v8 v9 g (i : Int) (.pointer (some ⟨gx, 0, none⟩)) v13 v14 v15 a' → trC.wp Try.prog R a' W) :
    trB.wp Try.prog R a W := by
  subst h13 h14
  rw [show trB = .seq (.seq (tr1 (tr1 trB)) (.cond (.tmp 60) trR .skip)) trC from rfl]
  generalize trR = KR at hr ⊢
  generalize trC = KC at hc ⊢
  unfold trB trS Try.f29 tr1
  dsimp only
  obtain ⟨o, d, a_, b, loc, len, kk, tt⟩ := x
  dsimp only at hok hr hc HF ⊢
  have x0 := blk_cell KX 0
  have x5 := blk_cell KX 5
  unfold TrF at HF
  iterate 178 (obtain ⟨_, HF⟩ := HF)
  subst HF
  rcases op_cases hok with rfl | rfl | rfl | rfl | rfl | rfl | rfl | rfl | rfl | rfl | rfl | rfl | rfl | rfl | rfl | rfl | rfl | rfl
  · have e : endsA ⟨1, d, a_, b, loc, len, kk, tt⟩ T = false := rfl
    have GO := Aside0.mk (hc e)
    clear hr hc e
    as_aux_lemma =>
      go_wp2_with fail
      refine GO.out _ ?_
      unfold TrF
      (repeat apply Exists.intro)
      exact rfl
  · have e : endsA ⟨2, d, a_, b, loc, len, kk, tt⟩ T = false := rfl
    have GO := Aside0.mk (hc e)
    clear hr hc e
    as_aux_lemma =>
      go_wp2_with fail
      refine GO.out _ ?_
      unfold TrF
      (repeat apply Exists.intro)
      exact rfl
  · have e : endsA ⟨3, d, a_, b, loc, len, kk, tt⟩ T = false := rfl
    have GO := Aside0.mk (hc e)
    clear hr hc e
    as_aux_lemma =>
      go_wp2_with fail
      refine GO.out _ ?_
      unfold TrF
      (repeat apply Exists.intro)
      exact rfl
  · have e : endsA ⟨4, d, a_, b, loc, len, kk, tt⟩ T = false := rfl
    have GO := Aside0.mk (hc e)
    clear hr hc e
    as_aux_lemma =>
      go_wp2_with fail
      refine GO.out _ ?_
      unfold TrF
      (repeat apply Exists.intro)
      exact rfl
  · by_cases hz : rd T b = 0
    · have c1 : (rd T b == 0) = true := beq_iff_eq.2 hz
      have e : endsA ⟨5, d, a_, b, loc, len, kk, tt⟩ T = true := by simp [endsA, hz]
      have GO := Aside0.mk (hr e)
      clear hr hc e
      clear hz
      as_aux_lemma =>
        go_wp2_with fail
        refine GO.out _ _ ?_
        unfold TrF
        (repeat apply Exists.intro)
        exact rfl
    · have c1 : (rd T b == 0) = false := beq_eq_false_iff_ne.2 hz
      have e : endsA ⟨5, d, a_, b, loc, len, kk, tt⟩ T = false := by simp [endsA, hz]
      have GO := Aside0.mk (hc e)
      clear hr hc e
      clear hz
      as_aux_lemma =>
        go_wp2_with fail
        refine GO.out _ ?_
        unfold TrF
        (repeat apply Exists.intro)
        exact rfl
  · have e : endsA ⟨6, d, a_, b, loc, len, kk, tt⟩ T = false := rfl
    have GO := Aside0.mk (hc e)
    clear hr hc e
    as_aux_lemma =>
      go_wp2_with fail
      refine GO.out _ ?_
      unfold TrF
      (repeat apply Exists.intro)
      exact rfl
  · have e : endsA ⟨7, d, a_, b, loc, len, kk, tt⟩ T = false := rfl
    have GO := Aside0.mk (hc e)
    clear hr hc e
    as_aux_lemma =>
      go_wp2_with fail
      refine GO.out _ ?_
      unfold TrF
      (repeat apply Exists.intro)
      exact rfl
  · have e : endsA ⟨8, d, a_, b, loc, len, kk, tt⟩ T = false := rfl
    have GO := Aside0.mk (hc e)
    clear hr hc e
    as_aux_lemma =>
      go_wp2_with fail
      refine GO.out _ ?_
      unfold TrF
      (repeat apply Exists.intro)
      exact rfl
  · have e : endsA ⟨9, d, a_, b, loc, len, kk, tt⟩ T = false := rfl
    have GO := Aside0.mk (hc e)
    clear hr hc e
    as_aux_lemma =>
      go_wp2_with fail
      refine GO.out _ ?_
      unfold TrF
      (repeat apply Exists.intro)
      exact rfl
  · have e : endsA ⟨10, d, a_, b, loc, len, kk, tt⟩ T = false := rfl
    have GO := Aside0.mk (hc e)
    clear hr hc e
    as_aux_lemma =>
      go_wp2_with fail
      refine GO.out _ ?_
      unfold TrF
      (repeat apply Exists.intro)
      exact rfl
  · have e : endsA ⟨11, d, a_, b, loc, len, kk, tt⟩ T = false := rfl
    have GO := Aside0.mk (hc e)
    clear hr hc e
    as_aux_lemma =>
      go_wp2_with fail
      refine GO.out _ ?_
      unfold TrF
      (repeat apply Exists.intro)
      exact rfl
  · have e : endsA ⟨12, d, a_, b, loc, len, kk, tt⟩ T = false := rfl
    have GO := Aside0.mk (hc e)
    clear hr hc e
    as_aux_lemma =>
      go_wp2_with fail
      refine GO.out _ ?_
      unfold TrF
      (repeat apply Exists.intro)
      exact rfl
  · by_cases hl : rd T a_ < 0
    · have c1 : decide (rd T a_ < 0) = true := decide_eq_true hl
      have e : endsA ⟨13, d, a_, b, loc, len, kk, tt⟩ T = true := by simp [endsA, hl]
      have GO := Aside0.mk (hr e)
      clear hr hc e
      clear hl
      as_aux_lemma =>
        go_wp2_with fail
        refine GO.out _ _ ?_
        unfold TrF
        (repeat apply Exists.intro)
        exact rfl
    · have c1 : decide (rd T a_ < 0) = false := decide_eq_false hl
      by_cases hh : len ≤ rd T a_
      · have c2 : decide (len ≤ rd T a_) = true := decide_eq_true hh
        have e : endsA ⟨13, d, a_, b, loc, len, kk, tt⟩ T = true := by simp [endsA, hh]
        have GO := Aside0.mk (hr e)
        clear hr hc e
        clear hl hh
        as_aux_lemma =>
          go_wp2_with fail
          refine GO.out _ _ ?_
          unfold TrF
          (repeat apply Exists.intro)
          exact rfl
      · have c2 : decide (len ≤ rd T a_) = false := decide_eq_false hh
        have e : endsA ⟨13, d, a_, b, loc, len, kk, tt⟩ T = false := by simp [endsA]; omega
        have GO := Aside0.mk (hc e)
        clear hr hc e
        clear hl hh
        as_aux_lemma =>
          go_wp2_with fail
          refine GO.out _ ?_
          unfold TrF
          (repeat apply Exists.intro)
          exact rfl
  · by_cases hl : rd T a_ < 0
    · have c1 : decide (rd T a_ < 0) = true := decide_eq_true hl
      have e : endsA ⟨14, d, a_, b, loc, len, kk, tt⟩ T = true := by simp [endsA, hl]
      have GO := Aside0.mk (hr e)
      clear hr hc e
      clear hl
      as_aux_lemma =>
        go_wp2_with fail
        refine GO.out _ _ ?_
        unfold TrF
        (repeat apply Exists.intro)
        exact rfl
    · have c1 : decide (rd T a_ < 0) = false := decide_eq_false hl
      by_cases hh : len ≤ rd T a_
      · have c2 : decide (len ≤ rd T a_) = true := decide_eq_true hh
        have e : endsA ⟨14, d, a_, b, loc, len, kk, tt⟩ T = true := by simp [endsA, hh]
        have GO := Aside0.mk (hr e)
        clear hr hc e
        clear hl hh
        as_aux_lemma =>
          go_wp2_with fail
          refine GO.out _ _ ?_
          unfold TrF
          (repeat apply Exists.intro)
          exact rfl
      · have c2 : decide (len ≤ rd T a_) = false := decide_eq_false hh
        have e : endsA ⟨14, d, a_, b, loc, len, kk, tt⟩ T = false := by simp [endsA]; omega
        have GO := Aside0.mk (hc e)
        clear hr hc e
        clear hl hh
        as_aux_lemma =>
          go_wp2_with fail
          refine GO.out _ ?_
          unfold TrF
          (repeat apply Exists.intro)
          exact rfl
  · have e : endsA ⟨15, d, a_, b, loc, len, kk, tt⟩ T = false := rfl
    have GO := Aside0.mk (hc e)
    clear hr hc e
    as_aux_lemma =>
      go_wp2_with fail
      refine GO.out _ ?_
      unfold TrF
      (repeat apply Exists.intro)
      exact rfl
  · have e : endsA ⟨16, d, a_, b, loc, len, kk, tt⟩ T = false := rfl
    have GO := Aside0.mk (hc e)
    clear hr hc e
    as_aux_lemma =>
      go_wp2_with fail
      refine GO.out _ ?_
      unfold TrF
      (repeat apply Exists.intro)
      exact rfl
  · have e : endsA ⟨17, d, a_, b, loc, len, kk, tt⟩ T = false := rfl
    have GO := Aside0.mk (hc e)
    clear hr hc e
    as_aux_lemma =>
      go_wp2_with fail
      refine GO.out _ ?_
      unfold TrF
      (repeat apply Exists.intro)
      exact rfl
  · have e : endsA ⟨18, d, a_, b, loc, len, kk, tt⟩ T = true := rfl
    have GO := Aside0.mk (hr e)
    clear hr hc e
    as_aux_lemma =>
      go_wp2_with fail
      refine GO.out _ _ ?_
      unfold TrF
      (repeat apply Exists.intro)
      exact rfl
end Go.Proofs.Ytdmbnlpcfgphpaa.Q
namespace Go.Proofs.Ytdmbnlpcfgphpaa.Q
open Go.RowKit Go.Proofs.YtdmbnlpcfgphpaaW.PrintWords Go.Proofs.YtdmbnlpcfgphpaaW.PrintLast Go.Proofs.YtdmbnlpcfgphpaaW.PrintMore
set_option linter.unusedVariables false
set_option linter.unusedSimpArgs false
set_option maxHeartbeats 8000000 in
set_option maxRecDepth 100000 in
theorem tr_C {A : Option Addr} {c : Nat} {code : List S40} {v1 : Value} {fill : Bool} {v8 v9 : Value} {g gx : Nat} {i : Nat} {v12 v13 v14 v15 : Value} {w W : World} {T ps ts : List Int} {a : Act} {R : Exit → Act → World → Prop} (HF : TrF A c code v1 fill v8 v9 g (i : Int) (.pointer (some ⟨gx, 0, none⟩)) v13 v14 v15 a) {x : S40} (KX : Bx W gx x) (hok : okO x.f0 = true)
    (ha : isAsk x.f0 = true → ∀ K, (∀ a w, trD.wp Try.prog R a w → K a w) → ∀ a', TrF A c code v1 fill v8 v9 g (i : Int) (.pointer (some ⟨gx, 0, none⟩)) v13 v14 (.int .i64 0) a' → trAsk.wp Try.prog (Exit.inBlock 2 (Exit.then K R)) a' W)
    (ht : isAsk x.f0 = false → ∀ K, (∀ a w, trD.wp Try.prog R a w → K a w) → ∀ a', TrF A c code v1 fill v8 v9 g (i : Int) (.pointer (some ⟨gx, 0, none⟩)) v13 v14 (.int .i64 0) a' → a'.tmps.getD 66 undef = .int .i64 x.f0 → trTell.wp Try.prog (Exit.inBlock 2 (Exit.then K R)) a' W) :
    trC.wp Try.prog R a W := by
  rw [show trC = .seq (tr1 trC) (.seq (.seq (tr1 (tr1 (tr2 trC))) (.block 2 (.seq (tr1 (trBl (tr2 (tr1 (tr2 trC))))) (.cond (.tmp 67) trAsk trTell)))) trD) from rfl]
  generalize trAsk = KA at ha ⊢
  generalize trTell = KT at ht ⊢
  generalize trD = KD at ha ht ⊢
  unfold trC trB trS Try.f29 tr1 tr2 trBl
  dsimp only
  obtain ⟨o, d, a_, b, loc, len, kk, tt⟩ := x
  dsimp only at hok ha ht HF ⊢
  have x0 := blk_cell KX 0
  unfold TrF at HF
  iterate 178 (obtain ⟨_, HF⟩ := HF)
  subst HF
  rcases op_cases hok with rfl | rfl | rfl | rfl | rfl | rfl | rfl | rfl | rfl | rfl | rfl | rfl | rfl | rfl | rfl | rfl | rfl | rfl
  · have GO := Aside0.mk (ht rfl)
    clear ha ht
    as_aux_lemma =>
      go_wp2_with fail
      rename_i hK
      refine GO.out _ hK _ ?_ rfl
      unfold TrF
      (repeat apply Exists.intro)
      exact rfl
  · have GO := Aside0.mk (ht rfl)
    clear ha ht
    as_aux_lemma =>
      go_wp2_with fail
      rename_i hK
      refine GO.out _ hK _ ?_ rfl
      unfold TrF
      (repeat apply Exists.intro)
      exact rfl
  · have GO := Aside0.mk (ht rfl)
    clear ha ht
    as_aux_lemma =>
      go_wp2_with fail
      rename_i hK
      refine GO.out _ hK _ ?_ rfl
      unfold TrF
      (repeat apply Exists.intro)
      exact rfl
  · have GO := Aside0.mk (ht rfl)
    clear ha ht
    as_aux_lemma =>
      go_wp2_with fail
      rename_i hK
      refine GO.out _ hK _ ?_ rfl
      unfold TrF
      (repeat apply Exists.intro)
      exact rfl
  · have GO := Aside0.mk (ht rfl)
    clear ha ht
    as_aux_lemma =>
      go_wp2_with fail
      rename_i hK
      refine GO.out _ hK _ ?_ rfl
      unfold TrF
      (repeat apply Exists.intro)
      exact rfl
  · have GO := Aside0.mk (ha rfl)
    clear ha ht
    as_aux_lemma =>
      go_wp2_with fail
      rename_i hK
      refine GO.out _ hK _ ?_
      unfold TrF
      (repeat apply Exists.intro)
      exact rfl
  · have GO := Aside0.mk (ht rfl)
    clear ha ht
    as_aux_lemma =>
      go_wp2_with fail
      rename_i hK
      refine GO.out _ hK _ ?_ rfl
      unfold TrF
      (repeat apply Exists.intro)
      exact rfl
  · have GO := Aside0.mk (ha rfl)
    clear ha ht
    as_aux_lemma =>
      go_wp2_with fail
      rename_i hK
      refine GO.out _ hK _ ?_
      unfold TrF
      (repeat apply Exists.intro)
      exact rfl
  · have GO := Aside0.mk (ht rfl)
    clear ha ht
    as_aux_lemma =>
      go_wp2_with fail
      rename_i hK
      refine GO.out _ hK _ ?_ rfl
      unfold TrF
      (repeat apply Exists.intro)
      exact rfl
  · have GO := Aside0.mk (ha rfl)
    clear ha ht
    as_aux_lemma =>
      go_wp2_with fail
      rename_i hK
      refine GO.out _ hK _ ?_
      unfold TrF
      (repeat apply Exists.intro)
      exact rfl
  · have GO := Aside0.mk (ha rfl)
    clear ha ht
    as_aux_lemma =>
      go_wp2_with fail
      rename_i hK
      refine GO.out _ hK _ ?_
      unfold TrF
      (repeat apply Exists.intro)
      exact rfl
  · have GO := Aside0.mk (ha rfl)
    clear ha ht
    as_aux_lemma =>
      go_wp2_with fail
      rename_i hK
      refine GO.out _ hK _ ?_
      unfold TrF
      (repeat apply Exists.intro)
      exact rfl
  · have GO := Aside0.mk (ha rfl)
    clear ha ht
    as_aux_lemma =>
      go_wp2_with fail
      rename_i hK
      refine GO.out _ hK _ ?_
      unfold TrF
      (repeat apply Exists.intro)
      exact rfl
  · have GO := Aside0.mk (ht rfl)
    clear ha ht
    as_aux_lemma =>
      go_wp2_with fail
      rename_i hK
      refine GO.out _ hK _ ?_ rfl
      unfold TrF
      (repeat apply Exists.intro)
      exact rfl
  · have GO := Aside0.mk (ht rfl)
    clear ha ht
    as_aux_lemma =>
      go_wp2_with fail
      rename_i hK
      refine GO.out _ hK _ ?_ rfl
      unfold TrF
      (repeat apply Exists.intro)
      exact rfl
  · have GO := Aside0.mk (ht rfl)
    clear ha ht
    as_aux_lemma =>
      go_wp2_with fail
      rename_i hK
      refine GO.out _ hK _ ?_ rfl
      unfold TrF
      (repeat apply Exists.intro)
      exact rfl
  · have GO := Aside0.mk (ht rfl)
    clear ha ht
    as_aux_lemma =>
      go_wp2_with fail
      rename_i hK
      refine GO.out _ hK _ ?_ rfl
      unfold TrF
      (repeat apply Exists.intro)
      exact rfl
  · have GO := Aside0.mk (ht rfl)
    clear ha ht
    as_aux_lemma =>
      go_wp2_with fail
      rename_i hK
      refine GO.out _ hK _ ?_ rfl
      unfold TrF
      (repeat apply Exists.intro)
      exact rfl
end Go.Proofs.Ytdmbnlpcfgphpaa.Q
namespace Go.Proofs.Ytdmbnlpcfgphpaa.Q
open Go.RowKit Go.Proofs.YtdmbnlpcfgphpaaW.PrintWords Go.Proofs.YtdmbnlpcfgphpaaW.PrintLast Go.Proofs.YtdmbnlpcfgphpaaW.PrintMore
set_option linter.unusedVariables false
set_option linter.unusedSimpArgs false
set_option maxHeartbeats 8000000 in
set_option maxRecDepth 100000 in
theorem tr_D {A : Option Addr} {c : Nat} {code : List S40} {v1 : Value} {fill : Bool} {v8 v9 : Value} {g gx : Nat} {i : Nat} {v12 v13 v14 v15 : Value} {w W : World} {T ps ts : List Int} {a : Act} {R : Exit → Act → World → Prop} {x : S40} {old : Int} (HF : TrF A c code v1 fill v8 v9 g (i : Int) (.pointer (some ⟨gx, 0, none⟩)) v13 v14 v15 a) (h13 : v13 = .int .i64 (rd T x.f2)) (h14 : v14 = .int .i64 (rd T x.f3)) (h15 : v15 = .int .i64 old) (S : Tw w W g T v8 ps v9 ts) (KX : Bx W gx x) (hi : i < code.length) (hn : code.length ≤ 400) (hok : okO x.f0 = true) (he : endsA x T = false) (hd : 0 ≤ x.f1 ∧ x.f1 < 400)
    (go : ∀ a' W', TrF A c code v1 fill v8 v9 g (tnxt x (i : Int) T old) (.pointer (some ⟨gx, 0, none⟩)) v13 v14 v15 a' → Tw w W' g (tnew x T old) v8 ps v9 ts → R .normal a' W') :
    trD.wp Try.prog R a W := by
  subst h13 h14 h15
  obtain ⟨o, d, a_, b, loc, len, kk, tt⟩ := x
  dsimp only at hok go HF hd
  obtain ⟨hd0, hd1⟩ := hd
  have GO := Aside0.mk go
  have S0 := Aside0.mk S
  have nx : ¬ gx = g := blk_ne KX S.b10 (by decide)
  have hlx := blk_lt KX
  have hlg := blk_lt S.b10
  have x0 := blk_cell KX 0
  have x1 := blk_cell KX 1
  have x6 := blk_cell KX 6
  have x7 := blk_cell KX 7
  have td := S.ctemp d hd0 hd1
  have tf := blk_frozen S.b10
  clear go S KX
  unfold TrF at HF
  iterate 178 (obtain ⟨_, HF⟩ := HF)
  subst HF
  unfold trD trC trB trS Try.f29
  dsimp only
  rcases op_cases hok with rfl | rfl | rfl | rfl | rfl | rfl | rfl | rfl | rfl | rfl | rfl | rfl | rfl | rfl | rfl | rfl | rfl | rfl
  · clear he
    as_aux_lemma =>
      go_wp2_with fail
      have GO2 := GO.out
      rw [show tnxt ⟨1, d, a_, b, loc, len, kk, tt⟩ (i : Int) T old = (i : Int) + 1 from rfl, show tnew ⟨1, d, a_, b, loc, len, kk, tt⟩ T old = T.set d.toNat (kk) from rfl] at GO2
      refine GO2 _ _ ?_ (S0.out.put d _)
      unfold TrF
      (repeat apply Exists.intro)
      exact rfl
  · clear he
    as_aux_lemma =>
      go_wp2_with fail
      have GO2 := GO.out
      rw [show tnxt ⟨2, d, a_, b, loc, len, kk, tt⟩ (i : Int) T old = (i : Int) + 1 from rfl, show tnew ⟨2, d, a_, b, loc, len, kk, tt⟩ T old = T.set d.toNat (wrap64 (rd T a_ + rd T b)) from rfl] at GO2
      refine GO2 _ _ ?_ (S0.out.put d _)
      unfold TrF
      (repeat apply Exists.intro)
      exact rfl
  · clear he
    as_aux_lemma =>
      go_wp2_with fail
      have GO2 := GO.out
      rw [show tnxt ⟨3, d, a_, b, loc, len, kk, tt⟩ (i : Int) T old = (i : Int) + 1 from rfl, show tnew ⟨3, d, a_, b, loc, len, kk, tt⟩ T old = T.set d.toNat (wrap64 (rd T a_ - rd T b)) from rfl] at GO2
      refine GO2 _ _ ?_ (S0.out.put d _)
      unfold TrF
      (repeat apply Exists.intro)
      exact rfl
  · clear he
    as_aux_lemma =>
      go_wp2_with fail
      have GO2 := GO.out
      rw [show tnxt ⟨4, d, a_, b, loc, len, kk, tt⟩ (i : Int) T old = (i : Int) + 1 from rfl, show tnew ⟨4, d, a_, b, loc, len, kk, tt⟩ T old = T.set d.toNat (wrap64 (rd T a_ * rd T b)) from rfl] at GO2
      refine GO2 _ _ ?_ (S0.out.put d _)
      unfold TrF
      (repeat apply Exists.intro)
      exact rfl
  · have hz : ¬ rd T b = 0 := by intro hz; simp [endsA, hz] at he
    have c1 : (rd T b == 0) = false := beq_eq_false_iff_ne.2 hz
    have x1k : ∀ v, ((W.setCell ⟨g, d.toNat, none⟩ v).drew).cell? ⟨gx, 1, none⟩ = some (.int .i64 d) := fun v => pw_cell_below (below_drew1 (Below.refl _ _)) ((cell_far (W := W) (a := ⟨gx, 1, none⟩) (p := ⟨g, d.toNat, none⟩) nx _).trans x1)
    clear he
    as_aux_lemma =>
      go_wp2_with fail
      go_region_held3 (fun w' => w'.cell? ⟨gx, 1, none⟩ = some (.int .i64 d)) (first | go_keep | exact (cell_far nx _).trans x1 | exact x1k _) (fail)
      go_wp2_with fail
      have GO2 := GO.out
      rw [show tnxt ⟨5, d, a_, b, loc, len, kk, tt⟩ (i : Int) T old = (i : Int) + 1 from rfl, show tnew ⟨5, d, a_, b, loc, len, kk, tt⟩ T old = T.set d.toNat (wrap64 ((rd T a_).tdiv (rd T b))) from rfl] at GO2
      refine GO2 _ _ ?_ (by rw [← IntWalk.i64_left]; exact (S0.out.put d _).drew)
      unfold TrF
      (repeat apply Exists.intro)
      exact rfl
  · clear he
    as_aux_lemma =>
      go_wp2_with fail
      have GO2 := GO.out
      rw [show tnxt ⟨6, d, a_, b, loc, len, kk, tt⟩ (i : Int) T old = (i : Int) + 1 from rfl, show tnew ⟨6, d, a_, b, loc, len, kk, tt⟩ T old = T.set d.toNat (old) from rfl] at GO2
      refine GO2 _ _ ?_ (S0.out.put d _)
      unfold TrF
      (repeat apply Exists.intro)
      exact rfl
  · clear he
    as_aux_lemma =>
      go_wp2_with fail
      have GO2 := GO.out
      rw [show tnxt ⟨7, d, a_, b, loc, len, kk, tt⟩ (i : Int) T old = (i : Int) + 1 from rfl, show tnew ⟨7, d, a_, b, loc, len, kk, tt⟩ T old = T from rfl] at GO2
      refine GO2 _ _ ?_ (S0.out)
      unfold TrF
      (repeat apply Exists.intro)
      exact rfl
  · clear he
    as_aux_lemma =>
      go_wp2_with fail
      have GO2 := GO.out
      rw [show tnxt ⟨8, d, a_, b, loc, len, kk, tt⟩ (i : Int) T old = (i : Int) + 1 from rfl, show tnew ⟨8, d, a_, b, loc, len, kk, tt⟩ T old = T.set d.toNat (old) from rfl] at GO2
      refine GO2 _ _ ?_ (S0.out.put d _)
      unfold TrF
      (repeat apply Exists.intro)
      exact rfl
  · clear he
    as_aux_lemma =>
      go_wp2_with fail
      have GO2 := GO.out
      rw [show tnxt ⟨9, d, a_, b, loc, len, kk, tt⟩ (i : Int) T old = (i : Int) + 1 from rfl, show tnew ⟨9, d, a_, b, loc, len, kk, tt⟩ T old = T from rfl] at GO2
      refine GO2 _ _ ?_ (S0.out)
      unfold TrF
      (repeat apply Exists.intro)
      exact rfl
  · clear he
    as_aux_lemma =>
      go_wp2_with fail
      have GO2 := GO.out
      rw [show tnxt ⟨10, d, a_, b, loc, len, kk, tt⟩ (i : Int) T old = (i : Int) + 1 from rfl, show tnew ⟨10, d, a_, b, loc, len, kk, tt⟩ T old = T.set d.toNat (old) from rfl] at GO2
      refine GO2 _ _ ?_ (S0.out.put d _)
      unfold TrF
      (repeat apply Exists.intro)
      exact rfl
  · clear he
    as_aux_lemma =>
      go_wp2_with fail
      have GO2 := GO.out
      rw [show tnxt ⟨11, d, a_, b, loc, len, kk, tt⟩ (i : Int) T old = (i : Int) + 1 from rfl, show tnew ⟨11, d, a_, b, loc, len, kk, tt⟩ T old = T.set d.toNat (old) from rfl] at GO2
      refine GO2 _ _ ?_ (S0.out.put d _)
      unfold TrF
      (repeat apply Exists.intro)
      exact rfl
  · by_cases hr : old = rd T a_
    · have e9 : tnxt ⟨12, d, a_, b, loc, len, kk, tt⟩ (i : Int) T old = (i : Int) + 1 := if_pos hr
      have c0 : (old != rd T a_) = false := by simpa using hr
      have E9 := Aside0.mk e9
      clear hr he e9
      as_aux_lemma =>
        go_wp2_with fail
        have GO2 := GO.out
        rw [show tnxt ⟨12, d, a_, b, loc, len, kk, tt⟩ (i : Int) T old = (i : Int) + 1 from E9.out, show tnew ⟨12, d, a_, b, loc, len, kk, tt⟩ T old = T from rfl] at GO2
        refine GO2 _ _ ?_ (S0.out)
        unfold TrF
        (repeat apply Exists.intro)
        exact rfl
    · have e9 : tnxt ⟨12, d, a_, b, loc, len, kk, tt⟩ (i : Int) T old = tt := if_neg hr
      have c0 : (old != rd T a_) = true := by simpa using hr
      have E9 := Aside0.mk e9
      clear hr he e9
      as_aux_lemma =>
        go_wp2_with fail
        have GO2 := GO.out
        rw [show tnxt ⟨12, d, a_, b, loc, len, kk, tt⟩ (i : Int) T old = tt from E9.out, show tnew ⟨12, d, a_, b, loc, len, kk, tt⟩ T old = T from rfl] at GO2
        refine GO2 _ _ ?_ (S0.out)
        unfold TrF
        (repeat apply Exists.intro)
        exact rfl
  · clear he
    as_aux_lemma =>
      go_wp2_with fail
      have GO2 := GO.out
      rw [show tnxt ⟨13, d, a_, b, loc, len, kk, tt⟩ (i : Int) T old = (i : Int) + 1 from rfl, show tnew ⟨13, d, a_, b, loc, len, kk, tt⟩ T old = T.set d.toNat (old) from rfl] at GO2
      refine GO2 _ _ ?_ (S0.out.put d _)
      unfold TrF
      (repeat apply Exists.intro)
      exact rfl
  · clear he
    as_aux_lemma =>
      go_wp2_with fail
      have GO2 := GO.out
      rw [show tnxt ⟨14, d, a_, b, loc, len, kk, tt⟩ (i : Int) T old = (i : Int) + 1 from rfl, show tnew ⟨14, d, a_, b, loc, len, kk, tt⟩ T old = T from rfl] at GO2
      refine GO2 _ _ ?_ (S0.out)
      unfold TrF
      (repeat apply Exists.intro)
      exact rfl
  · clear he
    as_aux_lemma =>
      go_wp2_with fail
      have GO2 := GO.out
      rw [show tnxt ⟨15, d, a_, b, loc, len, kk, tt⟩ (i : Int) T old = (i : Int) + 1 from rfl, show tnew ⟨15, d, a_, b, loc, len, kk, tt⟩ T old = T from rfl] at GO2
      refine GO2 _ _ ?_ (S0.out)
      unfold TrF
      (repeat apply Exists.intro)
      exact rfl
  · by_cases hr : rd T a_ < rd T b
    · have e9 : tnxt ⟨16, d, a_, b, loc, len, kk, tt⟩ (i : Int) T old = (i : Int) + 1 := if_pos hr
      have c0 : decide (rd T a_ < rd T b) = true := decide_eq_true hr
      have c1 : decide (rd T b ≤ rd T a_) = false := decide_eq_false (by omega)
      have E9 := Aside0.mk e9
      clear hr he e9
      as_aux_lemma =>
        go_wp2_with fail
        have GO2 := GO.out
        rw [show tnxt ⟨16, d, a_, b, loc, len, kk, tt⟩ (i : Int) T old = (i : Int) + 1 from E9.out, show tnew ⟨16, d, a_, b, loc, len, kk, tt⟩ T old = T from rfl] at GO2
        refine GO2 _ _ ?_ (S0.out)
        unfold TrF
        (repeat apply Exists.intro)
        exact rfl
    · have e9 : tnxt ⟨16, d, a_, b, loc, len, kk, tt⟩ (i : Int) T old = tt := if_neg hr
      have c0 : decide (rd T a_ < rd T b) = false := decide_eq_false hr
      have c1 : decide (rd T b ≤ rd T a_) = true := decide_eq_true (by omega)
      have E9 := Aside0.mk e9
      clear hr he e9
      as_aux_lemma =>
        go_wp2_with fail
        have GO2 := GO.out
        rw [show tnxt ⟨16, d, a_, b, loc, len, kk, tt⟩ (i : Int) T old = tt from E9.out, show tnew ⟨16, d, a_, b, loc, len, kk, tt⟩ T old = T from rfl] at GO2
        refine GO2 _ _ ?_ (S0.out)
        unfold TrF
        (repeat apply Exists.intro)
        exact rfl
  · by_cases hr : rd T a_ = rd T b
    · have e9 : tnxt ⟨17, d, a_, b, loc, len, kk, tt⟩ (i : Int) T old = (i : Int) + 1 := if_pos hr
      have c0 : (rd T a_ != rd T b) = false := by simpa using hr
      have E9 := Aside0.mk e9
      clear hr he e9
      as_aux_lemma =>
        go_wp2_with fail
        have GO2 := GO.out
        rw [show tnxt ⟨17, d, a_, b, loc, len, kk, tt⟩ (i : Int) T old = (i : Int) + 1 from E9.out, show tnew ⟨17, d, a_, b, loc, len, kk, tt⟩ T old = T from rfl] at GO2
        refine GO2 _ _ ?_ (S0.out)
        unfold TrF
        (repeat apply Exists.intro)
        exact rfl
    · have e9 : tnxt ⟨17, d, a_, b, loc, len, kk, tt⟩ (i : Int) T old = tt := if_neg hr
      have c0 : (rd T a_ != rd T b) = true := by simpa using hr
      have E9 := Aside0.mk e9
      clear hr he e9
      as_aux_lemma =>
        go_wp2_with fail
        have GO2 := GO.out
        rw [show tnxt ⟨17, d, a_, b, loc, len, kk, tt⟩ (i : Int) T old = tt from E9.out, show tnew ⟨17, d, a_, b, loc, len, kk, tt⟩ T old = T from rfl] at GO2
        refine GO2 _ _ ?_ (S0.out)
        unfold TrF
        (repeat apply Exists.intro)
        exact rfl
  · cases he
end Go.Proofs.Ytdmbnlpcfgphpaa.Q
namespace Go.Proofs.Ytdmbnlpcfgphpaa.Q
open Go.RowKit Go.Proofs.YtdmbnlpcfgphpaaW.PrintWords Go.Proofs.YtdmbnlpcfgphpaaW.PrintLast Go.Proofs.YtdmbnlpcfgphpaaW.PrintMore
set_option linter.unusedVariables false
set_option linter.unusedSimpArgs false
set_option maxHeartbeats 8000000 in
set_option maxRecDepth 100000 in
theorem tr_Tell {A : Option Addr} {c : Nat} {code : List S40} {v1 : Value} {fill : Bool} {v8 v9 : Value} {g gx : Nat} {i : Nat} {v12 v13 v14 v15 : Value} {w W : World} {T ps ts : List Int} {a : Act} {R : Exit → Act → World → Prop} (HF : TrF A c code v1 fill v8 v9 g (i : Int) v12 v13 v14 v15 a) (S : Tw w W g T v8 ps v9 ts) (hn : ps.length ≤ 1000) {x : S40} (KX : Bx W gx x) (o_ : Int) (h66 : a.tmps.getD 66 undef = .int .i64 o_) (hok : okO o_ = true)
    (go : ∀ a' W' v8', TrF A c code v1 fill v8' v9 g (i : Int) v12 v13 v14 v15 a' → Tw w W' g T v8' (if isTell o_ = true then ps ++ [(i : Int)] else ps) v9 ts → Bx W' gx x → R .normal a' W') : trTell.wp Try.prog R a W := by
  obtain ⟨A8, c8, rfl⟩ := Kd.R_slice S.R8
  have GO := Aside0.mk go
  have SA := Aside0.mk S
  have HN := Aside0.mk hn
  have HX := Aside0.mk KX
  clear go S hn KX
  unfold trTell trC trB trS Try.f29
  dsimp only
  unfold TrF at HF
  iterate 178 (obtain ⟨_, HF⟩ := HF)
  subst HF
  replace h66 := tr_get h66 rfl
  subst h66
  rcases op_cases hok with rfl | rfl | rfl | rfl | rfl | rfl | rfl | rfl | rfl | rfl | rfl | rfl | rfl | rfl | rfl | rfl | rfl | rfl
  · as_aux_lemma =>
      go_wp2_with fail
      refine GO.out _ _ _ ?_ SA.out HX.out
      unfold TrF
      (repeat apply Exists.intro)
      exact rfl
  · as_aux_lemma =>
      go_wp2_with fail
      refine GO.out _ _ _ ?_ SA.out HX.out
      unfold TrF
      (repeat apply Exists.intro)
      exact rfl
  · as_aux_lemma =>
      go_wp2_with fail
      refine GO.out _ _ _ ?_ SA.out HX.out
      unfold TrF
      (repeat apply Exists.intro)
      exact rfl
  · as_aux_lemma =>
      go_wp2_with fail
      refine GO.out _ _ _ ?_ SA.out HX.out
      unfold TrF
      (repeat apply Exists.intro)
      exact rfl
  · as_aux_lemma =>
      go_wp2_with fail
      refine GO.out _ _ _ ?_ SA.out HX.out
      unfold TrF
      (repeat apply Exists.intro)
      exact rfl
  · as_aux_lemma =>
      go_wp2_with fail
      refine GO.out _ _ _ ?_ SA.out HX.out
      unfold TrF
      (repeat apply Exists.intro)
      exact rfl
  · as_aux_lemma =>
      go_wp2_with (at_builtin; refine Kd.R_append (Kd.int .i64) (w0 := w) w.heap.size rfl (.tmp 110) (.tmp 112) 57 3 (.int .i64 0) 8 rfl Try.underlying57 info3 rfl (by decide) (by omega) _ ps (i : Int) [.int .i64 (i : Int)] (fun _ => True) (fun _ => False) rfl rfl rfl (fun _ hk => hk.elim) (fun _ _ => trivial) SA.out.R8 SA.out.HB SA.out.HB.size (by have := HN.out; omega) ?_; intro v6 w6 h1 h2 h3 h4; have S6 := Aside0.mk (SA.out.app8 h3 h2 h1); have X6 := Aside0.mk (blk_grown HX.out h3 (Kd.R_ne SA.out.R8 HX.out (by decide))); clear h1 h2 h3 h4)
      refine GO.out _ _ _ ?_ S6.out X6.out
      unfold TrF
      (repeat apply Exists.intro)
      exact rfl
  · as_aux_lemma =>
      go_wp2_with fail
      refine GO.out _ _ _ ?_ SA.out HX.out
      unfold TrF
      (repeat apply Exists.intro)
      exact rfl
  · as_aux_lemma =>
      go_wp2_with (at_builtin; refine Kd.R_append (Kd.int .i64) (w0 := w) w.heap.size rfl (.tmp 110) (.tmp 112) 57 3 (.int .i64 0) 8 rfl Try.underlying57 info3 rfl (by decide) (by omega) _ ps (i : Int) [.int .i64 (i : Int)] (fun _ => True) (fun _ => False) rfl rfl rfl (fun _ hk => hk.elim) (fun _ _ => trivial) SA.out.R8 SA.out.HB SA.out.HB.size (by have := HN.out; omega) ?_; intro v6 w6 h1 h2 h3 h4; have S6 := Aside0.mk (SA.out.app8 h3 h2 h1); have X6 := Aside0.mk (blk_grown HX.out h3 (Kd.R_ne SA.out.R8 HX.out (by decide))); clear h1 h2 h3 h4)
      refine GO.out _ _ _ ?_ S6.out X6.out
      unfold TrF
      (repeat apply Exists.intro)
      exact rfl
  · as_aux_lemma =>
      go_wp2_with fail
      refine GO.out _ _ _ ?_ SA.out HX.out
      unfold TrF
      (repeat apply Exists.intro)
      exact rfl
  · as_aux_lemma =>
      go_wp2_with fail
      refine GO.out _ _ _ ?_ SA.out HX.out
      unfold TrF
      (repeat apply Exists.intro)
      exact rfl
  · as_aux_lemma =>
      go_wp2_with fail
      refine GO.out _ _ _ ?_ SA.out HX.out
      unfold TrF
      (repeat apply Exists.intro)
      exact rfl
  · as_aux_lemma =>
      go_wp2_with fail
      refine GO.out _ _ _ ?_ SA.out HX.out
      unfold TrF
      (repeat apply Exists.intro)
      exact rfl
  · as_aux_lemma =>
      go_wp2_with (at_builtin; refine Kd.R_append (Kd.int .i64) (w0 := w) w.heap.size rfl (.tmp 110) (.tmp 112) 57 3 (.int .i64 0) 8 rfl Try.underlying57 info3 rfl (by decide) (by omega) _ ps (i : Int) [.int .i64 (i : Int)] (fun _ => True) (fun _ => False) rfl rfl rfl (fun _ hk => hk.elim) (fun _ _ => trivial) SA.out.R8 SA.out.HB SA.out.HB.size (by have := HN.out; omega) ?_; intro v6 w6 h1 h2 h3 h4; have S6 := Aside0.mk (SA.out.app8 h3 h2 h1); have X6 := Aside0.mk (blk_grown HX.out h3 (Kd.R_ne SA.out.R8 HX.out (by decide))); clear h1 h2 h3 h4)
      refine GO.out _ _ _ ?_ S6.out X6.out
      unfold TrF
      (repeat apply Exists.intro)
      exact rfl
  · as_aux_lemma =>
      go_wp2_with (at_builtin; refine Kd.R_append (Kd.int .i64) (w0 := w) w.heap.size rfl (.tmp 110) (.tmp 112) 57 3 (.int .i64 0) 8 rfl Try.underlying57 info3 rfl (by decide) (by omega) _ ps (i : Int) [.int .i64 (i : Int)] (fun _ => True) (fun _ => False) rfl rfl rfl (fun _ hk => hk.elim) (fun _ _ => trivial) SA.out.R8 SA.out.HB SA.out.HB.size (by have := HN.out; omega) ?_; intro v6 w6 h1 h2 h3 h4; have S6 := Aside0.mk (SA.out.app8 h3 h2 h1); have X6 := Aside0.mk (blk_grown HX.out h3 (Kd.R_ne SA.out.R8 HX.out (by decide))); clear h1 h2 h3 h4)
      refine GO.out _ _ _ ?_ S6.out X6.out
      unfold TrF
      (repeat apply Exists.intro)
      exact rfl
  · as_aux_lemma =>
      go_wp2_with fail
      refine GO.out _ _ _ ?_ SA.out HX.out
      unfold TrF
      (repeat apply Exists.intro)
      exact rfl
  · as_aux_lemma =>
      go_wp2_with fail
      refine GO.out _ _ _ ?_ SA.out HX.out
      unfold TrF
      (repeat apply Exists.intro)
      exact rfl
  · as_aux_lemma =>
      go_wp2_with fail
      refine GO.out _ _ _ ?_ SA.out HX.out
      unfold TrF
      (repeat apply Exists.intro)
      exact rfl
end Go.Proofs.Ytdmbnlpcfgphpaa.Q
namespace Go.Proofs.Ytdmbnlpcfgphpaa.Q
open Go.RowKit Go.Proofs.YtdmbnlpcfgphpaaW.PrintWords Go.Proofs.YtdmbnlpcfgphpaaW.PrintLast Go.Proofs.YtdmbnlpcfgphpaaW.PrintMore
set_option linter.unusedVariables false
set_option linter.unusedSimpArgs false
/-- Is a piece one that the walk can go through? -/
def trOk (code : List S40) (i : Int) : Bool := decide (0 ≤ i) && decide (i < code.length) && okO (ins code i.toNat).f0 && (decide (0 ≤ (ins code i.toNat).f1) && decide ((ins code i.toNat).f1 < 400)) && (decide (0 ≤ (ins code i.toNat).f2) && decide ((ins code i.toNat).f2 < 400)) && (decide (0 ≤ (ins code i.toNat).f3) && decide ((ins code i.toNat).f3 < 400)) && (!usT (ins code i.toNat).f0 || decide (i < (ins code i.toNat).f7))
def spO (n : Nat) (code : List S40) (i : Int) (fill : Bool) : Option Bool := (selvageref13_Spare.f n code i).map fun b => fill && b
/-- The trail, run with the printed words for what is spare and what is known; none: something it leans on does not hold. -/
def trlO (n : Nat) (code : List S40) (fill : Bool) : Nat → Int → List Int → List Int → List Int → List Int → Option (List Int × List Int)
  | 0, _, _, _, _, _ => none
  | f + 1, i, T, ans, ps, ts =>
    if trOk code i = true then
      if endsA (ins code i.toNat) T = true then some (ps, ts ++ ans)
      else if isAsk (ins code i.toNat).f0 = true then
        (spO n code i fill).bind fun b =>
          if b = true then (selvageref13_Known.f n code i (ins code i.toNat).f4).bind fun kv =>
            if 0 ≤ kv ∧ kv < 400 then trlO n code fill f (tnxt (ins code i.toNat) i T (rd T kv)) (tnew (ins code i.toNat) T (rd T kv)) ans (ps ++ [i]) (ts ++ [rd T kv]) else none
          else match ans with
            | [] => some (ps, ts)
            | y :: s => trlO n code fill f (tnxt (ins code i.toNat) i T y) (tnew (ins code i.toNat) T y) s (ps ++ [i]) (ts ++ [y])
      else trlO n code fill f (tnxt (ins code i.toNat) i T 0) (tnew (ins code i.toNat) T 0) ans (if isTell (ins code i.toNat).f0 = true then ps ++ [i] else ps) ts
    else none
theorem spO_mono (n : Nat) (code : List S40) (i : Int) (fill : Bool) : LeO (spO n code i fill) (spO (n + 1) code i fill) := fun r h => by
  unfold spO at h ⊢
  obtain ⟨b, hb, he⟩ := Option.map_eq_some_iff.1 h
  rw [selvageref13_Spare.mono _ _ _ _ hb]
  simp [he]
theorem trlO_mono (n : Nat) (code : List S40) (fill : Bool) : ∀ (f : Nat) (i : Int) (T ans ps ts : List Int), LeO (trlO n code fill f i T ans ps ts) (trlO (n + 1) code fill (f + 1) i T ans ps ts)
  | 0, _, _, _, _, _, r, h => by simp [trlO] at h
  | f + 1, i, T, ans, ps, ts, r, h => by
    unfold trlO at h ⊢
    by_cases h1 : trOk code i = true
    · rw [if_pos h1] at h ⊢
      by_cases h2 : endsA (ins code i.toNat) T = true
      · rw [if_pos h2] at h ⊢
        exact h
      · rw [if_neg h2] at h ⊢
        by_cases h3 : isAsk (ins code i.toNat).f0 = true
        · rw [if_pos h3] at h ⊢
          obtain ⟨b, hb, h⟩ := Option.bind_eq_some_iff.1 h
          rw [spO_mono _ _ _ _ _ hb, Option.bind_some]
          by_cases h4 : b = true
          · rw [if_pos h4] at h ⊢
            obtain ⟨kv, hk, h⟩ := Option.bind_eq_some_iff.1 h
            rw [selvageref13_Known.mono _ _ _ _ _ hk, Option.bind_some]
            by_cases h5 : 0 ≤ kv ∧ kv < 400
            · rw [if_pos h5] at h ⊢
              exact trlO_mono n code fill f _ _ _ _ _ _ h
            · rw [if_neg h5] at h
              cases h
          · rw [if_neg h4] at h ⊢
            cases ans with
            | nil => exact h
            | cons y s => exact trlO_mono n code fill f _ _ _ _ _ _ h
        · rw [if_neg h3] at h ⊢
          exact trlO_mono n code fill f _ _ _ _ _ _ h
    · rw [if_neg h1] at h
      cases h
theorem tnxt_lt {code : List S40} {i : Int} (h : trOk code i = true) (T : List Int) (old : Int) : i < tnxt (ins code i.toNat) i T old := by
  simp only [trOk, Bool.and_eq_true, Bool.or_eq_true, decide_eq_true_eq, Bool.not_eq_true'] at h
  obtain ⟨-, h7⟩ := h
  unfold tnxt
  have u : ∀ o : Int, o = 16 ∨ o = 17 ∨ o = 12 → (ins code i.toNat).f0 = o → i < (ins code i.toNat).f7 := fun o ho he => by
    rcases h7 with h7 | h7
    · rw [he] at h7
      rcases ho with rfl | rfl | rfl <;> exact absurd h7 (by decide)
    · exact h7
  by_cases h1 : (ins code i.toNat).f0 = 16
  · have := u 16 (by simp) h1
    rw [if_pos h1]
    split <;> omega
  · rw [if_neg h1]
    by_cases h2 : (ins code i.toNat).f0 = 17
    · have := u 17 (by simp) h2
      rw [if_pos h2]
      split <;> omega
    · rw [if_neg h2]
      by_cases h3 : (ins code i.toNat).f0 = 12
      · have := u 12 (by simp) h3
        rw [if_pos h3]
        split <;> omega
      · rw [if_neg h3]
        omega
/-- What follows a round: the frame, the memory, what is left to do. -/
structure Nxt (A : Option Addr) (c : Nat) (code : List S40) (fill : Bool) (g : Nat) (w : World) (n0 f : Nat) (RR : List Int × List Int) (j : Int) (n m : Nat) (a : Act) (W : World) (An : Option Addr) (cn : Nat) (ans : List Int) (v8 v9 : Value) (T ps ts : List Int) : Prop where
  HF : ∃ v12 v13 v14 v15, TrF A c code (.slice An ans.length cn) fill v8 v9 g j v12 v13 v14 v15 a
  S : Tw w W g T v8 ps v9 ts
  HA : (Kd.int .i64).C w An ans.length ans
  hc : ans.length ≤ cn
  hn : ans.length ≤ n
  hp : ps.length ≤ m ∧ ts.length ≤ m
  hR : trlO n0 code fill f j T ans ps ts = some RR
theorem tr_round {A : Option Addr} {c : Nat} {code : List S40} {fill : Bool} {v8 v9 : Value} {g i : Nat} {v12 v13 v14 v15 : Value} {w W : World} {T ps ts ans : List Int} {a : Act} {R : Exit → Act → World → Prop} {An : Option Addr} {cn n0 f m : Nat} {RR : List Int × List Int}
    (HF : TrF A c code (.slice An ans.length cn) fill v8 v9 g (i : Int) v12 v13 v14 v15 a) (S : Tw w W g T v8 ps v9 ts) (hC : Kd.C k40 w A code.length code) (hA : (Kd.int .i64).C w An ans.length ans) (hca : ans.length ≤ cn) (hi : i < code.length) (hn : code.length ≤ 400) (han : ans.length ≤ 500) (hp : ps.length ≤ m ∧ ts.length ≤ m) (hm : m ≤ 400) 
    (hcc : code.length ≤ c) (hR : trlO n0 code fill (f + 1) (i : Int) T ans ps ts = some RR)
    (go : ∀ old a' W' An' cn' ans' v8' v9' T' ps' ts', Nxt A c code fill g w n0 f RR (tnxt (ins code i) (i : Int) T old) ans.length (m + 1) a' W' An' cn' ans' v8' v9' T' ps' ts' → R .normal a' W')
    (ret : ∀ a' W' v8' v9', a'.tmps.getD 6 undef = v8' → a'.tmps.getD 7 undef = v9' → a'.defers = [] → Tw w W' g T v8' RR.1 v9' RR.2 → R .ret a' W') :
    trS.wp Try.prog R a W := by
  unfold trlO at hR
  by_cases hok0 : trOk code (i : Int) = true
  case neg => rw [if_neg hok0] at hR; cases hR
  rw [if_pos hok0] at hR
  simp only [trOk, Bool.and_eq_true, decide_eq_true_eq, Int.toNat_natCast] at hok0
  obtain ⟨⟨⟨⟨⟨-, hok⟩, hd⟩, ha⟩, hb⟩, -⟩ := hok0
  simp only [Int.toNat_natCast] at hR
  refine tr_A (gx := 0) HF S hC hi rfl ha hb ?_
  intro a1 W1 gx HF1 S1 KX1
  refine tr_B (v12 := v12) (w := w) (ps := []) (ts := []) HF1 rfl rfl KX1 hok ?_ ?_
  · intro he K a2 HF2
    refine tr_R (gx := 0) HF2 rfl S1 hA (by omega) ?_
    intro a3 W3 v9' h6 h7 hdf S3
    rw [if_pos he] at hR
    cases hR
    exact ret a3 W3 v8 v9' h6 h7 hdf S3
  · intro he a2 HF2
    rw [if_neg (by rw [he]; decide)] at hR
    refine tr_C (v12 := v12) (w := w) (T := T) (ps := []) (ts := []) HF2 KX1 hok ?_ ?_
    · intro hask K hK a3 HF3
      rw [if_pos hask] at hR
      rw [show trAsk = .seq (tr1 trAsk) trApp from rfl]
      refine wp_seq ?_
      obtain ⟨b, hb0, hR⟩ := Option.bind_eq_some_iff.1 hR
      unfold spO at hb0
      obtain ⟨sb, hsb, hbe⟩ := Option.map_eq_some_iff.1 hb0
      refine tr_X (v12 := v12) HF3 S1 KX1 (fun W hW => selvageref13_Spare.calls n0 A c code i sb W (Kd.C_below hC hW) hcc hsb) ?_
      intro a4 W4 HF4 h79 S4 KX4
      rw [hbe] at h79
      cases b
      · rw [if_neg (by decide)] at hR
        cases ans with
        | nil =>
          refine tr_N (gx := 0) (w := w) (T := T) (ps := []) (ts := []) HF4 h79 rfl ?_
          intro a5 h6 h7 hdf
          cases hR
          exact ret a5 W4 v8 v9 h6 h7 hdf S4
        | cons y s =>
          refine tr_Y (gx := 0) (T := T) (ps := []) (ts := []) HF4 h79 rfl hca (by simp at han; omega) S4.HB hA ?_
          intro a5 Ab HF5 hA5
          refine tr_App (v15 := v15) HF5 S4 (by omega) KX4 ?_
          intro a6 W6 v8' v9' HF6 S6 KX6
          refine hK _ _ (tr_D (v12 := v12) HF6 rfl rfl rfl S6 KX6 hi hn hok he hd ?_)
          intro a7 W7 HF7 S7
          exact go y a7 W7 Ab (cn - 1) s v8' v9' _ _ _ ⟨⟨_, _, _, _, HF7⟩, S7, hA5, by simp at hca; omega, by simp, by simp; omega, hR⟩
      · rw [if_pos rfl] at hR
        obtain ⟨kv, hkv, hR⟩ := Option.bind_eq_some_iff.1 hR
        by_cases hk0 : 0 ≤ kv ∧ kv < 400
        case neg => rw [if_neg hk0] at hR; cases hR
        rw [if_pos hk0] at hR
        refine tr_K (v12 := v12) HF4 h79 S4 KX4 hk0.1 hk0.2 (fun W hW => selvageref13_Known.calls n0 A c code i _ kv W (Kd.C_below hC hW) hcc hkv) ?_
        intro a5 W5 HF5 S5 KX5
        refine tr_App (v15 := v15) HF5 S5 (by omega) KX5 ?_
        intro a6 W6 v8' v9' HF6 S6 KX6
        refine hK _ _ (tr_D (v12 := v12) HF6 rfl rfl rfl S6 KX6 hi hn hok he hd ?_)
        intro a7 W7 HF7 S7
        exact go _ a7 W7 An cn ans v8' v9' _ _ _ ⟨⟨_, _, _, _, HF7⟩, S7, hA, hca, Nat.le_refl _, by simp; omega, hR⟩
    · intro hask K hK a3 HF3 h66
      rw [if_neg (by rw [hask]; decide)] at hR
      refine tr_Tell HF3 S1 (by omega) KX1 _ h66 hok ?_
      intro a4 W4 v8' HF4 S4 KX4
      refine hK _ _ (tr_D (v12 := v12) HF4 rfl rfl rfl S4 KX4 hi hn hok he hd ?_)
      intro a5 W5 HF5 S5
      exact go 0 a5 W5 An cn ans v8' v9 _ _ _ ⟨⟨_, _, _, _, HF5⟩, S5, hA, hca, Nat.le_refl _, by split <;> first | (simp; omega) | omega, hR⟩
end Go.Proofs.Ytdmbnlpcfgphpaa.Q
namespace Go.Proofs.Ytdmbnlpcfgphpaa.Q
open Go.RowKit Go.Proofs.YtdmbnlpcfgphpaaW.PrintWords Go.Proofs.YtdmbnlpcfgphpaaW.PrintLast Go.Proofs.YtdmbnlpcfgphpaaW.PrintMore
set_option linter.unusedVariables false
set_option linter.unusedSimpArgs false
set_option maxRecDepth 100000 in
set_option maxHeartbeats 4000000 in
theorem TrF.at11 {A : Option Addr} {c : Nat} {code : List S40} {v1 : Value} {fill : Bool} {v8 v9 : Value} {g : Nat} {i : Int} {v12 v13 v14 v15 : Value} {a : Act} (h : TrF A c code v1 fill v8 v9 g i v12 v13 v14 v15 a) : a.tmps.getD 11 undef = .int .i64 i := by
  unfold TrF at h
  iterate 178 (obtain ⟨_, h⟩ := h)
  rw [h]
  rfl
theorem trlO_in {n f : Nat} {code : List S40} {fill : Bool} {i : Int} {T ans ps ts : List Int} {RR : List Int × List Int} (h : trlO n code fill f i T ans ps ts = some RR) : ∃ (j f' : Nat), i = (j : Int) ∧ j < code.length ∧ f = f' + 1 ∧ trOk code (j : Int) = true := by
  cases f with
  | zero => simp [trlO] at h
  | succ f =>
    unfold trlO at h
    by_cases hk : trOk code i = true
    · have hk2 := hk
      simp only [trOk, Bool.and_eq_true, decide_eq_true_eq] at hk2
      obtain ⟨⟨⟨⟨⟨⟨h0, h1⟩, -⟩, -⟩, -⟩, -⟩, -⟩ := hk2
      exact ⟨i.toNat, f, by omega, by omega, rfl, by rw [show ((i.toNat : Nat) : Int) = i by omega]; exact hk⟩
    · rw [if_neg hk] at h
      cases h
theorem Tw.born {w w3 : World} {g : Nat} (hg : w3.heap[g]? = some (.cells (tcl zT) 73 (0, 0))) (hB : Below w.heap.size w w3) (hl : g = w.heap.size) : Tw w w3 g zT (.slice none 0 0) [] (.slice none 0 0) [] :=
  ⟨hB, hg, List.length_replicate, Kd.R_nil _ _ _ _ _, Kd.R_nil _ _ _ _ _, by omega⟩
set_option maxHeartbeats 8000000 in
set_option maxRecDepth 100000 in
theorem trail_any (k : Nat) (A : Option Addr) (c : Nat) (code : List S40) (An : Option Addr) (cn : Nat) (answers : List Int) (fill : Bool) (RR : List Int × List Int) (w : World) (hr : Kd.C k40 w A code.length code) (hc : code.length ≤ c) (hA : (Kd.int .i64).C w An answers.length answers) (hca : answers.length ≤ cn) (han : answers.length ≤ 500) (hn : code.length ≤ 399) (h : trlO k code fill k 0 zT answers [] [] = some RR) :
    Calls Try.prog 29 #[.slice A code.length c, .slice An answers.length cn, .bool fill] w fun e w' => ∃ v0_ v1_ : Value, e = .returned (.tuple #[v0_, v1_]) ∧ Kd.R (Kd.int .i64) 3 w' w.heap.size (fun _ => True) v0_ RR.1 ∧ Kd.R (Kd.int .i64) 2 w' w.heap.size (fun _ => True) v1_ RR.2 ∧ Below w.heap.size w w' := by
  have HC := Aside0.mk hr
  have HCc := Aside0.mk hc
  have HA := Aside0.mk hA
  have HCA := Aside0.mk hca
  have HR := Aside0.mk h
  clear hr hc hA hca h
  go_enter Try.func29, Try.ntmps29
  go_wp2_with ((with_reducible refine gate_ (.alloc 73) rfl ?_); refine box_event (cs := tcl zT) (t := 73) rfl (N := 10) rfl ?hb76 ?_; (case hb76 => kernel_rfl); intro g8 hg8 w3 hb3 hB3; have S0 := Aside0.mk (Tw.born (w := w) hb3 hB3 hg8); clear hg8 hb3 hB3)
  have HI := Aside0.mk HR.out
  refine Go.wp_loop (fun a' wr => ∃ (i f : Nat) (T ans ps ts : List Int) (Ab : Option Addr) (cb : Nat) (v8 v9 v12 v13 v14 v15 : Value), TrF A c code (.slice Ab ans.length cb) fill v8 v9 g8 (i : Int) v12 v13 v14 v15 a' ∧ Tw w wr g8 T v8 ps v9 ts ∧ (Kd.int .i64).C w Ab ans.length ans ∧ ans.length ≤ cb ∧ ans.length ≤ 500 ∧ ps.length ≤ i ∧ ts.length ≤ i ∧ trlO k code fill f (i : Int) T ans ps ts = some RR) (fun a' _ => code.length - (intOf (a'.tmps.getD 11 undef)).toNat) ?_ ?_
  · refine ⟨0, k, zT, answers, [], [], An, cn, _, _, undef, undef, undef, undef, ?_, S0.out, HA.out, HCA.out, han, Nat.le_refl _, Nat.le_refl _, HI.out⟩
    unfold TrF
    (repeat apply Exists.intro)
    exact rfl
  · clear S0 HI
    rintro a0 wr ⟨i, f, T, ans, ps, ts, Ab, cb, v8, v9, v12, v13, v14, v15, hfr, hS, hAb, hcb, hab, hps, hts, hI⟩
    obtain ⟨j, f, hij, hj, rfl, hok⟩ := trlO_in hI
    have hij' : i = j := by omega
    subst hij'
    have h11 := hfr.at11
    refine wp_block ?_
    show trS.wp Try.prog _ a0 wr
    refine tr_round (m := i) hfr hS HC.out hAb hcb hj (by omega) hab ⟨hps, hts⟩ (by omega) HCc.out hI ?_ ?_
    · rintro old a' W' An' cn' ans' v8' v9' T' ps' ts' ⟨⟨u12, u13, u14, u15, hF⟩, hS', hA', hc', hn', hp', hR'⟩
      obtain ⟨j, f', hj1, hj2, -, -⟩ := trlO_in hR'
      have hlt := tnxt_lt hok T old
      rw [Int.toNat_natCast, hj1] at hlt
      have h112 := hF.at11
      rw [hj1] at hF hR' h112
      show (_ ∧ _)
      rw [h11, h112]
      refine ⟨⟨j, f, T', ans', ps', ts', An', cn', v8', v9', u12, u13, u14, u15, hF, hS', hA', hc', by omega, by omega, by omega, hR'⟩, ?_⟩
      show code.length - ((j : Int)).toNat < code.length - ((i : Int)).toNat
      omega
    · intro a' W' v8' v9' h6 h7 hdf hS'
      obtain ⟨tm, df⟩ := a'
      dsimp only at hdf h6 h7
      subst hdf
      dsimp only [Exit.inBlock, Exit.then]
      refine bodyPost_ret (v := .tuple #[v8', v9']) ?_ rfl ⟨_, _, rfl, hS'.R8, hS'.R9, hS'.HB⟩
      have h6b : tm[6]?.getD undef = v8' := by simpa using h6
      have h7b : tm[7]?.getD undef = v9' := by simpa using h7
      simp [results, Try.results29, go_sem, h6b, h7b]
end Go.Proofs.Ytdmbnlpcfgphpaa.Q
