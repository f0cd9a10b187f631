/- Several of my texts in one: YtdmbnlpcfgphpaaRrs, YtdmbnlpcfgphpaaRrb, YtdmbnlpcfgphpaaRr1, YtdmbnlpcfgphpaaRr2, YtdmbnlpcfgphpaaRr3, YtdmbnlpcfgphpaaRr4, YtdmbnlpcfgphpaaRrj, YtdmbnlpcfgphpaaRrun, YtdmbnlpcfgphpaaRrw. -/
import Derived.Test.YtdmbnlpcfgphpaaRun
import Derived.Test.YtdmbnlpcfgphpaaPln
import Derived.Test.YtdmbnlpcfgphpaaRref
namespace Go.Proofs.Ytdmbnlpcfgphpaa.Q
open Go.RowKit Go.Proofs.YtdmbnlpcfgphpaaW.PrintWords Go.Proofs.YtdmbnlpcfgphpaaW.PrintLast Go.Proofs.YtdmbnlpcfgphpaaW.PrintMore
set_option linter.unusedVariables false
set_option linter.unusedSimpArgs false
def tcells (T : List Int) : Array Value := (T.map (Value.int .i64)).toArray
theorem tcells_get (T : List Int) (h : T.length = 400) (i : Int) (h0 : 0 ≤ i) (h1 : i < 400) : (tcells T)[i.toNat]? = some (.int .i64 (rd T i)) := by
  have : i.toNat < T.length := by omega
  simp [tcells, rd, List.getD, this]
theorem tcells_set (T : List Int) (i : Nat) (n : Int) : (tcells T).setIfInBounds i (.int .i64 n) = tcells (T.set i n) := by
  simp [tcells, List.map_set]
theorem ne31 : ∀ q, q ∈ 47 :: k47.E → q ≠ 31 := ne47
theorem ne73 : ∀ q, q ∈ 47 :: k47.E → q ≠ 73 := by
  intro q hq
  have h : k47.E = [] := rfl
  rw [h] at hq
  simp at hq
  omega
structure Rr (w W : World) (g6 g7 g8 : Nat) (T : List Int) (vt : Value) (acts : List S47) : Prop where
  HB : Below w.heap.size w W
  b6 : W.heap[g6]? = some (.cells #[.slice none 0 0, .int .i64 0] 31 (0, 0))
  b7 : W.heap[g7]? = some (.cells #[vt, .int .i64 0] 31 (0, 0))
  b8 : W.heap[g8]? = some (.cells (tcells T) 73 (0, 0))
  TL : T.length = 400
  RT : Kd.R k47 47 W w.heap.size (fun _ => True) vt acts
  l6 : w.heap.size ≤ g6
  l7 : w.heap.size ≤ g7
  l8 : w.heap.size ≤ g8
  n67 : g6 ≠ g7
section
variable {w W W' : World} {g6 g7 g8 : Nat} {T : List Int} {vt : Value} {acts : List S47}
theorem Rr.below (S : Rr w W g6 g7 g8 T vt acts) (hb : Below W.heap.size W W') : Rr w W' g6 g7 g8 T vt acts :=
  ⟨below_step S.HB hb, blk_below S.b6 hb, blk_below S.b7 hb, blk_below S.b8 hb, S.TL, Kd.R_below S.RT hb, S.l6, S.l7, S.l8, S.n67⟩
theorem Rr.alloc (S : Rr w W g6 g7 g8 T vt acts) (o : Obj) : Rr w (W.alloc o) g6 g7 g8 T vt acts := S.below (below_alloc (Below.refl _ _) o)
theorem Rr.drewN (S : Rr w W g6 g7 g8 T vt acts) (j : Nat) : Rr w (W.drewN j) g6 g7 g8 T vt acts := S.below (pw_below_drewN (Below.refl _ _) j)
theorem Rr.drew (S : Rr w W g6 g7 g8 T vt acts) : Rr w W.drew g6 g7 g8 T vt acts := S.below (below_drew1 (Below.refl _ _))
theorem Rr.n68 (S : Rr w W g6 g7 g8 T vt acts) : g6 ≠ g8 := blk_ne S.b6 S.b8 (by decide)
theorem Rr.n78 (S : Rr w W g6 g7 g8 T vt acts) : g7 ≠ g8 := blk_ne S.b7 S.b8 (by decide)
theorem Rr.ctemp (S : Rr w W g6 g7 g8 T vt acts) (i : Int) (h0 : 0 ≤ i) (h1 : i < 400) : W.cell? ⟨g8, i.toNat, none⟩ = some (.int .i64 (rd T i)) := (blk_cell S.b8 _).trans (tcells_get _ S.TL i h0 h1)
theorem Rr.put_temp (S : Rr w W g6 g7 g8 T vt acts) (i : Int) (n : Int) : Rr w (W.setCell ⟨g8, i.toNat, none⟩ (.int .i64 n)) g6 g7 g8 (T.set i.toNat n) vt acts :=
  ⟨below_set S.HB S.l8, blk_far S.b6 S.n68 _, blk_far S.b7 S.n78 _, blk_put S.b8 _ _ (tcells_set _ _ _), by rw [List.length_set]; exact S.TL, Kd.R_set S.RT S.b8 ne73 _ _, S.l6, S.l7, S.l8, S.n67⟩
theorem Rr.put_acts (S : Rr w W g6 g7 g8 T vt acts) {v1 : Value} {acts' : List S47} (hg : W.grownBy W' vt.ownBlock) (hB : Below w.heap.size w W') (h1 : Kd.R k47 47 W' w.heap.size (fun _ => True) v1 acts') : Rr w (W'.setCell ⟨g7, 0, none⟩ v1) g6 g7 g8 T v1 acts' := by
  have c6 := blk_grown S.b6 hg (Kd.R_ne S.RT S.b6 (by decide))
  have c7 := blk_grown S.b7 hg (Kd.R_ne S.RT S.b7 (by decide))
  have c8 := blk_grown S.b8 hg (Kd.R_ne S.RT S.b8 (by decide))
  exact ⟨below_set hB S.l7, blk_far c6 S.n67 _, blk_put c7 0 _ rfl, blk_far c8 (Ne.symm S.n78) _, S.TL, Kd.R_set h1 c7 ne31 _ _, S.l6, S.l7, S.l8, S.n67⟩
theorem Rr.fin (S : Rr w W g6 g7 g8 T vt acts) (s : Int) (w1 : World) (h : w1 = ((W.setCell ⟨g7, 1, none⟩ (.int .i64 s)).setCell ⟨g6, 0, none⟩ vt).setCell ⟨g6, 1, none⟩ (.int .i64 s)) : Kd.R k47 47 w1 w.heap.size (fun _ => True) vt acts ∧ Below w.heap.size w w1 ∧ w1.cell? ⟨g6, 0, none⟩ = some vt ∧ w1.cell? ⟨g6, 1, none⟩ = some (.int .i64 s) := by
  subst h
  have c6 := blk_far S.b6 (p := ⟨g7, 1, none⟩) S.n67 (.int .i64 s)
  have d6 := blk_put (blk_put c6 0 vt rfl) 1 (.int .i64 s) rfl
  exact ⟨Kd.R_set (Kd.R_set (Kd.R_set S.RT S.b7 ne31 _ _) c6 ne31 _ _) (blk_put c6 0 _ rfl) ne31 _ _, below_set (below_set (below_set S.HB S.l7) S.l6) S.l6, blk_cell d6 0, blk_cell d6 1⟩
theorem Rr.born {w1 : World} (hB : Below w.heap.size w W) (b6 : W.heap[g6]? = some (.cells #[.slice none 0 0, .int .i64 0] 31 (0, 0))) (b7 : W.heap[g7]? = some (.cells #[.slice none 0 0, .int .i64 0] 31 (0, 0))) (h6 : w.heap.size ≤ g6) (h7 : w.heap.size ≤ g7) (n67 : g6 ≠ g7) (hg : g8 = W.heap.size) (h1 : w1.heap[g8]? = some (.cells (tcells zT) 73 (0, 0))) (hb : Below W.heap.size W w1) : Rr w w1 g6 g7 g8 zT (.slice none 0 0) [] :=
  ⟨below_step hB hb, blk_below b6 hb, blk_below b7 hb, h1, zT_len, Kd.R_nil _ _ _ _ _, h6, h7, hg ▸ hB.size, n67⟩
end
end Go.Proofs.Ytdmbnlpcfgphpaa.Q
namespace Go.Proofs.Ytdmbnlpcfgphpaa.Q
open Go.RowKit Go.Proofs.YtdmbnlpcfgphpaaW.PrintWords Go.Proofs.YtdmbnlpcfgphpaaW.PrintLast Go.Proofs.YtdmbnlpcfgphpaaW.PrintMore
set_option linter.unusedVariables false
set_option linter.unusedSimpArgs false
noncomputable def rrunBody : Code := match Try.f17.body with
  | some (.seq _ (.seq _ (.seq _ (.seq _ (.seq _ (.block _ (.loop b))))))) => b
  | _ => .skip
set_option maxRecDepth 100000 in
/-- The frame at a round's head; the scratch is whatever it is. -/
def RrFrame (A : Option Addr) (c : Nat) (code : List S40) (Al : Option Addr) (cl : Nat) (l : List S80) (An : Option Addr) (cn : Nat) (answers : List Int) (g6 g7 g8 : Nat) (u3 u4 u5 u18 u19 u20 u21 u22 : Value) (i : Int) (used : Nat) (a : Act) : Prop :=
  ∃ u11 u12 u13 u14 u15 u16 u17 u23 u24 u25 u26 u27 u28 u29 u30 u31 u32 u33 u34 u35 u36 u37 u38 u39 u40 u41 u42 u43 u44 u45 u46 u47 u48 u49 u50 u51 u52 u53 u54 u55 u56 u57 u58 u59 u60 u61 u62 u63 u64 u65 u66 u67 u68 u69 u70 u71 u72 u73 u74 u75 u76 u77 u78 u79 u80 u81 u82 u83 u84 u85 u86 u87 u88 u89 u90 u91 u92 u93 u94 u95 u96 u97 u98 u99 u100 u101 u102 u103 u104 u105 u106 u107 u108 u109 u110 u111 u112 u113 u114 u115 u116 u117 u118 u119 u120 u121 u122 u123 u124 u125 u126 u127 u128 u129 u130 u131 u132 u133 u134 u135 u136 u137 u138 u139 u140 u141 u142 u143 u144 u145 u146 u147 u148 u149 u150 u151 u152 u153 u154 u155 u156 u157 u158 u159 u160 u161 u162 u163 u164 u165 u166 u167 u168 u169 u170 u171 u172 u173 u174 u175 u176 u177 u178 u179 u180 u181 u182 u183 u184 u185 u186 u187 u188 u189 u190 u191 u192 u193 u194 u195 u196 u197 u198 u199 u200 u201 u202 u203 u204 u205 u206 u207 u208 u209 u210 u211 u212 u213 u214 u215 u216 u217 u218 u219 u220 u221 u222 u223 u224 u225 u226 u227 u228 u229 u230 u231 u232 u233 u234 u235 u236 u237 u238 u239 u240 u241 u242 u243 u244 u245 : Value, a = { tmps := #[.slice A code.length c, .slice Al l.length cl, .slice An answers.length cn, u3, u4, u5, .pointer (some ⟨g6, 0, none⟩), .pointer (some ⟨g7, 0, none⟩), .pointer (some ⟨g8, 0, none⟩), .int .i64 i, .int .i64 (used : Int), u11, u12, u13, u14, u15, u16, u17, u18, u19, u20, u21, u22, u23, u24, u25, u26, u27, u28, u29, u30, u31, u32, u33, u34, u35, u36, u37, u38, u39, u40, u41, u42, u43, u44, u45, u46, u47, u48, u49, u50, u51, u52, u53, u54, u55, u56, u57, u58, u59, u60, u61, u62, u63, u64, u65, u66, u67, u68, u69, u70, u71, u72, u73, u74, u75, u76, u77, u78, u79, u80, u81, u82, u83, u84, u85, u86, u87, u88, u89, u90, u91, u92, u93, u94, u95, u96, u97, u98, u99, u100, u101, u102, u103, u104, u105, u106, u107, u108, u109, u110, u111, u112, u113, u114, u115, u116, u117, u118, u119, u120, u121, u122, u123, u124, u125, u126, u127, u128, u129, u130, u131, u132, u133, u134, u135, u136, u137, u138, u139, u140, u141, u142, u143, u144, u145, u146, u147, u148, u149, u150, u151, u152, u153, u154, u155, u156, u157, u158, u159, u160, u161, u162, u163, u164, u165, u166, u167, u168, u169, u170, u171, u172, u173, u174, u175, u176, u177, u178, u179, u180, u181, u182, u183, u184, u185, u186, u187, u188, u189, u190, u191, u192, u193, u194, u195, u196, u197, u198, u199, u200, u201, u202, u203, u204, u205, u206, u207, u208, u209, u210, u211, u212, u213, u214, u215, u216, u217, u218, u219, u220, u221, u222, u223, u224, u225, u226, u227, u228, u229, u230, u231, u232, u233, u234, u235, u236, u237, u238, u239, u240, u241, u242, u243, u244, u245], defers := [] }
/-- What is known at a round's head, of a piece x; what is asked of what follows. -/
structure Rround (A : Option Addr) (c : Nat) (code : List S40) (Al : Option Addr) (cl : Nat) (l : List S80) (An : Option Addr) (cn : Nat) (answers : List Int) (w wr : World) (g6 g7 g8 : Nat) (T : List Int) (vt : Value) (acts : List S47) (i used : Nat) (x : S40) (u3 u4 u5 u18 u19 u20 u21 u22 : Value) (R : Exit → Act → World → Prop) : Prop where
  S0 : Rr w wr g6 g7 g8 T vt acts
  HC : Kd.C k40 w A code.length code
  HA : (Kd.int .i64).C w An answers.length answers
  hi : i < code.length
  hn : code.length ≤ 400
  hx : rd_T40 code (i : Int) = x
  hu : used ≤ answers.length
  hal : answers.length ≤ 100000
  hac : acts.length ≤ 1000
  hd : 0 ≤ x.f1 ∧ x.f1 < 400
  ha : 0 ≤ x.f2 ∧ x.f2 < 400
  hb : 0 ≤ x.f3 ∧ x.f3 < 400
  go : ∀ (s : Rs) (a' : Act) (w' : World) (used' : Nat) (vt' : Value), stp x i T (answers.drop used) = s → s.fin = 0 → RrFrame A c code Al cl l An cn answers g6 g7 g8 u3 u4 u5 u18 u19 u20 u21 u22 s.next used' a' → s.ans = answers.drop used' → used' ≤ answers.length → Rr w w' g6 g7 g8 s.T vt' (acts ++ s.new) → R .normal a' w'
  ret : ∀ (s : Rs) (a' : Act) (w' : World), stp x i T (answers.drop used) = s → s.fin ≠ 0 → s.new = [] → a'.defers = [] → a'.tmps.getD 6 undef = .pointer (some ⟨g6, 0, none⟩) → w'.cell? ⟨g6, 0, none⟩ = some vt → w'.cell? ⟨g6, 1, none⟩ = some (.int .i64 s.fin) → Kd.R k47 47 w' w.heap.size (fun _ => True) vt acts → Below w.heap.size w w' → R .ret a' w'
end Go.Proofs.Ytdmbnlpcfgphpaa.Q
namespace Go.Proofs.Ytdmbnlpcfgphpaa.Q
open Go.RowKit Go.Proofs.YtdmbnlpcfgphpaaW.PrintWords Go.Proofs.YtdmbnlpcfgphpaaW.PrintLast Go.Proofs.YtdmbnlpcfgphpaaW.PrintMore
set_option linter.unusedVariables false
set_option linter.unusedSimpArgs false
set_option maxHeartbeats 8000000 in
set_option maxRecDepth 100000 in
theorem rr_1 {A : Option Addr} {c : Nat} {code : List S40} {Al : Option Addr} {cl : Nat} {l : List S80} {An : Option Addr} {cn : Nat} {answers : List Int} {w wr : World} {g6 g7 g8 : Nat} {T : List Int} {vt : Value} {acts : List S47} {i used : Nat} {d a b loc len kk tt : Int} {u3 u4 u5 u18 u19 u20 u21 u22 : Value} {R : Exit → Act → World → Prop}
    (H : Rround A c code Al cl l An cn answers w wr g6 g7 g8 T vt acts i used ⟨1, d, a, b, loc, len, kk, tt⟩ u3 u4 u5 u18 u19 u20 u21 u22 R) (u11 u12 u13 u14 u15 u16 u17 u23 u24 u25 u26 u27 u28 u29 u30 u31 u32 u33 u34 u35 u36 u37 u38 u39 u40 u41 u42 u43 u44 u45 u46 u47 u48 u49 u50 u51 u52 u53 u54 u55 u56 u57 u58 u59 u60 u61 u62 u63 u64 u65 u66 u67 u68 u69 u70 u71 u72 u73 u74 u75 u76 u77 u78 u79 u80 u81 u82 u83 u84 u85 u86 u87 u88 u89 u90 u91 u92 u93 u94 u95 u96 u97 u98 u99 u100 u101 u102 u103 u104 u105 u106 u107 u108 u109 u110 u111 u112 u113 u114 u115 u116 u117 u118 u119 u120 u121 u122 u123 u124 u125 u126 u127 u128 u129 u130 u131 u132 u133 u134 u135 u136 u137 u138 u139 u140 u141 u142 u143 u144 u145 u146 u147 u148 u149 u150 u151 u152 u153 u154 u155 u156 u157 u158 u159 u160 u161 u162 u163 u164 u165 u166 u167 u168 u169 u170 u171 u172 u173 u174 u175 u176 u177 u178 u179 u180 u181 u182 u183 u184 u185 u186 u187 u188 u189 u190 u191 u192 u193 u194 u195 u196 u197 u198 u199 u200 u201 u202 u203 u204 u205 u206 u207 u208 u209 u210 u211 u212 u213 u214 u215 u216 u217 u218 u219 u220 u221 u222 u223 u224 u225 u226 u227 u228 u229 u230 u231 u232 u233 u234 u235 u236 u237 u238 u239 u240 u241 u242 u243 u244 u245 : Value) :
    rrunBody.wp Try.prog R { tmps := #[.slice A code.length c, .slice Al l.length cl, .slice An answers.length cn, u3, u4, u5, .pointer (some ⟨g6, 0, none⟩), .pointer (some ⟨g7, 0, none⟩), .pointer (some ⟨g8, 0, none⟩), .int .i64 (i : Int), .int .i64 (used : Int), u11, u12, u13, u14, u15, u16, u17, u18, u19, u20, u21, u22, u23, u24, u25, u26, u27, u28, u29, u30, u31, u32, u33, u34, u35, u36, u37, u38, u39, u40, u41, u42, u43, u44, u45, u46, u47, u48, u49, u50, u51, u52, u53, u54, u55, u56, u57, u58, u59, u60, u61, u62, u63, u64, u65, u66, u67, u68, u69, u70, u71, u72, u73, u74, u75, u76, u77, u78, u79, u80, u81, u82, u83, u84, u85, u86, u87, u88, u89, u90, u91, u92, u93, u94, u95, u96, u97, u98, u99, u100, u101, u102, u103, u104, u105, u106, u107, u108, u109, u110, u111, u112, u113, u114, u115, u116, u117, u118, u119, u120, u121, u122, u123, u124, u125, u126, u127, u128, u129, u130, u131, u132, u133, u134, u135, u136, u137, u138, u139, u140, u141, u142, u143, u144, u145, u146, u147, u148, u149, u150, u151, u152, u153, u154, u155, u156, u157, u158, u159, u160, u161, u162, u163, u164, u165, u166, u167, u168, u169, u170, u171, u172, u173, u174, u175, u176, u177, u178, u179, u180, u181, u182, u183, u184, u185, u186, u187, u188, u189, u190, u191, u192, u193, u194, u195, u196, u197, u198, u199, u200, u201, u202, u203, u204, u205, u206, u207, u208, u209, u210, u211, u212, u213, u214, u215, u216, u217, u218, u219, u220, u221, u222, u223, u224, u225, u226, u227, u228, u229, u230, u231, u232, u233, u234, u235, u236, u237, u238, u239, u240, u241, u242, u243, u244, u245], defers := [] } wr := by
  obtain ⟨S, hC, hA, hi, hn, hx, hu, hal, hac, ⟨hd0, hd1⟩, ⟨ha0, ha1⟩, ⟨hb0, hb1⟩, hgo, hret⟩ := H
  have HC := Aside0.mk hC
  have HA := Aside0.mk hA
  have GO := Aside0.mk hgo
  have RET := Aside0.mk hret
  have HAC := Aside0.mk hac
  obtain ⟨ad1, ea, k0, k1, k2, k3, k4, k5, k6, k7⟩ := at_T40 (Kd.C_below HC.out S.HB) (i : Int) (by omega) (by omega)
  cases ea
  simp only [Int.toNat_natCast] at k0 k1 k2 k3 k4 k5 k6 k7
  rw [hx] at k0 k1 k2 k3 k4 k5 k6 k7
  dsimp only at k0 k1 k2 k3 k4 k5 k6 k7 hd0 hd1 ha0 ha1 hb0 hb1
  have q1 : ((i : Int) < (code.length : Int)) = True := eq_true (by omega)
  have q0 : (0 ≤ (i : Int)) = True := eq_true (by omega)
  have S0 := Aside0.mk S
  clear S hC hA hgo hret hx hac
  have KX : Aside0 ((wr.alloc (.cells #[.int .i64 1, .int .i64 d, .int .i64 a, .int .i64 b, .int .i64 loc, .int .i64 len, .int .i64 kk, .int .i64 tt] 40)).heap[wr.heap.size]? = some (.cells #[.int .i64 1, .int .i64 d, .int .i64 a, .int .i64 b, .int .i64 loc, .int .i64 len, .int .i64 kk, .int .i64 tt] 40 (0, 0))) := ⟨blk_new _ _⟩
  have S1 := Aside0.mk (S0.out.alloc (.cells #[.int .i64 1, .int .i64 d, .int .i64 a, .int .i64 b, .int .i64 loc, .int .i64 len, .int .i64 kk, .int .i64 tt] 40))
  unfold rrunBody Try.f17
  dsimp only
  go_wp2_with fail
  generalize hW1 : (wr.alloc (.cells #[.int .i64 1, .int .i64 d, .int .i64 a, .int .i64 b, .int .i64 loc, .int .i64 len, .int .i64 kk, .int .i64 tt] 40)) = W1 at KX S1 ⊢
  clear hW1 k0 k1 k2 k3 k4 k5 k6 k7 S0
  generalize wr.heap.size = bx at KX ⊢
  have x2 := blk_cell KX.out 2
  have x3 := blk_cell KX.out 3
  have hta := S1.out.ctemp a ha0 ha1
  have htb := S1.out.ctemp b hb0 hb1
  go_quiet (fail)
  generalize hW2 : W1.drewN nq = W2
  have KY : Aside0 (W2.heap[bx]? = some (.cells #[.int .i64 1, .int .i64 d, .int .i64 a, .int .i64 b, .int .i64 loc, .int .i64 len, .int .i64 kk, .int .i64 tt] 40 (0, 0))) := ⟨by rw [← hW2]; exact blk_drewN KX.out _⟩
  have S2 : Aside0 (Rr w W2 g6 g7 g8 T vt acts) := ⟨by rw [← hW2]; exact S1.out.drewN _⟩
  clear hW2 KX S1 x2 x3 hta htb
  have hl7 := blk_lt S2.out.b7
  have hl8 := blk_lt S2.out.b8
  have hlx := blk_lt KY.out
  have hl6 := blk_lt S2.out.b6
  have n78 := S2.out.n78
  have n68 := S2.out.n68
  have n67 := S2.out.n67
  have nx8 : ¬ bx = g8 := blk_ne KY.out S2.out.b8 (by decide)
  have nx7 : ¬ bx = g7 := blk_ne KY.out S2.out.b7 (by decide)
  have nx6 : ¬ bx = g6 := blk_ne KY.out S2.out.b6 (by decide)
  have x0 := blk_cell KY.out 0
  have x1 := blk_cell KY.out 1
  have x4 := blk_cell KY.out 4
  have x5 := blk_cell KY.out 5
  have x6 := blk_cell KY.out 6
  have x7 := blk_cell KY.out 7
  have y0 := blk_cell S2.out.b7 0
  have y1 := blk_cell S2.out.b7 1
  have yf := blk_frozen S2.out.b7
  have v0 := blk_cell S2.out.b6 0
  have v1_ := blk_cell S2.out.b6 1
  have vf := blk_frozen S2.out.b6
  have td := S2.out.ctemp d hd0 hd1
  have tf := blk_frozen S2.out.b8
  obtain ⟨Av, cv, rfl⟩ := Kd.R_slice S2.out.RT
  go_wp2
  refine GO.out ⟨i + 1, 0, T.set d.toNat (kk), answers.drop used, []⟩ _ _ used (.slice Av acts.length cv) rfl rfl ?fr rfl (by omega) ?st
  case fr => unfold RrFrame; (repeat apply Exists.intro); exact rfl
  case st => show Rr w _ g6 g7 g8 _ _ (acts ++ []); rw [List.append_nil]; exact (S2.out.put_temp d _).alloc _
set_option maxHeartbeats 8000000 in
set_option maxRecDepth 100000 in
theorem rr_5z {A : Option Addr} {c : Nat} {code : List S40} {Al : Option Addr} {cl : Nat} {l : List S80} {An : Option Addr} {cn : Nat} {answers : List Int} {w wr : World} {g6 g7 g8 : Nat} {T : List Int} {vt : Value} {acts : List S47} {i used : Nat} {d a b loc len kk tt : Int} {u3 u4 u5 u18 u19 u20 u21 u22 : Value} {R : Exit → Act → World → Prop}
    (H : Rround A c code Al cl l An cn answers w wr g6 g7 g8 T vt acts i used ⟨5, d, a, b, loc, len, kk, tt⟩ u3 u4 u5 u18 u19 u20 u21 u22 R) (hz : rd T b = 0) (u11 u12 u13 u14 u15 u16 u17 u23 u24 u25 u26 u27 u28 u29 u30 u31 u32 u33 u34 u35 u36 u37 u38 u39 u40 u41 u42 u43 u44 u45 u46 u47 u48 u49 u50 u51 u52 u53 u54 u55 u56 u57 u58 u59 u60 u61 u62 u63 u64 u65 u66 u67 u68 u69 u70 u71 u72 u73 u74 u75 u76 u77 u78 u79 u80 u81 u82 u83 u84 u85 u86 u87 u88 u89 u90 u91 u92 u93 u94 u95 u96 u97 u98 u99 u100 u101 u102 u103 u104 u105 u106 u107 u108 u109 u110 u111 u112 u113 u114 u115 u116 u117 u118 u119 u120 u121 u122 u123 u124 u125 u126 u127 u128 u129 u130 u131 u132 u133 u134 u135 u136 u137 u138 u139 u140 u141 u142 u143 u144 u145 u146 u147 u148 u149 u150 u151 u152 u153 u154 u155 u156 u157 u158 u159 u160 u161 u162 u163 u164 u165 u166 u167 u168 u169 u170 u171 u172 u173 u174 u175 u176 u177 u178 u179 u180 u181 u182 u183 u184 u185 u186 u187 u188 u189 u190 u191 u192 u193 u194 u195 u196 u197 u198 u199 u200 u201 u202 u203 u204 u205 u206 u207 u208 u209 u210 u211 u212 u213 u214 u215 u216 u217 u218 u219 u220 u221 u222 u223 u224 u225 u226 u227 u228 u229 u230 u231 u232 u233 u234 u235 u236 u237 u238 u239 u240 u241 u242 u243 u244 u245 : Value) :
    rrunBody.wp Try.prog R { tmps := #[.slice A code.length c, .slice Al l.length cl, .slice An answers.length cn, u3, u4, u5, .pointer (some ⟨g6, 0, none⟩), .pointer (some ⟨g7, 0, none⟩), .pointer (some ⟨g8, 0, none⟩), .int .i64 (i : Int), .int .i64 (used : Int), u11, u12, u13, u14, u15, u16, u17, u18, u19, u20, u21, u22, u23, u24, u25, u26, u27, u28, u29, u30, u31, u32, u33, u34, u35, u36, u37, u38, u39, u40, u41, u42, u43, u44, u45, u46, u47, u48, u49, u50, u51, u52, u53, u54, u55, u56, u57, u58, u59, u60, u61, u62, u63, u64, u65, u66, u67, u68, u69, u70, u71, u72, u73, u74, u75, u76, u77, u78, u79, u80, u81, u82, u83, u84, u85, u86, u87, u88, u89, u90, u91, u92, u93, u94, u95, u96, u97, u98, u99, u100, u101, u102, u103, u104, u105, u106, u107, u108, u109, u110, u111, u112, u113, u114, u115, u116, u117, u118, u119, u120, u121, u122, u123, u124, u125, u126, u127, u128, u129, u130, u131, u132, u133, u134, u135, u136, u137, u138, u139, u140, u141, u142, u143, u144, u145, u146, u147, u148, u149, u150, u151, u152, u153, u154, u155, u156, u157, u158, u159, u160, u161, u162, u163, u164, u165, u166, u167, u168, u169, u170, u171, u172, u173, u174, u175, u176, u177, u178, u179, u180, u181, u182, u183, u184, u185, u186, u187, u188, u189, u190, u191, u192, u193, u194, u195, u196, u197, u198, u199, u200, u201, u202, u203, u204, u205, u206, u207, u208, u209, u210, u211, u212, u213, u214, u215, u216, u217, u218, u219, u220, u221, u222, u223, u224, u225, u226, u227, u228, u229, u230, u231, u232, u233, u234, u235, u236, u237, u238, u239, u240, u241, u242, u243, u244, u245], defers := [] } wr := by
  obtain ⟨S, hC, hA, hi, hn, hx, hu, hal, hac, ⟨hd0, hd1⟩, ⟨ha0, ha1⟩, ⟨hb0, hb1⟩, hgo, hret⟩ := H
  have HC := Aside0.mk hC
  have HA := Aside0.mk hA
  have GO := Aside0.mk hgo
  have RET := Aside0.mk hret
  have HAC := Aside0.mk hac
  obtain ⟨ad1, ea, k0, k1, k2, k3, k4, k5, k6, k7⟩ := at_T40 (Kd.C_below HC.out S.HB) (i : Int) (by omega) (by omega)
  cases ea
  simp only [Int.toNat_natCast] at k0 k1 k2 k3 k4 k5 k6 k7
  rw [hx] at k0 k1 k2 k3 k4 k5 k6 k7
  dsimp only at k0 k1 k2 k3 k4 k5 k6 k7 hd0 hd1 ha0 ha1 hb0 hb1
  have q1 : ((i : Int) < (code.length : Int)) = True := eq_true (by omega)
  have q0 : (0 ≤ (i : Int)) = True := eq_true (by omega)
  have S0 := Aside0.mk S
  clear S hC hA hgo hret hx hac
  have KX : Aside0 ((wr.alloc (.cells #[.int .i64 5, .int .i64 d, .int .i64 a, .int .i64 b, .int .i64 loc, .int .i64 len, .int .i64 kk, .int .i64 tt] 40)).heap[wr.heap.size]? = some (.cells #[.int .i64 5, .int .i64 d, .int .i64 a, .int .i64 b, .int .i64 loc, .int .i64 len, .int .i64 kk, .int .i64 tt] 40 (0, 0))) := ⟨blk_new _ _⟩
  have S1 := Aside0.mk (S0.out.alloc (.cells #[.int .i64 5, .int .i64 d, .int .i64 a, .int .i64 b, .int .i64 loc, .int .i64 len, .int .i64 kk, .int .i64 tt] 40))
  unfold rrunBody Try.f17
  dsimp only
  go_wp2_with fail
  generalize hW1 : (wr.alloc (.cells #[.int .i64 5, .int .i64 d, .int .i64 a, .int .i64 b, .int .i64 loc, .int .i64 len, .int .i64 kk, .int .i64 tt] 40)) = W1 at KX S1 ⊢
  clear hW1 k0 k1 k2 k3 k4 k5 k6 k7 S0
  generalize wr.heap.size = bx at KX ⊢
  have x2 := blk_cell KX.out 2
  have x3 := blk_cell KX.out 3
  have hta := S1.out.ctemp a ha0 ha1
  have htb := S1.out.ctemp b hb0 hb1
  go_quiet (fail)
  generalize hW2 : W1.drewN nq = W2
  have KY : Aside0 (W2.heap[bx]? = some (.cells #[.int .i64 5, .int .i64 d, .int .i64 a, .int .i64 b, .int .i64 loc, .int .i64 len, .int .i64 kk, .int .i64 tt] 40 (0, 0))) := ⟨by rw [← hW2]; exact blk_drewN KX.out _⟩
  have S2 : Aside0 (Rr w W2 g6 g7 g8 T vt acts) := ⟨by rw [← hW2]; exact S1.out.drewN _⟩
  clear hW2 KX S1 x2 x3 hta htb
  have hl7 := blk_lt S2.out.b7
  have hl8 := blk_lt S2.out.b8
  have hlx := blk_lt KY.out
  have hl6 := blk_lt S2.out.b6
  have n78 := S2.out.n78
  have n68 := S2.out.n68
  have n67 := S2.out.n67
  have nx8 : ¬ bx = g8 := blk_ne KY.out S2.out.b8 (by decide)
  have nx7 : ¬ bx = g7 := blk_ne KY.out S2.out.b7 (by decide)
  have nx6 : ¬ bx = g6 := blk_ne KY.out S2.out.b6 (by decide)
  have x0 := blk_cell KY.out 0
  have x1 := blk_cell KY.out 1
  have x4 := blk_cell KY.out 4
  have x5 := blk_cell KY.out 5
  have x6 := blk_cell KY.out 6
  have x7 := blk_cell KY.out 7
  have y0 := blk_cell S2.out.b7 0
  have y1 := blk_cell S2.out.b7 1
  have yf := blk_frozen S2.out.b7
  have v0 := blk_cell S2.out.b6 0
  have v1_ := blk_cell S2.out.b6 1
  have vf := blk_frozen S2.out.b6
  have td := S2.out.ctemp d hd0 hd1
  have tf := blk_frozen S2.out.b8
  obtain ⟨Av, cv, rfl⟩ := Kd.R_slice S2.out.RT
  have hst : stp ⟨5, d, a, b, loc, len, kk, tt⟩ i T (answers.drop used) = ⟨0, 2, T, answers.drop used, []⟩ := by show (if rd T b = 0 then _ else _) = _; rw [if_pos hz]; rfl
  have HS := Aside0.mk hst
  have c1 : (rd T b == 0) = true := beq_iff_eq.2 hz
  clear hst hz
  go_wp2
  have hfin := S2.out.fin 2 _ rfl
  exact RET.out ⟨0, 2, T, answers.drop used, []⟩ _ _ HS.out (show (2 : Int) ≠ 0 by decide) rfl rfl rfl hfin.2.2.1 hfin.2.2.2 hfin.1 hfin.2.1
set_option maxHeartbeats 8000000 in
set_option maxRecDepth 100000 in
theorem rr_10n {A : Option Addr} {c : Nat} {code : List S40} {Al : Option Addr} {cl : Nat} {l : List S80} {An : Option Addr} {cn : Nat} {answers : List Int} {w wr : World} {g6 g7 g8 : Nat} {T : List Int} {vt : Value} {acts : List S47} {i used : Nat} {d a b loc len kk tt : Int} {u3 u4 u5 u18 u19 u20 u21 u22 : Value} {R : Exit → Act → World → Prop}
    (H : Rround A c code Al cl l An cn answers w wr g6 g7 g8 T vt acts i used ⟨10, d, a, b, loc, len, kk, tt⟩ u3 u4 u5 u18 u19 u20 u21 u22 R) (hz : used = answers.length) (u11 u12 u13 u14 u15 u16 u17 u23 u24 u25 u26 u27 u28 u29 u30 u31 u32 u33 u34 u35 u36 u37 u38 u39 u40 u41 u42 u43 u44 u45 u46 u47 u48 u49 u50 u51 u52 u53 u54 u55 u56 u57 u58 u59 u60 u61 u62 u63 u64 u65 u66 u67 u68 u69 u70 u71 u72 u73 u74 u75 u76 u77 u78 u79 u80 u81 u82 u83 u84 u85 u86 u87 u88 u89 u90 u91 u92 u93 u94 u95 u96 u97 u98 u99 u100 u101 u102 u103 u104 u105 u106 u107 u108 u109 u110 u111 u112 u113 u114 u115 u116 u117 u118 u119 u120 u121 u122 u123 u124 u125 u126 u127 u128 u129 u130 u131 u132 u133 u134 u135 u136 u137 u138 u139 u140 u141 u142 u143 u144 u145 u146 u147 u148 u149 u150 u151 u152 u153 u154 u155 u156 u157 u158 u159 u160 u161 u162 u163 u164 u165 u166 u167 u168 u169 u170 u171 u172 u173 u174 u175 u176 u177 u178 u179 u180 u181 u182 u183 u184 u185 u186 u187 u188 u189 u190 u191 u192 u193 u194 u195 u196 u197 u198 u199 u200 u201 u202 u203 u204 u205 u206 u207 u208 u209 u210 u211 u212 u213 u214 u215 u216 u217 u218 u219 u220 u221 u222 u223 u224 u225 u226 u227 u228 u229 u230 u231 u232 u233 u234 u235 u236 u237 u238 u239 u240 u241 u242 u243 u244 u245 : Value) :
    rrunBody.wp Try.prog R { tmps := #[.slice A code.length c, .slice Al l.length cl, .slice An answers.length cn, u3, u4, u5, .pointer (some ⟨g6, 0, none⟩), .pointer (some ⟨g7, 0, none⟩), .pointer (some ⟨g8, 0, none⟩), .int .i64 (i : Int), .int .i64 (used : Int), u11, u12, u13, u14, u15, u16, u17, u18, u19, u20, u21, u22, u23, u24, u25, u26, u27, u28, u29, u30, u31, u32, u33, u34, u35, u36, u37, u38, u39, u40, u41, u42, u43, u44, u45, u46, u47, u48, u49, u50, u51, u52, u53, u54, u55, u56, u57, u58, u59, u60, u61, u62, u63, u64, u65, u66, u67, u68, u69, u70, u71, u72, u73, u74, u75, u76, u77, u78, u79, u80, u81, u82, u83, u84, u85, u86, u87, u88, u89, u90, u91, u92, u93, u94, u95, u96, u97, u98, u99, u100, u101, u102, u103, u104, u105, u106, u107, u108, u109, u110, u111, u112, u113, u114, u115, u116, u117, u118, u119, u120, u121, u122, u123, u124, u125, u126, u127, u128, u129, u130, u131, u132, u133, u134, u135, u136, u137, u138, u139, u140, u141, u142, u143, u144, u145, u146, u147, u148, u149, u150, u151, u152, u153, u154, u155, u156, u157, u158, u159, u160, u161, u162, u163, u164, u165, u166, u167, u168, u169, u170, u171, u172, u173, u174, u175, u176, u177, u178, u179, u180, u181, u182, u183, u184, u185, u186, u187, u188, u189, u190, u191, u192, u193, u194, u195, u196, u197, u198, u199, u200, u201, u202, u203, u204, u205, u206, u207, u208, u209, u210, u211, u212, u213, u214, u215, u216, u217, u218, u219, u220, u221, u222, u223, u224, u225, u226, u227, u228, u229, u230, u231, u232, u233, u234, u235, u236, u237, u238, u239, u240, u241, u242, u243, u244, u245], defers := [] } wr := by
  obtain ⟨S, hC, hA, hi, hn, hx, hu, hal, hac, ⟨hd0, hd1⟩, ⟨ha0, ha1⟩, ⟨hb0, hb1⟩, hgo, hret⟩ := H
  have HC := Aside0.mk hC
  have HA := Aside0.mk hA
  have GO := Aside0.mk hgo
  have RET := Aside0.mk hret
  have HAC := Aside0.mk hac
  obtain ⟨ad1, ea, k0, k1, k2, k3, k4, k5, k6, k7⟩ := at_T40 (Kd.C_below HC.out S.HB) (i : Int) (by omega) (by omega)
  cases ea
  simp only [Int.toNat_natCast] at k0 k1 k2 k3 k4 k5 k6 k7
  rw [hx] at k0 k1 k2 k3 k4 k5 k6 k7
  dsimp only at k0 k1 k2 k3 k4 k5 k6 k7 hd0 hd1 ha0 ha1 hb0 hb1
  have q1 : ((i : Int) < (code.length : Int)) = True := eq_true (by omega)
  have q0 : (0 ≤ (i : Int)) = True := eq_true (by omega)
  have S0 := Aside0.mk S
  clear S hC hA hgo hret hx hac
  have KX : Aside0 ((wr.alloc (.cells #[.int .i64 10, .int .i64 d, .int .i64 a, .int .i64 b, .int .i64 loc, .int .i64 len, .int .i64 kk, .int .i64 tt] 40)).heap[wr.heap.size]? = some (.cells #[.int .i64 10, .int .i64 d, .int .i64 a, .int .i64 b, .int .i64 loc, .int .i64 len, .int .i64 kk, .int .i64 tt] 40 (0, 0))) := ⟨blk_new _ _⟩
  have S1 := Aside0.mk (S0.out.alloc (.cells #[.int .i64 10, .int .i64 d, .int .i64 a, .int .i64 b, .int .i64 loc, .int .i64 len, .int .i64 kk, .int .i64 tt] 40))
  unfold rrunBody Try.f17
  dsimp only
  go_wp2_with fail
  generalize hW1 : (wr.alloc (.cells #[.int .i64 10, .int .i64 d, .int .i64 a, .int .i64 b, .int .i64 loc, .int .i64 len, .int .i64 kk, .int .i64 tt] 40)) = W1 at KX S1 ⊢
  clear hW1 k0 k1 k2 k3 k4 k5 k6 k7 S0
  generalize wr.heap.size = bx at KX ⊢
  have x2 := blk_cell KX.out 2
  have x3 := blk_cell KX.out 3
  have hta := S1.out.ctemp a ha0 ha1
  have htb := S1.out.ctemp b hb0 hb1
  go_quiet (fail)
  generalize hW2 : W1.drewN nq = W2
  have KY : Aside0 (W2.heap[bx]? = some (.cells #[.int .i64 10, .int .i64 d, .int .i64 a, .int .i64 b, .int .i64 loc, .int .i64 len, .int .i64 kk, .int .i64 tt] 40 (0, 0))) := ⟨by rw [← hW2]; exact blk_drewN KX.out _⟩
  have S2 : Aside0 (Rr w W2 g6 g7 g8 T vt acts) := ⟨by rw [← hW2]; exact S1.out.drewN _⟩
  clear hW2 KX S1 x2 x3 hta htb
  have hl7 := blk_lt S2.out.b7
  have hl8 := blk_lt S2.out.b8
  have hlx := blk_lt KY.out
  have hl6 := blk_lt S2.out.b6
  have n78 := S2.out.n78
  have n68 := S2.out.n68
  have n67 := S2.out.n67
  have nx8 : ¬ bx = g8 := blk_ne KY.out S2.out.b8 (by decide)
  have nx7 : ¬ bx = g7 := blk_ne KY.out S2.out.b7 (by decide)
  have nx6 : ¬ bx = g6 := blk_ne KY.out S2.out.b6 (by decide)
  have x0 := blk_cell KY.out 0
  have x1 := blk_cell KY.out 1
  have x4 := blk_cell KY.out 4
  have x5 := blk_cell KY.out 5
  have x6 := blk_cell KY.out 6
  have x7 := blk_cell KY.out 7
  have y0 := blk_cell S2.out.b7 0
  have y1 := blk_cell S2.out.b7 1
  have yf := blk_frozen S2.out.b7
  have v0 := blk_cell S2.out.b6 0
  have v1_ := blk_cell S2.out.b6 1
  have vf := blk_frozen S2.out.b6
  have td := S2.out.ctemp d hd0 hd1
  have tf := blk_frozen S2.out.b8
  obtain ⟨Av, cv, rfl⟩ := Kd.R_slice S2.out.RT
  have hu2 : used = answers.length := hz
  have HD0 : Aside0 (answers.drop used = []) := ⟨by rw [hu2]; simp⟩
  have c9 : (used == answers.length) = true := by rw [hu2]; simp
  have c8 : ((used : Int) == (answers.length : Int)) = true := by rw [hu2]; simp
  clear hz hu2
  have hst : stp ⟨10, d, a, b, loc, len, kk, tt⟩ i T (answers.drop used) = ⟨0, 4, T, answers.drop used, []⟩ := by rw [HD0.out]; rfl
  have HS := Aside0.mk hst
  clear hst
  go_wp2
  have hfin := S2.out.fin 4 _ rfl
  exact RET.out ⟨0, 4, T, answers.drop used, []⟩ _ _ HS.out (show (4 : Int) ≠ 0 by decide) rfl rfl rfl hfin.2.2.1 hfin.2.2.2 hfin.1 hfin.2.1
set_option maxHeartbeats 8000000 in
set_option maxRecDepth 100000 in
theorem rr_8 {A : Option Addr} {c : Nat} {code : List S40} {Al : Option Addr} {cl : Nat} {l : List S80} {An : Option Addr} {cn : Nat} {answers : List Int} {w wr : World} {g6 g7 g8 : Nat} {T : List Int} {vt : Value} {acts : List S47} {i used : Nat} {d a b loc len kk tt : Int} {u3 u4 u5 u18 u19 u20 u21 u22 : Value} {R : Exit → Act → World → Prop}
    (H : Rround A c code Al cl l An cn answers w wr g6 g7 g8 T vt acts i used ⟨8, d, a, b, loc, len, kk, tt⟩ u3 u4 u5 u18 u19 u20 u21 u22 R) (hz : used < answers.length) (u11 u12 u13 u14 u15 u16 u17 u23 u24 u25 u26 u27 u28 u29 u30 u31 u32 u33 u34 u35 u36 u37 u38 u39 u40 u41 u42 u43 u44 u45 u46 u47 u48 u49 u50 u51 u52 u53 u54 u55 u56 u57 u58 u59 u60 u61 u62 u63 u64 u65 u66 u67 u68 u69 u70 u71 u72 u73 u74 u75 u76 u77 u78 u79 u80 u81 u82 u83 u84 u85 u86 u87 u88 u89 u90 u91 u92 u93 u94 u95 u96 u97 u98 u99 u100 u101 u102 u103 u104 u105 u106 u107 u108 u109 u110 u111 u112 u113 u114 u115 u116 u117 u118 u119 u120 u121 u122 u123 u124 u125 u126 u127 u128 u129 u130 u131 u132 u133 u134 u135 u136 u137 u138 u139 u140 u141 u142 u143 u144 u145 u146 u147 u148 u149 u150 u151 u152 u153 u154 u155 u156 u157 u158 u159 u160 u161 u162 u163 u164 u165 u166 u167 u168 u169 u170 u171 u172 u173 u174 u175 u176 u177 u178 u179 u180 u181 u182 u183 u184 u185 u186 u187 u188 u189 u190 u191 u192 u193 u194 u195 u196 u197 u198 u199 u200 u201 u202 u203 u204 u205 u206 u207 u208 u209 u210 u211 u212 u213 u214 u215 u216 u217 u218 u219 u220 u221 u222 u223 u224 u225 u226 u227 u228 u229 u230 u231 u232 u233 u234 u235 u236 u237 u238 u239 u240 u241 u242 u243 u244 u245 : Value) :
    rrunBody.wp Try.prog R { tmps := #[.slice A code.length c, .slice Al l.length cl, .slice An answers.length cn, u3, u4, u5, .pointer (some ⟨g6, 0, none⟩), .pointer (some ⟨g7, 0, none⟩), .pointer (some ⟨g8, 0, none⟩), .int .i64 (i : Int), .int .i64 (used : Int), u11, u12, u13, u14, u15, u16, u17, u18, u19, u20, u21, u22, u23, u24, u25, u26, u27, u28, u29, u30, u31, u32, u33, u34, u35, u36, u37, u38, u39, u40, u41, u42, u43, u44, u45, u46, u47, u48, u49, u50, u51, u52, u53, u54, u55, u56, u57, u58, u59, u60, u61, u62, u63, u64, u65, u66, u67, u68, u69, u70, u71, u72, u73, u74, u75, u76, u77, u78, u79, u80, u81, u82, u83, u84, u85, u86, u87, u88, u89, u90, u91, u92, u93, u94, u95, u96, u97, u98, u99, u100, u101, u102, u103, u104, u105, u106, u107, u108, u109, u110, u111, u112, u113, u114, u115, u116, u117, u118, u119, u120, u121, u122, u123, u124, u125, u126, u127, u128, u129, u130, u131, u132, u133, u134, u135, u136, u137, u138, u139, u140, u141, u142, u143, u144, u145, u146, u147, u148, u149, u150, u151, u152, u153, u154, u155, u156, u157, u158, u159, u160, u161, u162, u163, u164, u165, u166, u167, u168, u169, u170, u171, u172, u173, u174, u175, u176, u177, u178, u179, u180, u181, u182, u183, u184, u185, u186, u187, u188, u189, u190, u191, u192, u193, u194, u195, u196, u197, u198, u199, u200, u201, u202, u203, u204, u205, u206, u207, u208, u209, u210, u211, u212, u213, u214, u215, u216, u217, u218, u219, u220, u221, u222, u223, u224, u225, u226, u227, u228, u229, u230, u231, u232, u233, u234, u235, u236, u237, u238, u239, u240, u241, u242, u243, u244, u245], defers := [] } wr := by
  obtain ⟨S, hC, hA, hi, hn, hx, hu, hal, hac, ⟨hd0, hd1⟩, ⟨ha0, ha1⟩, ⟨hb0, hb1⟩, hgo, hret⟩ := H
  have HC := Aside0.mk hC
  have HA := Aside0.mk hA
  have GO := Aside0.mk hgo
  have RET := Aside0.mk hret
  have HAC := Aside0.mk hac
  obtain ⟨ad1, ea, k0, k1, k2, k3, k4, k5, k6, k7⟩ := at_T40 (Kd.C_below HC.out S.HB) (i : Int) (by omega) (by omega)
  cases ea
  simp only [Int.toNat_natCast] at k0 k1 k2 k3 k4 k5 k6 k7
  rw [hx] at k0 k1 k2 k3 k4 k5 k6 k7
  dsimp only at k0 k1 k2 k3 k4 k5 k6 k7 hd0 hd1 ha0 ha1 hb0 hb1
  have q1 : ((i : Int) < (code.length : Int)) = True := eq_true (by omega)
  have q0 : (0 ≤ (i : Int)) = True := eq_true (by omega)
  have S0 := Aside0.mk S
  clear S hC hA hgo hret hx hac
  have KX : Aside0 ((wr.alloc (.cells #[.int .i64 8, .int .i64 d, .int .i64 a, .int .i64 b, .int .i64 loc, .int .i64 len, .int .i64 kk, .int .i64 tt] 40)).heap[wr.heap.size]? = some (.cells #[.int .i64 8, .int .i64 d, .int .i64 a, .int .i64 b, .int .i64 loc, .int .i64 len, .int .i64 kk, .int .i64 tt] 40 (0, 0))) := ⟨blk_new _ _⟩
  have S1 := Aside0.mk (S0.out.alloc (.cells #[.int .i64 8, .int .i64 d, .int .i64 a, .int .i64 b, .int .i64 loc, .int .i64 len, .int .i64 kk, .int .i64 tt] 40))
  unfold rrunBody Try.f17
  dsimp only
  go_wp2_with fail
  generalize hW1 : (wr.alloc (.cells #[.int .i64 8, .int .i64 d, .int .i64 a, .int .i64 b, .int .i64 loc, .int .i64 len, .int .i64 kk, .int .i64 tt] 40)) = W1 at KX S1 ⊢
  clear hW1 k0 k1 k2 k3 k4 k5 k6 k7 S0
  generalize wr.heap.size = bx at KX ⊢
  have x2 := blk_cell KX.out 2
  have x3 := blk_cell KX.out 3
  have hta := S1.out.ctemp a ha0 ha1
  have htb := S1.out.ctemp b hb0 hb1
  go_quiet (fail)
  generalize hW2 : W1.drewN nq = W2
  have KY : Aside0 (W2.heap[bx]? = some (.cells #[.int .i64 8, .int .i64 d, .int .i64 a, .int .i64 b, .int .i64 loc, .int .i64 len, .int .i64 kk, .int .i64 tt] 40 (0, 0))) := ⟨by rw [← hW2]; exact blk_drewN KX.out _⟩
  have S2 : Aside0 (Rr w W2 g6 g7 g8 T vt acts) := ⟨by rw [← hW2]; exact S1.out.drewN _⟩
  clear hW2 KX S1 x2 x3 hta htb
  have hl7 := blk_lt S2.out.b7
  have hl8 := blk_lt S2.out.b8
  have hlx := blk_lt KY.out
  have hl6 := blk_lt S2.out.b6
  have n78 := S2.out.n78
  have n68 := S2.out.n68
  have n67 := S2.out.n67
  have nx8 : ¬ bx = g8 := blk_ne KY.out S2.out.b8 (by decide)
  have nx7 : ¬ bx = g7 := blk_ne KY.out S2.out.b7 (by decide)
  have nx6 : ¬ bx = g6 := blk_ne KY.out S2.out.b6 (by decide)
  have x0 := blk_cell KY.out 0
  have x1 := blk_cell KY.out 1
  have x4 := blk_cell KY.out 4
  have x5 := blk_cell KY.out 5
  have x6 := blk_cell KY.out 6
  have x7 := blk_cell KY.out 7
  have y0 := blk_cell S2.out.b7 0
  have y1 := blk_cell S2.out.b7 1
  have yf := blk_frozen S2.out.b7
  have v0 := blk_cell S2.out.b6 0
  have v1_ := blk_cell S2.out.b6 1
  have vf := blk_frozen S2.out.b6
  have td := S2.out.ctemp d hd0 hd1
  have tf := blk_frozen S2.out.b8
  obtain ⟨Av, cv, rfl⟩ := Kd.R_slice S2.out.RT
  have HD0 := Aside0.mk (drop_cons answers used hz)
  have c9 : (used == answers.length) = false := beq_eq_false_iff_ne.2 (by omega)
  have c8 : ((used : Int) == (answers.length : Int)) = false := beq_eq_false_iff_ne.2 (by omega)
  have r1 : ((used : Int) < (answers.length : Int)) = True := eq_true (by omega)
  have r0 : (0 ≤ (used : Int)) = True := eq_true (by omega)
  have r2 : used ≤ 100000 := by omega
  obtain ⟨ad2, ea2, hx2⟩ := Kd.at_int (Kd.C_below HA.out S2.out.HB) (used : Int) (by omega) (by omega)
  cases ea2
  simp only [Int.toNat_natCast] at hx2
  generalize rd answers (used : Int) = n at HD0 hx2
  have hst : stp ⟨8, d, a, b, loc, len, kk, tt⟩ i T (answers.drop used) = ⟨i + 1, 0, T.set d.toNat n, answers.drop (used + 1), [⟨3, loc, n, 0⟩]⟩ := by rw [HD0.out]; rfl
  have HS := Aside0.mk hst
  clear hst
  have SA := Aside0.mk ((S2.out.put_temp d n).alloc (.cells #[.int .i64 (3), .int .i64 (loc), .int .i64 (n), .int .i64 (0)] 47))
  go_wp2_with (at_builtin; refine Kd.R_append k47 (w0 := w) w.heap.size rfl _ _ 29 47 _ 32 rfl Try.underlying29 info47 rfl (by decide) (by decide) (.slice Av acts.length cv) acts ⟨3, loc, n, 0⟩ [.int .i64 (3), .int .i64 (loc), .int .i64 (n), .int .i64 (0)] (fun _ => True) (fun _ => False) rfl ?hx1 (k47_mkM _ _ _ ⟨3, loc, n, 0⟩) (fun _ h => h.elim) (fun _ _ => trivial) SA.out.RT SA.out.HB SA.out.HB.size ?hx2 ?_; (case hx1 => simp [Act.eval]); (case hx2 => (have := HAC.out; omega)); intro v9 w9 hR hB9 hg9 hat9; obtain ⟨A9, c9, rfl⟩ := Kd.R_slice hR; have S9 := Aside0.mk (SA.out.put_acts hg9 hB9 hR); have z7 := blk_cell (blk_grown SA.out.b7 hg9 (Kd.R_ne SA.out.RT SA.out.b7 (by decide))) 0; have f7 := blk_frozen (blk_grown SA.out.b7 hg9 (Kd.R_ne SA.out.RT SA.out.b7 (by decide))); clear hR hB9 hg9 hat9)
  have h9 := S9.out
  simp only [List.length_append, List.length_cons, List.length_nil, Nat.zero_add] at h9
  refine GO.out ⟨i + 1, 0, T.set d.toNat n, answers.drop (used + 1), [⟨3, loc, n, 0⟩]⟩ _ _ (used + 1) (.slice A9 (acts.length + 1) c9) HS.out rfl ?fr rfl (by omega) ?st
  case fr => unfold RrFrame; (repeat apply Exists.intro); exact rfl
  case st => exact h9
set_option maxHeartbeats 8000000 in
set_option maxRecDepth 100000 in
theorem rr_13n {A : Option Addr} {c : Nat} {code : List S40} {Al : Option Addr} {cl : Nat} {l : List S80} {An : Option Addr} {cn : Nat} {answers : List Int} {w wr : World} {g6 g7 g8 : Nat} {T : List Int} {vt : Value} {acts : List S47} {i used : Nat} {d a b loc len kk tt : Int} {u3 u4 u5 u18 u19 u20 u21 u22 : Value} {R : Exit → Act → World → Prop}
    (H : Rround A c code Al cl l An cn answers w wr g6 g7 g8 T vt acts i used ⟨13, d, a, b, loc, len, kk, tt⟩ u3 u4 u5 u18 u19 u20 u21 u22 R) (hr0 : 0 ≤ rd T a) (hr1 : rd T a < len) (hz : used = answers.length) (u11 u12 u13 u14 u15 u16 u17 u23 u24 u25 u26 u27 u28 u29 u30 u31 u32 u33 u34 u35 u36 u37 u38 u39 u40 u41 u42 u43 u44 u45 u46 u47 u48 u49 u50 u51 u52 u53 u54 u55 u56 u57 u58 u59 u60 u61 u62 u63 u64 u65 u66 u67 u68 u69 u70 u71 u72 u73 u74 u75 u76 u77 u78 u79 u80 u81 u82 u83 u84 u85 u86 u87 u88 u89 u90 u91 u92 u93 u94 u95 u96 u97 u98 u99 u100 u101 u102 u103 u104 u105 u106 u107 u108 u109 u110 u111 u112 u113 u114 u115 u116 u117 u118 u119 u120 u121 u122 u123 u124 u125 u126 u127 u128 u129 u130 u131 u132 u133 u134 u135 u136 u137 u138 u139 u140 u141 u142 u143 u144 u145 u146 u147 u148 u149 u150 u151 u152 u153 u154 u155 u156 u157 u158 u159 u160 u161 u162 u163 u164 u165 u166 u167 u168 u169 u170 u171 u172 u173 u174 u175 u176 u177 u178 u179 u180 u181 u182 u183 u184 u185 u186 u187 u188 u189 u190 u191 u192 u193 u194 u195 u196 u197 u198 u199 u200 u201 u202 u203 u204 u205 u206 u207 u208 u209 u210 u211 u212 u213 u214 u215 u216 u217 u218 u219 u220 u221 u222 u223 u224 u225 u226 u227 u228 u229 u230 u231 u232 u233 u234 u235 u236 u237 u238 u239 u240 u241 u242 u243 u244 u245 : Value) :
    rrunBody.wp Try.prog R { tmps := #[.slice A code.length c, .slice Al l.length cl, .slice An answers.length cn, u3, u4, u5, .pointer (some ⟨g6, 0, none⟩), .pointer (some ⟨g7, 0, none⟩), .pointer (some ⟨g8, 0, none⟩), .int .i64 (i : Int), .int .i64 (used : Int), u11, u12, u13, u14, u15, u16, u17, u18, u19, u20, u21, u22, u23, u24, u25, u26, u27, u28, u29, u30, u31, u32, u33, u34, u35, u36, u37, u38, u39, u40, u41, u42, u43, u44, u45, u46, u47, u48, u49, u50, u51, u52, u53, u54, u55, u56, u57, u58, u59, u60, u61, u62, u63, u64, u65, u66, u67, u68, u69, u70, u71, u72, u73, u74, u75, u76, u77, u78, u79, u80, u81, u82, u83, u84, u85, u86, u87, u88, u89, u90, u91, u92, u93, u94, u95, u96, u97, u98, u99, u100, u101, u102, u103, u104, u105, u106, u107, u108, u109, u110, u111, u112, u113, u114, u115, u116, u117, u118, u119, u120, u121, u122, u123, u124, u125, u126, u127, u128, u129, u130, u131, u132, u133, u134, u135, u136, u137, u138, u139, u140, u141, u142, u143, u144, u145, u146, u147, u148, u149, u150, u151, u152, u153, u154, u155, u156, u157, u158, u159, u160, u161, u162, u163, u164, u165, u166, u167, u168, u169, u170, u171, u172, u173, u174, u175, u176, u177, u178, u179, u180, u181, u182, u183, u184, u185, u186, u187, u188, u189, u190, u191, u192, u193, u194, u195, u196, u197, u198, u199, u200, u201, u202, u203, u204, u205, u206, u207, u208, u209, u210, u211, u212, u213, u214, u215, u216, u217, u218, u219, u220, u221, u222, u223, u224, u225, u226, u227, u228, u229, u230, u231, u232, u233, u234, u235, u236, u237, u238, u239, u240, u241, u242, u243, u244, u245], defers := [] } wr := by
  obtain ⟨S, hC, hA, hi, hn, hx, hu, hal, hac, ⟨hd0, hd1⟩, ⟨ha0, ha1⟩, ⟨hb0, hb1⟩, hgo, hret⟩ := H
  have HC := Aside0.mk hC
  have HA := Aside0.mk hA
  have GO := Aside0.mk hgo
  have RET := Aside0.mk hret
  have HAC := Aside0.mk hac
  obtain ⟨ad1, ea, k0, k1, k2, k3, k4, k5, k6, k7⟩ := at_T40 (Kd.C_below HC.out S.HB) (i : Int) (by omega) (by omega)
  cases ea
  simp only [Int.toNat_natCast] at k0 k1 k2 k3 k4 k5 k6 k7
  rw [hx] at k0 k1 k2 k3 k4 k5 k6 k7
  dsimp only at k0 k1 k2 k3 k4 k5 k6 k7 hd0 hd1 ha0 ha1 hb0 hb1
  have q1 : ((i : Int) < (code.length : Int)) = True := eq_true (by omega)
  have q0 : (0 ≤ (i : Int)) = True := eq_true (by omega)
  have S0 := Aside0.mk S
  clear S hC hA hgo hret hx hac
  have KX : Aside0 ((wr.alloc (.cells #[.int .i64 13, .int .i64 d, .int .i64 a, .int .i64 b, .int .i64 loc, .int .i64 len, .int .i64 kk, .int .i64 tt] 40)).heap[wr.heap.size]? = some (.cells #[.int .i64 13, .int .i64 d, .int .i64 a, .int .i64 b, .int .i64 loc, .int .i64 len, .int .i64 kk, .int .i64 tt] 40 (0, 0))) := ⟨blk_new _ _⟩
  have S1 := Aside0.mk (S0.out.alloc (.cells #[.int .i64 13, .int .i64 d, .int .i64 a, .int .i64 b, .int .i64 loc, .int .i64 len, .int .i64 kk, .int .i64 tt] 40))
  unfold rrunBody Try.f17
  dsimp only
  go_wp2_with fail
  generalize hW1 : (wr.alloc (.cells #[.int .i64 13, .int .i64 d, .int .i64 a, .int .i64 b, .int .i64 loc, .int .i64 len, .int .i64 kk, .int .i64 tt] 40)) = W1 at KX S1 ⊢
  clear hW1 k0 k1 k2 k3 k4 k5 k6 k7 S0
  generalize wr.heap.size = bx at KX ⊢
  have x2 := blk_cell KX.out 2
  have x3 := blk_cell KX.out 3
  have hta := S1.out.ctemp a ha0 ha1
  have htb := S1.out.ctemp b hb0 hb1
  go_quiet (fail)
  generalize hW2 : W1.drewN nq = W2
  have KY : Aside0 (W2.heap[bx]? = some (.cells #[.int .i64 13, .int .i64 d, .int .i64 a, .int .i64 b, .int .i64 loc, .int .i64 len, .int .i64 kk, .int .i64 tt] 40 (0, 0))) := ⟨by rw [← hW2]; exact blk_drewN KX.out _⟩
  have S2 : Aside0 (Rr w W2 g6 g7 g8 T vt acts) := ⟨by rw [← hW2]; exact S1.out.drewN _⟩
  clear hW2 KX S1 x2 x3 hta htb
  have hl7 := blk_lt S2.out.b7
  have hl8 := blk_lt S2.out.b8
  have hlx := blk_lt KY.out
  have hl6 := blk_lt S2.out.b6
  have n78 := S2.out.n78
  have n68 := S2.out.n68
  have n67 := S2.out.n67
  have nx8 : ¬ bx = g8 := blk_ne KY.out S2.out.b8 (by decide)
  have nx7 : ¬ bx = g7 := blk_ne KY.out S2.out.b7 (by decide)
  have nx6 : ¬ bx = g6 := blk_ne KY.out S2.out.b6 (by decide)
  have x0 := blk_cell KY.out 0
  have x1 := blk_cell KY.out 1
  have x4 := blk_cell KY.out 4
  have x5 := blk_cell KY.out 5
  have x6 := blk_cell KY.out 6
  have x7 := blk_cell KY.out 7
  have y0 := blk_cell S2.out.b7 0
  have y1 := blk_cell S2.out.b7 1
  have yf := blk_frozen S2.out.b7
  have v0 := blk_cell S2.out.b6 0
  have v1_ := blk_cell S2.out.b6 1
  have vf := blk_frozen S2.out.b6
  have td := S2.out.ctemp d hd0 hd1
  have tf := blk_frozen S2.out.b8
  obtain ⟨Av, cv, rfl⟩ := Kd.R_slice S2.out.RT
  have hu2 : used = answers.length := hz
  have HD0 : Aside0 (answers.drop used = []) := ⟨by rw [hu2]; simp⟩
  have c9 : (used == answers.length) = true := by rw [hu2]; simp
  have c8 : ((used : Int) == (answers.length : Int)) = true := by rw [hu2]; simp
  clear hz hu2
  have HO : outb ⟨13, d, a, b, loc, len, kk, tt⟩ T = false := by simp [outb, hr0, hr1]
  have HOO := Aside0.mk HO
  clear HO
  have e1 : decide (rd T a < 0) = false := decide_eq_false (by omega)
  have e2 : decide (len ≤ rd T a) = false := decide_eq_false (by omega)
  have hst : stp ⟨13, d, a, b, loc, len, kk, tt⟩ i T (answers.drop used) = ⟨0, 4, T, answers.drop used, []⟩ := by rw [HD0.out]; show (if outb ⟨13, d, a, b, loc, len, kk, tt⟩ T then _ else _) = _; rw [if_neg (by rw [HOO.out]; decide)]; rfl
  have HS := Aside0.mk hst
  clear hst
  go_wp2
  have hfin := S2.out.fin 4 _ rfl
  exact RET.out ⟨0, 4, T, answers.drop used, []⟩ _ _ HS.out (show (4 : Int) ≠ 0 by decide) rfl rfl rfl hfin.2.2.1 hfin.2.2.2 hfin.1 hfin.2.1
set_option maxHeartbeats 8000000 in
set_option maxRecDepth 100000 in
theorem rr_14 {A : Option Addr} {c : Nat} {code : List S40} {Al : Option Addr} {cl : Nat} {l : List S80} {An : Option Addr} {cn : Nat} {answers : List Int} {w wr : World} {g6 g7 g8 : Nat} {T : List Int} {vt : Value} {acts : List S47} {i used : Nat} {d a b loc len kk tt : Int} {u3 u4 u5 u18 u19 u20 u21 u22 : Value} {R : Exit → Act → World → Prop}
    (H : Rround A c code Al cl l An cn answers w wr g6 g7 g8 T vt acts i used ⟨14, d, a, b, loc, len, kk, tt⟩ u3 u4 u5 u18 u19 u20 u21 u22 R) (hr0 : 0 ≤ rd T a) (hr1 : rd T a < len) (u11 u12 u13 u14 u15 u16 u17 u23 u24 u25 u26 u27 u28 u29 u30 u31 u32 u33 u34 u35 u36 u37 u38 u39 u40 u41 u42 u43 u44 u45 u46 u47 u48 u49 u50 u51 u52 u53 u54 u55 u56 u57 u58 u59 u60 u61 u62 u63 u64 u65 u66 u67 u68 u69 u70 u71 u72 u73 u74 u75 u76 u77 u78 u79 u80 u81 u82 u83 u84 u85 u86 u87 u88 u89 u90 u91 u92 u93 u94 u95 u96 u97 u98 u99 u100 u101 u102 u103 u104 u105 u106 u107 u108 u109 u110 u111 u112 u113 u114 u115 u116 u117 u118 u119 u120 u121 u122 u123 u124 u125 u126 u127 u128 u129 u130 u131 u132 u133 u134 u135 u136 u137 u138 u139 u140 u141 u142 u143 u144 u145 u146 u147 u148 u149 u150 u151 u152 u153 u154 u155 u156 u157 u158 u159 u160 u161 u162 u163 u164 u165 u166 u167 u168 u169 u170 u171 u172 u173 u174 u175 u176 u177 u178 u179 u180 u181 u182 u183 u184 u185 u186 u187 u188 u189 u190 u191 u192 u193 u194 u195 u196 u197 u198 u199 u200 u201 u202 u203 u204 u205 u206 u207 u208 u209 u210 u211 u212 u213 u214 u215 u216 u217 u218 u219 u220 u221 u222 u223 u224 u225 u226 u227 u228 u229 u230 u231 u232 u233 u234 u235 u236 u237 u238 u239 u240 u241 u242 u243 u244 u245 : Value) :
    rrunBody.wp Try.prog R { tmps := #[.slice A code.length c, .slice Al l.length cl, .slice An answers.length cn, u3, u4, u5, .pointer (some ⟨g6, 0, none⟩), .pointer (some ⟨g7, 0, none⟩), .pointer (some ⟨g8, 0, none⟩), .int .i64 (i : Int), .int .i64 (used : Int), u11, u12, u13, u14, u15, u16, u17, u18, u19, u20, u21, u22, u23, u24, u25, u26, u27, u28, u29, u30, u31, u32, u33, u34, u35, u36, u37, u38, u39, u40, u41, u42, u43, u44, u45, u46, u47, u48, u49, u50, u51, u52, u53, u54, u55, u56, u57, u58, u59, u60, u61, u62, u63, u64, u65, u66, u67, u68, u69, u70, u71, u72, u73, u74, u75, u76, u77, u78, u79, u80, u81, u82, u83, u84, u85, u86, u87, u88, u89, u90, u91, u92, u93, u94, u95, u96, u97, u98, u99, u100, u101, u102, u103, u104, u105, u106, u107, u108, u109, u110, u111, u112, u113, u114, u115, u116, u117, u118, u119, u120, u121, u122, u123, u124, u125, u126, u127, u128, u129, u130, u131, u132, u133, u134, u135, u136, u137, u138, u139, u140, u141, u142, u143, u144, u145, u146, u147, u148, u149, u150, u151, u152, u153, u154, u155, u156, u157, u158, u159, u160, u161, u162, u163, u164, u165, u166, u167, u168, u169, u170, u171, u172, u173, u174, u175, u176, u177, u178, u179, u180, u181, u182, u183, u184, u185, u186, u187, u188, u189, u190, u191, u192, u193, u194, u195, u196, u197, u198, u199, u200, u201, u202, u203, u204, u205, u206, u207, u208, u209, u210, u211, u212, u213, u214, u215, u216, u217, u218, u219, u220, u221, u222, u223, u224, u225, u226, u227, u228, u229, u230, u231, u232, u233, u234, u235, u236, u237, u238, u239, u240, u241, u242, u243, u244, u245], defers := [] } wr := by
  obtain ⟨S, hC, hA, hi, hn, hx, hu, hal, hac, ⟨hd0, hd1⟩, ⟨ha0, ha1⟩, ⟨hb0, hb1⟩, hgo, hret⟩ := H
  have HC := Aside0.mk hC
  have HA := Aside0.mk hA
  have GO := Aside0.mk hgo
  have RET := Aside0.mk hret
  have HAC := Aside0.mk hac
  obtain ⟨ad1, ea, k0, k1, k2, k3, k4, k5, k6, k7⟩ := at_T40 (Kd.C_below HC.out S.HB) (i : Int) (by omega) (by omega)
  cases ea
  simp only [Int.toNat_natCast] at k0 k1 k2 k3 k4 k5 k6 k7
  rw [hx] at k0 k1 k2 k3 k4 k5 k6 k7
  dsimp only at k0 k1 k2 k3 k4 k5 k6 k7 hd0 hd1 ha0 ha1 hb0 hb1
  have q1 : ((i : Int) < (code.length : Int)) = True := eq_true (by omega)
  have q0 : (0 ≤ (i : Int)) = True := eq_true (by omega)
  have S0 := Aside0.mk S
  clear S hC hA hgo hret hx hac
  have KX : Aside0 ((wr.alloc (.cells #[.int .i64 14, .int .i64 d, .int .i64 a, .int .i64 b, .int .i64 loc, .int .i64 len, .int .i64 kk, .int .i64 tt] 40)).heap[wr.heap.size]? = some (.cells #[.int .i64 14, .int .i64 d, .int .i64 a, .int .i64 b, .int .i64 loc, .int .i64 len, .int .i64 kk, .int .i64 tt] 40 (0, 0))) := ⟨blk_new _ _⟩
  have S1 := Aside0.mk (S0.out.alloc (.cells #[.int .i64 14, .int .i64 d, .int .i64 a, .int .i64 b, .int .i64 loc, .int .i64 len, .int .i64 kk, .int .i64 tt] 40))
  unfold rrunBody Try.f17
  dsimp only
  go_wp2_with fail
  generalize hW1 : (wr.alloc (.cells #[.int .i64 14, .int .i64 d, .int .i64 a, .int .i64 b, .int .i64 loc, .int .i64 len, .int .i64 kk, .int .i64 tt] 40)) = W1 at KX S1 ⊢
  clear hW1 k0 k1 k2 k3 k4 k5 k6 k7 S0
  generalize wr.heap.size = bx at KX ⊢
  have x2 := blk_cell KX.out 2
  have x3 := blk_cell KX.out 3
  have hta := S1.out.ctemp a ha0 ha1
  have htb := S1.out.ctemp b hb0 hb1
  go_quiet (fail)
  generalize hW2 : W1.drewN nq = W2
  have KY : Aside0 (W2.heap[bx]? = some (.cells #[.int .i64 14, .int .i64 d, .int .i64 a, .int .i64 b, .int .i64 loc, .int .i64 len, .int .i64 kk, .int .i64 tt] 40 (0, 0))) := ⟨by rw [← hW2]; exact blk_drewN KX.out _⟩
  have S2 : Aside0 (Rr w W2 g6 g7 g8 T vt acts) := ⟨by rw [← hW2]; exact S1.out.drewN _⟩
  clear hW2 KX S1 x2 x3 hta htb
  have hl7 := blk_lt S2.out.b7
  have hl8 := blk_lt S2.out.b8
  have hlx := blk_lt KY.out
  have hl6 := blk_lt S2.out.b6
  have n78 := S2.out.n78
  have n68 := S2.out.n68
  have n67 := S2.out.n67
  have nx8 : ¬ bx = g8 := blk_ne KY.out S2.out.b8 (by decide)
  have nx7 : ¬ bx = g7 := blk_ne KY.out S2.out.b7 (by decide)
  have nx6 : ¬ bx = g6 := blk_ne KY.out S2.out.b6 (by decide)
  have x0 := blk_cell KY.out 0
  have x1 := blk_cell KY.out 1
  have x4 := blk_cell KY.out 4
  have x5 := blk_cell KY.out 5
  have x6 := blk_cell KY.out 6
  have x7 := blk_cell KY.out 7
  have y0 := blk_cell S2.out.b7 0
  have y1 := blk_cell S2.out.b7 1
  have yf := blk_frozen S2.out.b7
  have v0 := blk_cell S2.out.b6 0
  have v1_ := blk_cell S2.out.b6 1
  have vf := blk_frozen S2.out.b6
  have td := S2.out.ctemp d hd0 hd1
  have tf := blk_frozen S2.out.b8
  obtain ⟨Av, cv, rfl⟩ := Kd.R_slice S2.out.RT
  have HO : outb ⟨14, d, a, b, loc, len, kk, tt⟩ T = false := by simp [outb, hr0, hr1]
  have HOO := Aside0.mk HO
  clear HO
  have e1 : decide (rd T a < 0) = false := decide_eq_false (by omega)
  have e2 : decide (len ≤ rd T a) = false := decide_eq_false (by omega)
  have hst : stp ⟨14, d, a, b, loc, len, kk, tt⟩ i T (answers.drop used) = ⟨i + 1, 0, T, answers.drop used, [⟨2, wrap64 (loc + rd T a), 0, rd T b⟩]⟩ := by show (if outb ⟨14, d, a, b, loc, len, kk, tt⟩ T then _ else _) = _; rw [if_neg (by rw [HOO.out]; decide)]; rfl
  have HS := Aside0.mk hst
  clear hst
  have SA := Aside0.mk (S2.out.alloc (.cells #[.int .i64 (2), .int .i64 (wrap64 (loc + rd T a)), .int .i64 (0), .int .i64 (rd T b)] 47))
  go_wp2_with (at_builtin; refine Kd.R_append k47 (w0 := w) w.heap.size rfl _ _ 29 47 _ 32 rfl Try.underlying29 info47 rfl (by decide) (by decide) (.slice Av acts.length cv) acts ⟨2, wrap64 (loc + rd T a), 0, rd T b⟩ [.int .i64 (2), .int .i64 (wrap64 (loc + rd T a)), .int .i64 (0), .int .i64 (rd T b)] (fun _ => True) (fun _ => False) rfl ?hx1 (k47_mkM _ _ _ ⟨2, wrap64 (loc + rd T a), 0, rd T b⟩) (fun _ h => h.elim) (fun _ _ => trivial) SA.out.RT SA.out.HB SA.out.HB.size ?hx2 ?_; (case hx1 => simp [Act.eval]); (case hx2 => (have := HAC.out; omega)); intro v9 w9 hR hB9 hg9 hat9; obtain ⟨A9, c9, rfl⟩ := Kd.R_slice hR; have S9 := Aside0.mk (SA.out.put_acts hg9 hB9 hR); have z7 := blk_cell (blk_grown SA.out.b7 hg9 (Kd.R_ne SA.out.RT SA.out.b7 (by decide))) 0; have f7 := blk_frozen (blk_grown SA.out.b7 hg9 (Kd.R_ne SA.out.RT SA.out.b7 (by decide))); clear hR hB9 hg9 hat9)
  have h9 := S9.out
  simp only [List.length_append, List.length_cons, List.length_nil, Nat.zero_add] at h9
  refine GO.out ⟨i + 1, 0, T, answers.drop used, [⟨2, wrap64 (loc + rd T a), 0, rd T b⟩]⟩ _ _ used (.slice A9 (acts.length + 1) c9) HS.out rfl ?fr rfl (by omega) ?st
  case fr => unfold RrFrame; (repeat apply Exists.intro); exact rfl
  case st => exact h9
set_option maxHeartbeats 8000000 in
set_option maxRecDepth 100000 in
theorem rr_14h {A : Option Addr} {c : Nat} {code : List S40} {Al : Option Addr} {cl : Nat} {l : List S80} {An : Option Addr} {cn : Nat} {answers : List Int} {w wr : World} {g6 g7 g8 : Nat} {T : List Int} {vt : Value} {acts : List S47} {i used : Nat} {d a b loc len kk tt : Int} {u3 u4 u5 u18 u19 u20 u21 u22 : Value} {R : Exit → Act → World → Prop}
    (H : Rround A c code Al cl l An cn answers w wr g6 g7 g8 T vt acts i used ⟨14, d, a, b, loc, len, kk, tt⟩ u3 u4 u5 u18 u19 u20 u21 u22 R) (hr0 : 0 ≤ rd T a) (hr : len ≤ rd T a) (u11 u12 u13 u14 u15 u16 u17 u23 u24 u25 u26 u27 u28 u29 u30 u31 u32 u33 u34 u35 u36 u37 u38 u39 u40 u41 u42 u43 u44 u45 u46 u47 u48 u49 u50 u51 u52 u53 u54 u55 u56 u57 u58 u59 u60 u61 u62 u63 u64 u65 u66 u67 u68 u69 u70 u71 u72 u73 u74 u75 u76 u77 u78 u79 u80 u81 u82 u83 u84 u85 u86 u87 u88 u89 u90 u91 u92 u93 u94 u95 u96 u97 u98 u99 u100 u101 u102 u103 u104 u105 u106 u107 u108 u109 u110 u111 u112 u113 u114 u115 u116 u117 u118 u119 u120 u121 u122 u123 u124 u125 u126 u127 u128 u129 u130 u131 u132 u133 u134 u135 u136 u137 u138 u139 u140 u141 u142 u143 u144 u145 u146 u147 u148 u149 u150 u151 u152 u153 u154 u155 u156 u157 u158 u159 u160 u161 u162 u163 u164 u165 u166 u167 u168 u169 u170 u171 u172 u173 u174 u175 u176 u177 u178 u179 u180 u181 u182 u183 u184 u185 u186 u187 u188 u189 u190 u191 u192 u193 u194 u195 u196 u197 u198 u199 u200 u201 u202 u203 u204 u205 u206 u207 u208 u209 u210 u211 u212 u213 u214 u215 u216 u217 u218 u219 u220 u221 u222 u223 u224 u225 u226 u227 u228 u229 u230 u231 u232 u233 u234 u235 u236 u237 u238 u239 u240 u241 u242 u243 u244 u245 : Value) :
    rrunBody.wp Try.prog R { tmps := #[.slice A code.length c, .slice Al l.length cl, .slice An answers.length cn, u3, u4, u5, .pointer (some ⟨g6, 0, none⟩), .pointer (some ⟨g7, 0, none⟩), .pointer (some ⟨g8, 0, none⟩), .int .i64 (i : Int), .int .i64 (used : Int), u11, u12, u13, u14, u15, u16, u17, u18, u19, u20, u21, u22, u23, u24, u25, u26, u27, u28, u29, u30, u31, u32, u33, u34, u35, u36, u37, u38, u39, u40, u41, u42, u43, u44, u45, u46, u47, u48, u49, u50, u51, u52, u53, u54, u55, u56, u57, u58, u59, u60, u61, u62, u63, u64, u65, u66, u67, u68, u69, u70, u71, u72, u73, u74, u75, u76, u77, u78, u79, u80, u81, u82, u83, u84, u85, u86, u87, u88, u89, u90, u91, u92, u93, u94, u95, u96, u97, u98, u99, u100, u101, u102, u103, u104, u105, u106, u107, u108, u109, u110, u111, u112, u113, u114, u115, u116, u117, u118, u119, u120, u121, u122, u123, u124, u125, u126, u127, u128, u129, u130, u131, u132, u133, u134, u135, u136, u137, u138, u139, u140, u141, u142, u143, u144, u145, u146, u147, u148, u149, u150, u151, u152, u153, u154, u155, u156, u157, u158, u159, u160, u161, u162, u163, u164, u165, u166, u167, u168, u169, u170, u171, u172, u173, u174, u175, u176, u177, u178, u179, u180, u181, u182, u183, u184, u185, u186, u187, u188, u189, u190, u191, u192, u193, u194, u195, u196, u197, u198, u199, u200, u201, u202, u203, u204, u205, u206, u207, u208, u209, u210, u211, u212, u213, u214, u215, u216, u217, u218, u219, u220, u221, u222, u223, u224, u225, u226, u227, u228, u229, u230, u231, u232, u233, u234, u235, u236, u237, u238, u239, u240, u241, u242, u243, u244, u245], defers := [] } wr := by
  obtain ⟨S, hC, hA, hi, hn, hx, hu, hal, hac, ⟨hd0, hd1⟩, ⟨ha0, ha1⟩, ⟨hb0, hb1⟩, hgo, hret⟩ := H
  have HC := Aside0.mk hC
  have HA := Aside0.mk hA
  have GO := Aside0.mk hgo
  have RET := Aside0.mk hret
  have HAC := Aside0.mk hac
  obtain ⟨ad1, ea, k0, k1, k2, k3, k4, k5, k6, k7⟩ := at_T40 (Kd.C_below HC.out S.HB) (i : Int) (by omega) (by omega)
  cases ea
  simp only [Int.toNat_natCast] at k0 k1 k2 k3 k4 k5 k6 k7
  rw [hx] at k0 k1 k2 k3 k4 k5 k6 k7
  dsimp only at k0 k1 k2 k3 k4 k5 k6 k7 hd0 hd1 ha0 ha1 hb0 hb1
  have q1 : ((i : Int) < (code.length : Int)) = True := eq_true (by omega)
  have q0 : (0 ≤ (i : Int)) = True := eq_true (by omega)
  have S0 := Aside0.mk S
  clear S hC hA hgo hret hx hac
  have KX : Aside0 ((wr.alloc (.cells #[.int .i64 14, .int .i64 d, .int .i64 a, .int .i64 b, .int .i64 loc, .int .i64 len, .int .i64 kk, .int .i64 tt] 40)).heap[wr.heap.size]? = some (.cells #[.int .i64 14, .int .i64 d, .int .i64 a, .int .i64 b, .int .i64 loc, .int .i64 len, .int .i64 kk, .int .i64 tt] 40 (0, 0))) := ⟨blk_new _ _⟩
  have S1 := Aside0.mk (S0.out.alloc (.cells #[.int .i64 14, .int .i64 d, .int .i64 a, .int .i64 b, .int .i64 loc, .int .i64 len, .int .i64 kk, .int .i64 tt] 40))
  unfold rrunBody Try.f17
  dsimp only
  go_wp2_with fail
  generalize hW1 : (wr.alloc (.cells #[.int .i64 14, .int .i64 d, .int .i64 a, .int .i64 b, .int .i64 loc, .int .i64 len, .int .i64 kk, .int .i64 tt] 40)) = W1 at KX S1 ⊢
  clear hW1 k0 k1 k2 k3 k4 k5 k6 k7 S0
  generalize wr.heap.size = bx at KX ⊢
  have x2 := blk_cell KX.out 2
  have x3 := blk_cell KX.out 3
  have hta := S1.out.ctemp a ha0 ha1
  have htb := S1.out.ctemp b hb0 hb1
  go_quiet (fail)
  generalize hW2 : W1.drewN nq = W2
  have KY : Aside0 (W2.heap[bx]? = some (.cells #[.int .i64 14, .int .i64 d, .int .i64 a, .int .i64 b, .int .i64 loc, .int .i64 len, .int .i64 kk, .int .i64 tt] 40 (0, 0))) := ⟨by rw [← hW2]; exact blk_drewN KX.out _⟩
  have S2 : Aside0 (Rr w W2 g6 g7 g8 T vt acts) := ⟨by rw [← hW2]; exact S1.out.drewN _⟩
  clear hW2 KX S1 x2 x3 hta htb
  have hl7 := blk_lt S2.out.b7
  have hl8 := blk_lt S2.out.b8
  have hlx := blk_lt KY.out
  have hl6 := blk_lt S2.out.b6
  have n78 := S2.out.n78
  have n68 := S2.out.n68
  have n67 := S2.out.n67
  have nx8 : ¬ bx = g8 := blk_ne KY.out S2.out.b8 (by decide)
  have nx7 : ¬ bx = g7 := blk_ne KY.out S2.out.b7 (by decide)
  have nx6 : ¬ bx = g6 := blk_ne KY.out S2.out.b6 (by decide)
  have x0 := blk_cell KY.out 0
  have x1 := blk_cell KY.out 1
  have x4 := blk_cell KY.out 4
  have x5 := blk_cell KY.out 5
  have x6 := blk_cell KY.out 6
  have x7 := blk_cell KY.out 7
  have y0 := blk_cell S2.out.b7 0
  have y1 := blk_cell S2.out.b7 1
  have yf := blk_frozen S2.out.b7
  have v0 := blk_cell S2.out.b6 0
  have v1_ := blk_cell S2.out.b6 1
  have vf := blk_frozen S2.out.b6
  have td := S2.out.ctemp d hd0 hd1
  have tf := blk_frozen S2.out.b8
  obtain ⟨Av, cv, rfl⟩ := Kd.R_slice S2.out.RT
  have hst : stp ⟨14, d, a, b, loc, len, kk, tt⟩ i T (answers.drop used) = ⟨0, 3, T, answers.drop used, []⟩ := by show (if outb ⟨14, d, a, b, loc, len, kk, tt⟩ T then _ else _) = _; rw [if_pos (by simp [outb, hr])]; rfl
  have HS := Aside0.mk hst
  have c0 : decide (rd T a < 0) = false := decide_eq_false (by omega)
  have c1 : decide (len ≤ rd T a) = true := decide_eq_true hr
  clear hst hr hr0
  go_wp2
  have hfin := S2.out.fin 3 _ rfl
  exact RET.out ⟨0, 3, T, answers.drop used, []⟩ _ _ HS.out (show (3 : Int) ≠ 0 by decide) rfl rfl rfl hfin.2.2.1 hfin.2.2.2 hfin.1 hfin.2.1
set_option maxHeartbeats 8000000 in
set_option maxRecDepth 100000 in
theorem rr_17t {A : Option Addr} {c : Nat} {code : List S40} {Al : Option Addr} {cl : Nat} {l : List S80} {An : Option Addr} {cn : Nat} {answers : List Int} {w wr : World} {g6 g7 g8 : Nat} {T : List Int} {vt : Value} {acts : List S47} {i used : Nat} {d a b loc len kk tt : Int} {u3 u4 u5 u18 u19 u20 u21 u22 : Value} {R : Exit → Act → World → Prop}
    (H : Rround A c code Al cl l An cn answers w wr g6 g7 g8 T vt acts i used ⟨17, d, a, b, loc, len, kk, tt⟩ u3 u4 u5 u18 u19 u20 u21 u22 R) (hr : ¬ rd T a = rd T b) (u11 u12 u13 u14 u15 u16 u17 u23 u24 u25 u26 u27 u28 u29 u30 u31 u32 u33 u34 u35 u36 u37 u38 u39 u40 u41 u42 u43 u44 u45 u46 u47 u48 u49 u50 u51 u52 u53 u54 u55 u56 u57 u58 u59 u60 u61 u62 u63 u64 u65 u66 u67 u68 u69 u70 u71 u72 u73 u74 u75 u76 u77 u78 u79 u80 u81 u82 u83 u84 u85 u86 u87 u88 u89 u90 u91 u92 u93 u94 u95 u96 u97 u98 u99 u100 u101 u102 u103 u104 u105 u106 u107 u108 u109 u110 u111 u112 u113 u114 u115 u116 u117 u118 u119 u120 u121 u122 u123 u124 u125 u126 u127 u128 u129 u130 u131 u132 u133 u134 u135 u136 u137 u138 u139 u140 u141 u142 u143 u144 u145 u146 u147 u148 u149 u150 u151 u152 u153 u154 u155 u156 u157 u158 u159 u160 u161 u162 u163 u164 u165 u166 u167 u168 u169 u170 u171 u172 u173 u174 u175 u176 u177 u178 u179 u180 u181 u182 u183 u184 u185 u186 u187 u188 u189 u190 u191 u192 u193 u194 u195 u196 u197 u198 u199 u200 u201 u202 u203 u204 u205 u206 u207 u208 u209 u210 u211 u212 u213 u214 u215 u216 u217 u218 u219 u220 u221 u222 u223 u224 u225 u226 u227 u228 u229 u230 u231 u232 u233 u234 u235 u236 u237 u238 u239 u240 u241 u242 u243 u244 u245 : Value) :
    rrunBody.wp Try.prog R { tmps := #[.slice A code.length c, .slice Al l.length cl, .slice An answers.length cn, u3, u4, u5, .pointer (some ⟨g6, 0, none⟩), .pointer (some ⟨g7, 0, none⟩), .pointer (some ⟨g8, 0, none⟩), .int .i64 (i : Int), .int .i64 (used : Int), u11, u12, u13, u14, u15, u16, u17, u18, u19, u20, u21, u22, u23, u24, u25, u26, u27, u28, u29, u30, u31, u32, u33, u34, u35, u36, u37, u38, u39, u40, u41, u42, u43, u44, u45, u46, u47, u48, u49, u50, u51, u52, u53, u54, u55, u56, u57, u58, u59, u60, u61, u62, u63, u64, u65, u66, u67, u68, u69, u70, u71, u72, u73, u74, u75, u76, u77, u78, u79, u80, u81, u82, u83, u84, u85, u86, u87, u88, u89, u90, u91, u92, u93, u94, u95, u96, u97, u98, u99, u100, u101, u102, u103, u104, u105, u106, u107, u108, u109, u110, u111, u112, u113, u114, u115, u116, u117, u118, u119, u120, u121, u122, u123, u124, u125, u126, u127, u128, u129, u130, u131, u132, u133, u134, u135, u136, u137, u138, u139, u140, u141, u142, u143, u144, u145, u146, u147, u148, u149, u150, u151, u152, u153, u154, u155, u156, u157, u158, u159, u160, u161, u162, u163, u164, u165, u166, u167, u168, u169, u170, u171, u172, u173, u174, u175, u176, u177, u178, u179, u180, u181, u182, u183, u184, u185, u186, u187, u188, u189, u190, u191, u192, u193, u194, u195, u196, u197, u198, u199, u200, u201, u202, u203, u204, u205, u206, u207, u208, u209, u210, u211, u212, u213, u214, u215, u216, u217, u218, u219, u220, u221, u222, u223, u224, u225, u226, u227, u228, u229, u230, u231, u232, u233, u234, u235, u236, u237, u238, u239, u240, u241, u242, u243, u244, u245], defers := [] } wr := by
  obtain ⟨S, hC, hA, hi, hn, hx, hu, hal, hac, ⟨hd0, hd1⟩, ⟨ha0, ha1⟩, ⟨hb0, hb1⟩, hgo, hret⟩ := H
  have HC := Aside0.mk hC
  have HA := Aside0.mk hA
  have GO := Aside0.mk hgo
  have RET := Aside0.mk hret
  have HAC := Aside0.mk hac
  obtain ⟨ad1, ea, k0, k1, k2, k3, k4, k5, k6, k7⟩ := at_T40 (Kd.C_below HC.out S.HB) (i : Int) (by omega) (by omega)
  cases ea
  simp only [Int.toNat_natCast] at k0 k1 k2 k3 k4 k5 k6 k7
  rw [hx] at k0 k1 k2 k3 k4 k5 k6 k7
  dsimp only at k0 k1 k2 k3 k4 k5 k6 k7 hd0 hd1 ha0 ha1 hb0 hb1
  have q1 : ((i : Int) < (code.length : Int)) = True := eq_true (by omega)
  have q0 : (0 ≤ (i : Int)) = True := eq_true (by omega)
  have S0 := Aside0.mk S
  clear S hC hA hgo hret hx hac
  have KX : Aside0 ((wr.alloc (.cells #[.int .i64 17, .int .i64 d, .int .i64 a, .int .i64 b, .int .i64 loc, .int .i64 len, .int .i64 kk, .int .i64 tt] 40)).heap[wr.heap.size]? = some (.cells #[.int .i64 17, .int .i64 d, .int .i64 a, .int .i64 b, .int .i64 loc, .int .i64 len, .int .i64 kk, .int .i64 tt] 40 (0, 0))) := ⟨blk_new _ _⟩
  have S1 := Aside0.mk (S0.out.alloc (.cells #[.int .i64 17, .int .i64 d, .int .i64 a, .int .i64 b, .int .i64 loc, .int .i64 len, .int .i64 kk, .int .i64 tt] 40))
  unfold rrunBody Try.f17
  dsimp only
  go_wp2_with fail
  generalize hW1 : (wr.alloc (.cells #[.int .i64 17, .int .i64 d, .int .i64 a, .int .i64 b, .int .i64 loc, .int .i64 len, .int .i64 kk, .int .i64 tt] 40)) = W1 at KX S1 ⊢
  clear hW1 k0 k1 k2 k3 k4 k5 k6 k7 S0
  generalize wr.heap.size = bx at KX ⊢
  have x2 := blk_cell KX.out 2
  have x3 := blk_cell KX.out 3
  have hta := S1.out.ctemp a ha0 ha1
  have htb := S1.out.ctemp b hb0 hb1
  go_quiet (fail)
  generalize hW2 : W1.drewN nq = W2
  have KY : Aside0 (W2.heap[bx]? = some (.cells #[.int .i64 17, .int .i64 d, .int .i64 a, .int .i64 b, .int .i64 loc, .int .i64 len, .int .i64 kk, .int .i64 tt] 40 (0, 0))) := ⟨by rw [← hW2]; exact blk_drewN KX.out _⟩
  have S2 : Aside0 (Rr w W2 g6 g7 g8 T vt acts) := ⟨by rw [← hW2]; exact S1.out.drewN _⟩
  clear hW2 KX S1 x2 x3 hta htb
  have hl7 := blk_lt S2.out.b7
  have hl8 := blk_lt S2.out.b8
  have hlx := blk_lt KY.out
  have hl6 := blk_lt S2.out.b6
  have n78 := S2.out.n78
  have n68 := S2.out.n68
  have n67 := S2.out.n67
  have nx8 : ¬ bx = g8 := blk_ne KY.out S2.out.b8 (by decide)
  have nx7 : ¬ bx = g7 := blk_ne KY.out S2.out.b7 (by decide)
  have nx6 : ¬ bx = g6 := blk_ne KY.out S2.out.b6 (by decide)
  have x0 := blk_cell KY.out 0
  have x1 := blk_cell KY.out 1
  have x4 := blk_cell KY.out 4
  have x5 := blk_cell KY.out 5
  have x6 := blk_cell KY.out 6
  have x7 := blk_cell KY.out 7
  have y0 := blk_cell S2.out.b7 0
  have y1 := blk_cell S2.out.b7 1
  have yf := blk_frozen S2.out.b7
  have v0 := blk_cell S2.out.b6 0
  have v1_ := blk_cell S2.out.b6 1
  have vf := blk_frozen S2.out.b6
  have td := S2.out.ctemp d hd0 hd1
  have tf := blk_frozen S2.out.b8
  obtain ⟨Av, cv, rfl⟩ := Kd.R_slice S2.out.RT
  have hst : stp ⟨17, d, a, b, loc, len, kk, tt⟩ i T (answers.drop used) = ⟨tt, 0, T, answers.drop used, []⟩ := by show (if rd T a = rd T b then _ else _) = _; rw [if_neg (by first | exact hr | omega)]; rfl
  have HS := Aside0.mk hst
  have c1 : (rd T a != rd T b) = true := by simpa using hr
  clear hst hr
  go_wp2
  refine GO.out ⟨tt, 0, T, answers.drop used, []⟩ _ _ used (.slice Av acts.length cv) HS.out rfl ?fr rfl (by omega) ?st
  case fr => unfold RrFrame; (repeat apply Exists.intro); exact rfl
  case st => show Rr w _ g6 g7 g8 _ _ (acts ++ []); rw [List.append_nil]; exact S2.out.alloc _
end Go.Proofs.Ytdmbnlpcfgphpaa.Q
namespace Go.Proofs.Ytdmbnlpcfgphpaa.Q
open Go.RowKit Go.Proofs.YtdmbnlpcfgphpaaW.PrintWords Go.Proofs.YtdmbnlpcfgphpaaW.PrintLast Go.Proofs.YtdmbnlpcfgphpaaW.PrintMore
set_option linter.unusedVariables false
set_option linter.unusedSimpArgs false
set_option maxHeartbeats 8000000 in
set_option maxRecDepth 100000 in
theorem rr_2 {A : Option Addr} {c : Nat} {code : List S40} {Al : Option Addr} {cl : Nat} {l : List S80} {An : Option Addr} {cn : Nat} {answers : List Int} {w wr : World} {g6 g7 g8 : Nat} {T : List Int} {vt : Value} {acts : List S47} {i used : Nat} {d a b loc len kk tt : Int} {u3 u4 u5 u18 u19 u20 u21 u22 : Value} {R : Exit → Act → World → Prop}
    (H : Rround A c code Al cl l An cn answers w wr g6 g7 g8 T vt acts i used ⟨2, d, a, b, loc, len, kk, tt⟩ u3 u4 u5 u18 u19 u20 u21 u22 R) (u11 u12 u13 u14 u15 u16 u17 u23 u24 u25 u26 u27 u28 u29 u30 u31 u32 u33 u34 u35 u36 u37 u38 u39 u40 u41 u42 u43 u44 u45 u46 u47 u48 u49 u50 u51 u52 u53 u54 u55 u56 u57 u58 u59 u60 u61 u62 u63 u64 u65 u66 u67 u68 u69 u70 u71 u72 u73 u74 u75 u76 u77 u78 u79 u80 u81 u82 u83 u84 u85 u86 u87 u88 u89 u90 u91 u92 u93 u94 u95 u96 u97 u98 u99 u100 u101 u102 u103 u104 u105 u106 u107 u108 u109 u110 u111 u112 u113 u114 u115 u116 u117 u118 u119 u120 u121 u122 u123 u124 u125 u126 u127 u128 u129 u130 u131 u132 u133 u134 u135 u136 u137 u138 u139 u140 u141 u142 u143 u144 u145 u146 u147 u148 u149 u150 u151 u152 u153 u154 u155 u156 u157 u158 u159 u160 u161 u162 u163 u164 u165 u166 u167 u168 u169 u170 u171 u172 u173 u174 u175 u176 u177 u178 u179 u180 u181 u182 u183 u184 u185 u186 u187 u188 u189 u190 u191 u192 u193 u194 u195 u196 u197 u198 u199 u200 u201 u202 u203 u204 u205 u206 u207 u208 u209 u210 u211 u212 u213 u214 u215 u216 u217 u218 u219 u220 u221 u222 u223 u224 u225 u226 u227 u228 u229 u230 u231 u232 u233 u234 u235 u236 u237 u238 u239 u240 u241 u242 u243 u244 u245 : Value) :
    rrunBody.wp Try.prog R { tmps := #[.slice A code.length c, .slice Al l.length cl, .slice An answers.length cn, u3, u4, u5, .pointer (some ⟨g6, 0, none⟩), .pointer (some ⟨g7, 0, none⟩), .pointer (some ⟨g8, 0, none⟩), .int .i64 (i : Int), .int .i64 (used : Int), u11, u12, u13, u14, u15, u16, u17, u18, u19, u20, u21, u22, u23, u24, u25, u26, u27, u28, u29, u30, u31, u32, u33, u34, u35, u36, u37, u38, u39, u40, u41, u42, u43, u44, u45, u46, u47, u48, u49, u50, u51, u52, u53, u54, u55, u56, u57, u58, u59, u60, u61, u62, u63, u64, u65, u66, u67, u68, u69, u70, u71, u72, u73, u74, u75, u76, u77, u78, u79, u80, u81, u82, u83, u84, u85, u86, u87, u88, u89, u90, u91, u92, u93, u94, u95, u96, u97, u98, u99, u100, u101, u102, u103, u104, u105, u106, u107, u108, u109, u110, u111, u112, u113, u114, u115, u116, u117, u118, u119, u120, u121, u122, u123, u124, u125, u126, u127, u128, u129, u130, u131, u132, u133, u134, u135, u136, u137, u138, u139, u140, u141, u142, u143, u144, u145, u146, u147, u148, u149, u150, u151, u152, u153, u154, u155, u156, u157, u158, u159, u160, u161, u162, u163, u164, u165, u166, u167, u168, u169, u170, u171, u172, u173, u174, u175, u176, u177, u178, u179, u180, u181, u182, u183, u184, u185, u186, u187, u188, u189, u190, u191, u192, u193, u194, u195, u196, u197, u198, u199, u200, u201, u202, u203, u204, u205, u206, u207, u208, u209, u210, u211, u212, u213, u214, u215, u216, u217, u218, u219, u220, u221, u222, u223, u224, u225, u226, u227, u228, u229, u230, u231, u232, u233, u234, u235, u236, u237, u238, u239, u240, u241, u242, u243, u244, u245], defers := [] } wr := by
  obtain ⟨S, hC, hA, hi, hn, hx, hu, hal, hac, ⟨hd0, hd1⟩, ⟨ha0, ha1⟩, ⟨hb0, hb1⟩, hgo, hret⟩ := H
  have HC := Aside0.mk hC
  have HA := Aside0.mk hA
  have GO := Aside0.mk hgo
  have RET := Aside0.mk hret
  have HAC := Aside0.mk hac
  obtain ⟨ad1, ea, k0, k1, k2, k3, k4, k5, k6, k7⟩ := at_T40 (Kd.C_below HC.out S.HB) (i : Int) (by omega) (by omega)
  cases ea
  simp only [Int.toNat_natCast] at k0 k1 k2 k3 k4 k5 k6 k7
  rw [hx] at k0 k1 k2 k3 k4 k5 k6 k7
  dsimp only at k0 k1 k2 k3 k4 k5 k6 k7 hd0 hd1 ha0 ha1 hb0 hb1
  have q1 : ((i : Int) < (code.length : Int)) = True := eq_true (by omega)
  have q0 : (0 ≤ (i : Int)) = True := eq_true (by omega)
  have S0 := Aside0.mk S
  clear S hC hA hgo hret hx hac
  have KX : Aside0 ((wr.alloc (.cells #[.int .i64 2, .int .i64 d, .int .i64 a, .int .i64 b, .int .i64 loc, .int .i64 len, .int .i64 kk, .int .i64 tt] 40)).heap[wr.heap.size]? = some (.cells #[.int .i64 2, .int .i64 d, .int .i64 a, .int .i64 b, .int .i64 loc, .int .i64 len, .int .i64 kk, .int .i64 tt] 40 (0, 0))) := ⟨blk_new _ _⟩
  have S1 := Aside0.mk (S0.out.alloc (.cells #[.int .i64 2, .int .i64 d, .int .i64 a, .int .i64 b, .int .i64 loc, .int .i64 len, .int .i64 kk, .int .i64 tt] 40))
  unfold rrunBody Try.f17
  dsimp only
  go_wp2_with fail
  generalize hW1 : (wr.alloc (.cells #[.int .i64 2, .int .i64 d, .int .i64 a, .int .i64 b, .int .i64 loc, .int .i64 len, .int .i64 kk, .int .i64 tt] 40)) = W1 at KX S1 ⊢
  clear hW1 k0 k1 k2 k3 k4 k5 k6 k7 S0
  generalize wr.heap.size = bx at KX ⊢
  have x2 := blk_cell KX.out 2
  have x3 := blk_cell KX.out 3
  have hta := S1.out.ctemp a ha0 ha1
  have htb := S1.out.ctemp b hb0 hb1
  go_quiet (fail)
  generalize hW2 : W1.drewN nq = W2
  have KY : Aside0 (W2.heap[bx]? = some (.cells #[.int .i64 2, .int .i64 d, .int .i64 a, .int .i64 b, .int .i64 loc, .int .i64 len, .int .i64 kk, .int .i64 tt] 40 (0, 0))) := ⟨by rw [← hW2]; exact blk_drewN KX.out _⟩
  have S2 : Aside0 (Rr w W2 g6 g7 g8 T vt acts) := ⟨by rw [← hW2]; exact S1.out.drewN _⟩
  clear hW2 KX S1 x2 x3 hta htb
  have hl7 := blk_lt S2.out.b7
  have hl8 := blk_lt S2.out.b8
  have hlx := blk_lt KY.out
  have hl6 := blk_lt S2.out.b6
  have n78 := S2.out.n78
  have n68 := S2.out.n68
  have n67 := S2.out.n67
  have nx8 : ¬ bx = g8 := blk_ne KY.out S2.out.b8 (by decide)
  have nx7 : ¬ bx = g7 := blk_ne KY.out S2.out.b7 (by decide)
  have nx6 : ¬ bx = g6 := blk_ne KY.out S2.out.b6 (by decide)
  have x0 := blk_cell KY.out 0
  have x1 := blk_cell KY.out 1
  have x4 := blk_cell KY.out 4
  have x5 := blk_cell KY.out 5
  have x6 := blk_cell KY.out 6
  have x7 := blk_cell KY.out 7
  have y0 := blk_cell S2.out.b7 0
  have y1 := blk_cell S2.out.b7 1
  have yf := blk_frozen S2.out.b7
  have v0 := blk_cell S2.out.b6 0
  have v1_ := blk_cell S2.out.b6 1
  have vf := blk_frozen S2.out.b6
  have td := S2.out.ctemp d hd0 hd1
  have tf := blk_frozen S2.out.b8
  obtain ⟨Av, cv, rfl⟩ := Kd.R_slice S2.out.RT
  go_wp2
  refine GO.out ⟨i + 1, 0, T.set d.toNat (wrap64 (rd T a + rd T b)), answers.drop used, []⟩ _ _ used (.slice Av acts.length cv) rfl rfl ?fr rfl (by omega) ?st
  case fr => unfold RrFrame; (repeat apply Exists.intro); exact rfl
  case st => show Rr w _ g6 g7 g8 _ _ (acts ++ []); rw [List.append_nil]; exact (S2.out.put_temp d _).alloc _
set_option maxHeartbeats 8000000 in
set_option maxRecDepth 100000 in
theorem rr_18 {A : Option Addr} {c : Nat} {code : List S40} {Al : Option Addr} {cl : Nat} {l : List S80} {An : Option Addr} {cn : Nat} {answers : List Int} {w wr : World} {g6 g7 g8 : Nat} {T : List Int} {vt : Value} {acts : List S47} {i used : Nat} {d a b loc len kk tt : Int} {u3 u4 u5 u18 u19 u20 u21 u22 : Value} {R : Exit → Act → World → Prop}
    (H : Rround A c code Al cl l An cn answers w wr g6 g7 g8 T vt acts i used ⟨18, d, a, b, loc, len, kk, tt⟩ u3 u4 u5 u18 u19 u20 u21 u22 R) (u11 u12 u13 u14 u15 u16 u17 u23 u24 u25 u26 u27 u28 u29 u30 u31 u32 u33 u34 u35 u36 u37 u38 u39 u40 u41 u42 u43 u44 u45 u46 u47 u48 u49 u50 u51 u52 u53 u54 u55 u56 u57 u58 u59 u60 u61 u62 u63 u64 u65 u66 u67 u68 u69 u70 u71 u72 u73 u74 u75 u76 u77 u78 u79 u80 u81 u82 u83 u84 u85 u86 u87 u88 u89 u90 u91 u92 u93 u94 u95 u96 u97 u98 u99 u100 u101 u102 u103 u104 u105 u106 u107 u108 u109 u110 u111 u112 u113 u114 u115 u116 u117 u118 u119 u120 u121 u122 u123 u124 u125 u126 u127 u128 u129 u130 u131 u132 u133 u134 u135 u136 u137 u138 u139 u140 u141 u142 u143 u144 u145 u146 u147 u148 u149 u150 u151 u152 u153 u154 u155 u156 u157 u158 u159 u160 u161 u162 u163 u164 u165 u166 u167 u168 u169 u170 u171 u172 u173 u174 u175 u176 u177 u178 u179 u180 u181 u182 u183 u184 u185 u186 u187 u188 u189 u190 u191 u192 u193 u194 u195 u196 u197 u198 u199 u200 u201 u202 u203 u204 u205 u206 u207 u208 u209 u210 u211 u212 u213 u214 u215 u216 u217 u218 u219 u220 u221 u222 u223 u224 u225 u226 u227 u228 u229 u230 u231 u232 u233 u234 u235 u236 u237 u238 u239 u240 u241 u242 u243 u244 u245 : Value) :
    rrunBody.wp Try.prog R { tmps := #[.slice A code.length c, .slice Al l.length cl, .slice An answers.length cn, u3, u4, u5, .pointer (some ⟨g6, 0, none⟩), .pointer (some ⟨g7, 0, none⟩), .pointer (some ⟨g8, 0, none⟩), .int .i64 (i : Int), .int .i64 (used : Int), u11, u12, u13, u14, u15, u16, u17, u18, u19, u20, u21, u22, u23, u24, u25, u26, u27, u28, u29, u30, u31, u32, u33, u34, u35, u36, u37, u38, u39, u40, u41, u42, u43, u44, u45, u46, u47, u48, u49, u50, u51, u52, u53, u54, u55, u56, u57, u58, u59, u60, u61, u62, u63, u64, u65, u66, u67, u68, u69, u70, u71, u72, u73, u74, u75, u76, u77, u78, u79, u80, u81, u82, u83, u84, u85, u86, u87, u88, u89, u90, u91, u92, u93, u94, u95, u96, u97, u98, u99, u100, u101, u102, u103, u104, u105, u106, u107, u108, u109, u110, u111, u112, u113, u114, u115, u116, u117, u118, u119, u120, u121, u122, u123, u124, u125, u126, u127, u128, u129, u130, u131, u132, u133, u134, u135, u136, u137, u138, u139, u140, u141, u142, u143, u144, u145, u146, u147, u148, u149, u150, u151, u152, u153, u154, u155, u156, u157, u158, u159, u160, u161, u162, u163, u164, u165, u166, u167, u168, u169, u170, u171, u172, u173, u174, u175, u176, u177, u178, u179, u180, u181, u182, u183, u184, u185, u186, u187, u188, u189, u190, u191, u192, u193, u194, u195, u196, u197, u198, u199, u200, u201, u202, u203, u204, u205, u206, u207, u208, u209, u210, u211, u212, u213, u214, u215, u216, u217, u218, u219, u220, u221, u222, u223, u224, u225, u226, u227, u228, u229, u230, u231, u232, u233, u234, u235, u236, u237, u238, u239, u240, u241, u242, u243, u244, u245], defers := [] } wr := by
  obtain ⟨S, hC, hA, hi, hn, hx, hu, hal, hac, ⟨hd0, hd1⟩, ⟨ha0, ha1⟩, ⟨hb0, hb1⟩, hgo, hret⟩ := H
  have HC := Aside0.mk hC
  have HA := Aside0.mk hA
  have GO := Aside0.mk hgo
  have RET := Aside0.mk hret
  have HAC := Aside0.mk hac
  obtain ⟨ad1, ea, k0, k1, k2, k3, k4, k5, k6, k7⟩ := at_T40 (Kd.C_below HC.out S.HB) (i : Int) (by omega) (by omega)
  cases ea
  simp only [Int.toNat_natCast] at k0 k1 k2 k3 k4 k5 k6 k7
  rw [hx] at k0 k1 k2 k3 k4 k5 k6 k7
  dsimp only at k0 k1 k2 k3 k4 k5 k6 k7 hd0 hd1 ha0 ha1 hb0 hb1
  have q1 : ((i : Int) < (code.length : Int)) = True := eq_true (by omega)
  have q0 : (0 ≤ (i : Int)) = True := eq_true (by omega)
  have S0 := Aside0.mk S
  clear S hC hA hgo hret hx hac
  have KX : Aside0 ((wr.alloc (.cells #[.int .i64 18, .int .i64 d, .int .i64 a, .int .i64 b, .int .i64 loc, .int .i64 len, .int .i64 kk, .int .i64 tt] 40)).heap[wr.heap.size]? = some (.cells #[.int .i64 18, .int .i64 d, .int .i64 a, .int .i64 b, .int .i64 loc, .int .i64 len, .int .i64 kk, .int .i64 tt] 40 (0, 0))) := ⟨blk_new _ _⟩
  have S1 := Aside0.mk (S0.out.alloc (.cells #[.int .i64 18, .int .i64 d, .int .i64 a, .int .i64 b, .int .i64 loc, .int .i64 len, .int .i64 kk, .int .i64 tt] 40))
  unfold rrunBody Try.f17
  dsimp only
  go_wp2_with fail
  generalize hW1 : (wr.alloc (.cells #[.int .i64 18, .int .i64 d, .int .i64 a, .int .i64 b, .int .i64 loc, .int .i64 len, .int .i64 kk, .int .i64 tt] 40)) = W1 at KX S1 ⊢
  clear hW1 k0 k1 k2 k3 k4 k5 k6 k7 S0
  generalize wr.heap.size = bx at KX ⊢
  have x2 := blk_cell KX.out 2
  have x3 := blk_cell KX.out 3
  have hta := S1.out.ctemp a ha0 ha1
  have htb := S1.out.ctemp b hb0 hb1
  go_quiet (fail)
  generalize hW2 : W1.drewN nq = W2
  have KY : Aside0 (W2.heap[bx]? = some (.cells #[.int .i64 18, .int .i64 d, .int .i64 a, .int .i64 b, .int .i64 loc, .int .i64 len, .int .i64 kk, .int .i64 tt] 40 (0, 0))) := ⟨by rw [← hW2]; exact blk_drewN KX.out _⟩
  have S2 : Aside0 (Rr w W2 g6 g7 g8 T vt acts) := ⟨by rw [← hW2]; exact S1.out.drewN _⟩
  clear hW2 KX S1 x2 x3 hta htb
  have hl7 := blk_lt S2.out.b7
  have hl8 := blk_lt S2.out.b8
  have hlx := blk_lt KY.out
  have hl6 := blk_lt S2.out.b6
  have n78 := S2.out.n78
  have n68 := S2.out.n68
  have n67 := S2.out.n67
  have nx8 : ¬ bx = g8 := blk_ne KY.out S2.out.b8 (by decide)
  have nx7 : ¬ bx = g7 := blk_ne KY.out S2.out.b7 (by decide)
  have nx6 : ¬ bx = g6 := blk_ne KY.out S2.out.b6 (by decide)
  have x0 := blk_cell KY.out 0
  have x1 := blk_cell KY.out 1
  have x4 := blk_cell KY.out 4
  have x5 := blk_cell KY.out 5
  have x6 := blk_cell KY.out 6
  have x7 := blk_cell KY.out 7
  have y0 := blk_cell S2.out.b7 0
  have y1 := blk_cell S2.out.b7 1
  have yf := blk_frozen S2.out.b7
  have v0 := blk_cell S2.out.b6 0
  have v1_ := blk_cell S2.out.b6 1
  have vf := blk_frozen S2.out.b6
  have td := S2.out.ctemp d hd0 hd1
  have tf := blk_frozen S2.out.b8
  obtain ⟨Av, cv, rfl⟩ := Kd.R_slice S2.out.RT
  go_wp2
  have hfin := S2.out.fin 1 _ rfl
  exact RET.out ⟨0, 1, T, answers.drop used, []⟩ _ _ rfl (show (1 : Int) ≠ 0 by decide) rfl rfl rfl (pw_cell_below (below_alloc (Below.refl _ _) _) hfin.2.2.1) (pw_cell_below (below_alloc (Below.refl _ _) _) hfin.2.2.2) (Kd.R_alloc hfin.1 _) (below_alloc hfin.2.1 _)
set_option maxHeartbeats 8000000 in
set_option maxRecDepth 100000 in
theorem rr_11n {A : Option Addr} {c : Nat} {code : List S40} {Al : Option Addr} {cl : Nat} {l : List S80} {An : Option Addr} {cn : Nat} {answers : List Int} {w wr : World} {g6 g7 g8 : Nat} {T : List Int} {vt : Value} {acts : List S47} {i used : Nat} {d a b loc len kk tt : Int} {u3 u4 u5 u18 u19 u20 u21 u22 : Value} {R : Exit → Act → World → Prop}
    (H : Rround A c code Al cl l An cn answers w wr g6 g7 g8 T vt acts i used ⟨11, d, a, b, loc, len, kk, tt⟩ u3 u4 u5 u18 u19 u20 u21 u22 R) (hz : used = answers.length) (u11 u12 u13 u14 u15 u16 u17 u23 u24 u25 u26 u27 u28 u29 u30 u31 u32 u33 u34 u35 u36 u37 u38 u39 u40 u41 u42 u43 u44 u45 u46 u47 u48 u49 u50 u51 u52 u53 u54 u55 u56 u57 u58 u59 u60 u61 u62 u63 u64 u65 u66 u67 u68 u69 u70 u71 u72 u73 u74 u75 u76 u77 u78 u79 u80 u81 u82 u83 u84 u85 u86 u87 u88 u89 u90 u91 u92 u93 u94 u95 u96 u97 u98 u99 u100 u101 u102 u103 u104 u105 u106 u107 u108 u109 u110 u111 u112 u113 u114 u115 u116 u117 u118 u119 u120 u121 u122 u123 u124 u125 u126 u127 u128 u129 u130 u131 u132 u133 u134 u135 u136 u137 u138 u139 u140 u141 u142 u143 u144 u145 u146 u147 u148 u149 u150 u151 u152 u153 u154 u155 u156 u157 u158 u159 u160 u161 u162 u163 u164 u165 u166 u167 u168 u169 u170 u171 u172 u173 u174 u175 u176 u177 u178 u179 u180 u181 u182 u183 u184 u185 u186 u187 u188 u189 u190 u191 u192 u193 u194 u195 u196 u197 u198 u199 u200 u201 u202 u203 u204 u205 u206 u207 u208 u209 u210 u211 u212 u213 u214 u215 u216 u217 u218 u219 u220 u221 u222 u223 u224 u225 u226 u227 u228 u229 u230 u231 u232 u233 u234 u235 u236 u237 u238 u239 u240 u241 u242 u243 u244 u245 : Value) :
    rrunBody.wp Try.prog R { tmps := #[.slice A code.length c, .slice Al l.length cl, .slice An answers.length cn, u3, u4, u5, .pointer (some ⟨g6, 0, none⟩), .pointer (some ⟨g7, 0, none⟩), .pointer (some ⟨g8, 0, none⟩), .int .i64 (i : Int), .int .i64 (used : Int), u11, u12, u13, u14, u15, u16, u17, u18, u19, u20, u21, u22, u23, u24, u25, u26, u27, u28, u29, u30, u31, u32, u33, u34, u35, u36, u37, u38, u39, u40, u41, u42, u43, u44, u45, u46, u47, u48, u49, u50, u51, u52, u53, u54, u55, u56, u57, u58, u59, u60, u61, u62, u63, u64, u65, u66, u67, u68, u69, u70, u71, u72, u73, u74, u75, u76, u77, u78, u79, u80, u81, u82, u83, u84, u85, u86, u87, u88, u89, u90, u91, u92, u93, u94, u95, u96, u97, u98, u99, u100, u101, u102, u103, u104, u105, u106, u107, u108, u109, u110, u111, u112, u113, u114, u115, u116, u117, u118, u119, u120, u121, u122, u123, u124, u125, u126, u127, u128, u129, u130, u131, u132, u133, u134, u135, u136, u137, u138, u139, u140, u141, u142, u143, u144, u145, u146, u147, u148, u149, u150, u151, u152, u153, u154, u155, u156, u157, u158, u159, u160, u161, u162, u163, u164, u165, u166, u167, u168, u169, u170, u171, u172, u173, u174, u175, u176, u177, u178, u179, u180, u181, u182, u183, u184, u185, u186, u187, u188, u189, u190, u191, u192, u193, u194, u195, u196, u197, u198, u199, u200, u201, u202, u203, u204, u205, u206, u207, u208, u209, u210, u211, u212, u213, u214, u215, u216, u217, u218, u219, u220, u221, u222, u223, u224, u225, u226, u227, u228, u229, u230, u231, u232, u233, u234, u235, u236, u237, u238, u239, u240, u241, u242, u243, u244, u245], defers := [] } wr := by
  obtain ⟨S, hC, hA, hi, hn, hx, hu, hal, hac, ⟨hd0, hd1⟩, ⟨ha0, ha1⟩, ⟨hb0, hb1⟩, hgo, hret⟩ := H
  have HC := Aside0.mk hC
  have HA := Aside0.mk hA
  have GO := Aside0.mk hgo
  have RET := Aside0.mk hret
  have HAC := Aside0.mk hac
  obtain ⟨ad1, ea, k0, k1, k2, k3, k4, k5, k6, k7⟩ := at_T40 (Kd.C_below HC.out S.HB) (i : Int) (by omega) (by omega)
  cases ea
  simp only [Int.toNat_natCast] at k0 k1 k2 k3 k4 k5 k6 k7
  rw [hx] at k0 k1 k2 k3 k4 k5 k6 k7
  dsimp only at k0 k1 k2 k3 k4 k5 k6 k7 hd0 hd1 ha0 ha1 hb0 hb1
  have q1 : ((i : Int) < (code.length : Int)) = True := eq_true (by omega)
  have q0 : (0 ≤ (i : Int)) = True := eq_true (by omega)
  have S0 := Aside0.mk S
  clear S hC hA hgo hret hx hac
  have KX : Aside0 ((wr.alloc (.cells #[.int .i64 11, .int .i64 d, .int .i64 a, .int .i64 b, .int .i64 loc, .int .i64 len, .int .i64 kk, .int .i64 tt] 40)).heap[wr.heap.size]? = some (.cells #[.int .i64 11, .int .i64 d, .int .i64 a, .int .i64 b, .int .i64 loc, .int .i64 len, .int .i64 kk, .int .i64 tt] 40 (0, 0))) := ⟨blk_new _ _⟩
  have S1 := Aside0.mk (S0.out.alloc (.cells #[.int .i64 11, .int .i64 d, .int .i64 a, .int .i64 b, .int .i64 loc, .int .i64 len, .int .i64 kk, .int .i64 tt] 40))
  unfold rrunBody Try.f17
  dsimp only
  go_wp2_with fail
  generalize hW1 : (wr.alloc (.cells #[.int .i64 11, .int .i64 d, .int .i64 a, .int .i64 b, .int .i64 loc, .int .i64 len, .int .i64 kk, .int .i64 tt] 40)) = W1 at KX S1 ⊢
  clear hW1 k0 k1 k2 k3 k4 k5 k6 k7 S0
  generalize wr.heap.size = bx at KX ⊢
  have x2 := blk_cell KX.out 2
  have x3 := blk_cell KX.out 3
  have hta := S1.out.ctemp a ha0 ha1
  have htb := S1.out.ctemp b hb0 hb1
  go_quiet (fail)
  generalize hW2 : W1.drewN nq = W2
  have KY : Aside0 (W2.heap[bx]? = some (.cells #[.int .i64 11, .int .i64 d, .int .i64 a, .int .i64 b, .int .i64 loc, .int .i64 len, .int .i64 kk, .int .i64 tt] 40 (0, 0))) := ⟨by rw [← hW2]; exact blk_drewN KX.out _⟩
  have S2 : Aside0 (Rr w W2 g6 g7 g8 T vt acts) := ⟨by rw [← hW2]; exact S1.out.drewN _⟩
  clear hW2 KX S1 x2 x3 hta htb
  have hl7 := blk_lt S2.out.b7
  have hl8 := blk_lt S2.out.b8
  have hlx := blk_lt KY.out
  have hl6 := blk_lt S2.out.b6
  have n78 := S2.out.n78
  have n68 := S2.out.n68
  have n67 := S2.out.n67
  have nx8 : ¬ bx = g8 := blk_ne KY.out S2.out.b8 (by decide)
  have nx7 : ¬ bx = g7 := blk_ne KY.out S2.out.b7 (by decide)
  have nx6 : ¬ bx = g6 := blk_ne KY.out S2.out.b6 (by decide)
  have x0 := blk_cell KY.out 0
  have x1 := blk_cell KY.out 1
  have x4 := blk_cell KY.out 4
  have x5 := blk_cell KY.out 5
  have x6 := blk_cell KY.out 6
  have x7 := blk_cell KY.out 7
  have y0 := blk_cell S2.out.b7 0
  have y1 := blk_cell S2.out.b7 1
  have yf := blk_frozen S2.out.b7
  have v0 := blk_cell S2.out.b6 0
  have v1_ := blk_cell S2.out.b6 1
  have vf := blk_frozen S2.out.b6
  have td := S2.out.ctemp d hd0 hd1
  have tf := blk_frozen S2.out.b8
  obtain ⟨Av, cv, rfl⟩ := Kd.R_slice S2.out.RT
  have hu2 : used = answers.length := hz
  have HD0 : Aside0 (answers.drop used = []) := ⟨by rw [hu2]; simp⟩
  have c9 : (used == answers.length) = true := by rw [hu2]; simp
  have c8 : ((used : Int) == (answers.length : Int)) = true := by rw [hu2]; simp
  clear hz hu2
  have hst : stp ⟨11, d, a, b, loc, len, kk, tt⟩ i T (answers.drop used) = ⟨0, 4, T, answers.drop used, []⟩ := by rw [HD0.out]; rfl
  have HS := Aside0.mk hst
  clear hst
  go_wp2
  have hfin := S2.out.fin 4 _ rfl
  exact RET.out ⟨0, 4, T, answers.drop used, []⟩ _ _ HS.out (show (4 : Int) ≠ 0 by decide) rfl rfl rfl hfin.2.2.1 hfin.2.2.2 hfin.1 hfin.2.1
set_option maxHeartbeats 8000000 in
set_option maxRecDepth 100000 in
theorem rr_10 {A : Option Addr} {c : Nat} {code : List S40} {Al : Option Addr} {cl : Nat} {l : List S80} {An : Option Addr} {cn : Nat} {answers : List Int} {w wr : World} {g6 g7 g8 : Nat} {T : List Int} {vt : Value} {acts : List S47} {i used : Nat} {d a b loc len kk tt : Int} {u3 u4 u5 u18 u19 u20 u21 u22 : Value} {R : Exit → Act → World → Prop}
    (H : Rround A c code Al cl l An cn answers w wr g6 g7 g8 T vt acts i used ⟨10, d, a, b, loc, len, kk, tt⟩ u3 u4 u5 u18 u19 u20 u21 u22 R) (hz : used < answers.length) (u11 u12 u13 u14 u15 u16 u17 u23 u24 u25 u26 u27 u28 u29 u30 u31 u32 u33 u34 u35 u36 u37 u38 u39 u40 u41 u42 u43 u44 u45 u46 u47 u48 u49 u50 u51 u52 u53 u54 u55 u56 u57 u58 u59 u60 u61 u62 u63 u64 u65 u66 u67 u68 u69 u70 u71 u72 u73 u74 u75 u76 u77 u78 u79 u80 u81 u82 u83 u84 u85 u86 u87 u88 u89 u90 u91 u92 u93 u94 u95 u96 u97 u98 u99 u100 u101 u102 u103 u104 u105 u106 u107 u108 u109 u110 u111 u112 u113 u114 u115 u116 u117 u118 u119 u120 u121 u122 u123 u124 u125 u126 u127 u128 u129 u130 u131 u132 u133 u134 u135 u136 u137 u138 u139 u140 u141 u142 u143 u144 u145 u146 u147 u148 u149 u150 u151 u152 u153 u154 u155 u156 u157 u158 u159 u160 u161 u162 u163 u164 u165 u166 u167 u168 u169 u170 u171 u172 u173 u174 u175 u176 u177 u178 u179 u180 u181 u182 u183 u184 u185 u186 u187 u188 u189 u190 u191 u192 u193 u194 u195 u196 u197 u198 u199 u200 u201 u202 u203 u204 u205 u206 u207 u208 u209 u210 u211 u212 u213 u214 u215 u216 u217 u218 u219 u220 u221 u222 u223 u224 u225 u226 u227 u228 u229 u230 u231 u232 u233 u234 u235 u236 u237 u238 u239 u240 u241 u242 u243 u244 u245 : Value) :
    rrunBody.wp Try.prog R { tmps := #[.slice A code.length c, .slice Al l.length cl, .slice An answers.length cn, u3, u4, u5, .pointer (some ⟨g6, 0, none⟩), .pointer (some ⟨g7, 0, none⟩), .pointer (some ⟨g8, 0, none⟩), .int .i64 (i : Int), .int .i64 (used : Int), u11, u12, u13, u14, u15, u16, u17, u18, u19, u20, u21, u22, u23, u24, u25, u26, u27, u28, u29, u30, u31, u32, u33, u34, u35, u36, u37, u38, u39, u40, u41, u42, u43, u44, u45, u46, u47, u48, u49, u50, u51, u52, u53, u54, u55, u56, u57, u58, u59, u60, u61, u62, u63, u64, u65, u66, u67, u68, u69, u70, u71, u72, u73, u74, u75, u76, u77, u78, u79, u80, u81, u82, u83, u84, u85, u86, u87, u88, u89, u90, u91, u92, u93, u94, u95, u96, u97, u98, u99, u100, u101, u102, u103, u104, u105, u106, u107, u108, u109, u110, u111, u112, u113, u114, u115, u116, u117, u118, u119, u120, u121, u122, u123, u124, u125, u126, u127, u128, u129, u130, u131, u132, u133, u134, u135, u136, u137, u138, u139, u140, u141, u142, u143, u144, u145, u146, u147, u148, u149, u150, u151, u152, u153, u154, u155, u156, u157, u158, u159, u160, u161, u162, u163, u164, u165, u166, u167, u168, u169, u170, u171, u172, u173, u174, u175, u176, u177, u178, u179, u180, u181, u182, u183, u184, u185, u186, u187, u188, u189, u190, u191, u192, u193, u194, u195, u196, u197, u198, u199, u200, u201, u202, u203, u204, u205, u206, u207, u208, u209, u210, u211, u212, u213, u214, u215, u216, u217, u218, u219, u220, u221, u222, u223, u224, u225, u226, u227, u228, u229, u230, u231, u232, u233, u234, u235, u236, u237, u238, u239, u240, u241, u242, u243, u244, u245], defers := [] } wr := by
  obtain ⟨S, hC, hA, hi, hn, hx, hu, hal, hac, ⟨hd0, hd1⟩, ⟨ha0, ha1⟩, ⟨hb0, hb1⟩, hgo, hret⟩ := H
  have HC := Aside0.mk hC
  have HA := Aside0.mk hA
  have GO := Aside0.mk hgo
  have RET := Aside0.mk hret
  have HAC := Aside0.mk hac
  obtain ⟨ad1, ea, k0, k1, k2, k3, k4, k5, k6, k7⟩ := at_T40 (Kd.C_below HC.out S.HB) (i : Int) (by omega) (by omega)
  cases ea
  simp only [Int.toNat_natCast] at k0 k1 k2 k3 k4 k5 k6 k7
  rw [hx] at k0 k1 k2 k3 k4 k5 k6 k7
  dsimp only at k0 k1 k2 k3 k4 k5 k6 k7 hd0 hd1 ha0 ha1 hb0 hb1
  have q1 : ((i : Int) < (code.length : Int)) = True := eq_true (by omega)
  have q0 : (0 ≤ (i : Int)) = True := eq_true (by omega)
  have S0 := Aside0.mk S
  clear S hC hA hgo hret hx hac
  have KX : Aside0 ((wr.alloc (.cells #[.int .i64 10, .int .i64 d, .int .i64 a, .int .i64 b, .int .i64 loc, .int .i64 len, .int .i64 kk, .int .i64 tt] 40)).heap[wr.heap.size]? = some (.cells #[.int .i64 10, .int .i64 d, .int .i64 a, .int .i64 b, .int .i64 loc, .int .i64 len, .int .i64 kk, .int .i64 tt] 40 (0, 0))) := ⟨blk_new _ _⟩
  have S1 := Aside0.mk (S0.out.alloc (.cells #[.int .i64 10, .int .i64 d, .int .i64 a, .int .i64 b, .int .i64 loc, .int .i64 len, .int .i64 kk, .int .i64 tt] 40))
  unfold rrunBody Try.f17
  dsimp only
  go_wp2_with fail
  generalize hW1 : (wr.alloc (.cells #[.int .i64 10, .int .i64 d, .int .i64 a, .int .i64 b, .int .i64 loc, .int .i64 len, .int .i64 kk, .int .i64 tt] 40)) = W1 at KX S1 ⊢
  clear hW1 k0 k1 k2 k3 k4 k5 k6 k7 S0
  generalize wr.heap.size = bx at KX ⊢
  have x2 := blk_cell KX.out 2
  have x3 := blk_cell KX.out 3
  have hta := S1.out.ctemp a ha0 ha1
  have htb := S1.out.ctemp b hb0 hb1
  go_quiet (fail)
  generalize hW2 : W1.drewN nq = W2
  have KY : Aside0 (W2.heap[bx]? = some (.cells #[.int .i64 10, .int .i64 d, .int .i64 a, .int .i64 b, .int .i64 loc, .int .i64 len, .int .i64 kk, .int .i64 tt] 40 (0, 0))) := ⟨by rw [← hW2]; exact blk_drewN KX.out _⟩
  have S2 : Aside0 (Rr w W2 g6 g7 g8 T vt acts) := ⟨by rw [← hW2]; exact S1.out.drewN _⟩
  clear hW2 KX S1 x2 x3 hta htb
  have hl7 := blk_lt S2.out.b7
  have hl8 := blk_lt S2.out.b8
  have hlx := blk_lt KY.out
  have hl6 := blk_lt S2.out.b6
  have n78 := S2.out.n78
  have n68 := S2.out.n68
  have n67 := S2.out.n67
  have nx8 : ¬ bx = g8 := blk_ne KY.out S2.out.b8 (by decide)
  have nx7 : ¬ bx = g7 := blk_ne KY.out S2.out.b7 (by decide)
  have nx6 : ¬ bx = g6 := blk_ne KY.out S2.out.b6 (by decide)
  have x0 := blk_cell KY.out 0
  have x1 := blk_cell KY.out 1
  have x4 := blk_cell KY.out 4
  have x5 := blk_cell KY.out 5
  have x6 := blk_cell KY.out 6
  have x7 := blk_cell KY.out 7
  have y0 := blk_cell S2.out.b7 0
  have y1 := blk_cell S2.out.b7 1
  have yf := blk_frozen S2.out.b7
  have v0 := blk_cell S2.out.b6 0
  have v1_ := blk_cell S2.out.b6 1
  have vf := blk_frozen S2.out.b6
  have td := S2.out.ctemp d hd0 hd1
  have tf := blk_frozen S2.out.b8
  obtain ⟨Av, cv, rfl⟩ := Kd.R_slice S2.out.RT
  have HD0 := Aside0.mk (drop_cons answers used hz)
  have c9 : (used == answers.length) = false := beq_eq_false_iff_ne.2 (by omega)
  have c8 : ((used : Int) == (answers.length : Int)) = false := beq_eq_false_iff_ne.2 (by omega)
  have r1 : ((used : Int) < (answers.length : Int)) = True := eq_true (by omega)
  have r0 : (0 ≤ (used : Int)) = True := eq_true (by omega)
  have r2 : used ≤ 100000 := by omega
  obtain ⟨ad2, ea2, hx2⟩ := Kd.at_int (Kd.C_below HA.out S2.out.HB) (used : Int) (by omega) (by omega)
  cases ea2
  simp only [Int.toNat_natCast] at hx2
  generalize rd answers (used : Int) = n at HD0 hx2
  have hst : stp ⟨10, d, a, b, loc, len, kk, tt⟩ i T (answers.drop used) = ⟨i + 1, 0, T.set d.toNat n, answers.drop (used + 1), [⟨5, loc, n, rd T a⟩]⟩ := by rw [HD0.out]; rfl
  have HS := Aside0.mk hst
  clear hst
  have SA := Aside0.mk ((S2.out.put_temp d n).alloc (.cells #[.int .i64 (5), .int .i64 (loc), .int .i64 (n), .int .i64 (rd T a)] 47))
  go_wp2_with (at_builtin; refine Kd.R_append k47 (w0 := w) w.heap.size rfl _ _ 29 47 _ 32 rfl Try.underlying29 info47 rfl (by decide) (by decide) (.slice Av acts.length cv) acts ⟨5, loc, n, rd T a⟩ [.int .i64 (5), .int .i64 (loc), .int .i64 (n), .int .i64 (rd T a)] (fun _ => True) (fun _ => False) rfl ?hx1 (k47_mkM _ _ _ ⟨5, loc, n, rd T a⟩) (fun _ h => h.elim) (fun _ _ => trivial) SA.out.RT SA.out.HB SA.out.HB.size ?hx2 ?_; (case hx1 => simp [Act.eval]); (case hx2 => (have := HAC.out; omega)); intro v9 w9 hR hB9 hg9 hat9; obtain ⟨A9, c9, rfl⟩ := Kd.R_slice hR; have S9 := Aside0.mk (SA.out.put_acts hg9 hB9 hR); have z7 := blk_cell (blk_grown SA.out.b7 hg9 (Kd.R_ne SA.out.RT SA.out.b7 (by decide))) 0; have f7 := blk_frozen (blk_grown SA.out.b7 hg9 (Kd.R_ne SA.out.RT SA.out.b7 (by decide))); clear hR hB9 hg9 hat9)
  have h9 := S9.out
  simp only [List.length_append, List.length_cons, List.length_nil, Nat.zero_add] at h9
  refine GO.out ⟨i + 1, 0, T.set d.toNat n, answers.drop (used + 1), [⟨5, loc, n, rd T a⟩]⟩ _ _ (used + 1) (.slice A9 (acts.length + 1) c9) HS.out rfl ?fr rfl (by omega) ?st
  case fr => unfold RrFrame; (repeat apply Exists.intro); exact rfl
  case st => exact h9
set_option maxHeartbeats 8000000 in
set_option maxRecDepth 100000 in
theorem rr_7 {A : Option Addr} {c : Nat} {code : List S40} {Al : Option Addr} {cl : Nat} {l : List S80} {An : Option Addr} {cn : Nat} {answers : List Int} {w wr : World} {g6 g7 g8 : Nat} {T : List Int} {vt : Value} {acts : List S47} {i used : Nat} {d a b loc len kk tt : Int} {u3 u4 u5 u18 u19 u20 u21 u22 : Value} {R : Exit → Act → World → Prop}
    (H : Rround A c code Al cl l An cn answers w wr g6 g7 g8 T vt acts i used ⟨7, d, a, b, loc, len, kk, tt⟩ u3 u4 u5 u18 u19 u20 u21 u22 R) (u11 u12 u13 u14 u15 u16 u17 u23 u24 u25 u26 u27 u28 u29 u30 u31 u32 u33 u34 u35 u36 u37 u38 u39 u40 u41 u42 u43 u44 u45 u46 u47 u48 u49 u50 u51 u52 u53 u54 u55 u56 u57 u58 u59 u60 u61 u62 u63 u64 u65 u66 u67 u68 u69 u70 u71 u72 u73 u74 u75 u76 u77 u78 u79 u80 u81 u82 u83 u84 u85 u86 u87 u88 u89 u90 u91 u92 u93 u94 u95 u96 u97 u98 u99 u100 u101 u102 u103 u104 u105 u106 u107 u108 u109 u110 u111 u112 u113 u114 u115 u116 u117 u118 u119 u120 u121 u122 u123 u124 u125 u126 u127 u128 u129 u130 u131 u132 u133 u134 u135 u136 u137 u138 u139 u140 u141 u142 u143 u144 u145 u146 u147 u148 u149 u150 u151 u152 u153 u154 u155 u156 u157 u158 u159 u160 u161 u162 u163 u164 u165 u166 u167 u168 u169 u170 u171 u172 u173 u174 u175 u176 u177 u178 u179 u180 u181 u182 u183 u184 u185 u186 u187 u188 u189 u190 u191 u192 u193 u194 u195 u196 u197 u198 u199 u200 u201 u202 u203 u204 u205 u206 u207 u208 u209 u210 u211 u212 u213 u214 u215 u216 u217 u218 u219 u220 u221 u222 u223 u224 u225 u226 u227 u228 u229 u230 u231 u232 u233 u234 u235 u236 u237 u238 u239 u240 u241 u242 u243 u244 u245 : Value) :
    rrunBody.wp Try.prog R { tmps := #[.slice A code.length c, .slice Al l.length cl, .slice An answers.length cn, u3, u4, u5, .pointer (some ⟨g6, 0, none⟩), .pointer (some ⟨g7, 0, none⟩), .pointer (some ⟨g8, 0, none⟩), .int .i64 (i : Int), .int .i64 (used : Int), u11, u12, u13, u14, u15, u16, u17, u18, u19, u20, u21, u22, u23, u24, u25, u26, u27, u28, u29, u30, u31, u32, u33, u34, u35, u36, u37, u38, u39, u40, u41, u42, u43, u44, u45, u46, u47, u48, u49, u50, u51, u52, u53, u54, u55, u56, u57, u58, u59, u60, u61, u62, u63, u64, u65, u66, u67, u68, u69, u70, u71, u72, u73, u74, u75, u76, u77, u78, u79, u80, u81, u82, u83, u84, u85, u86, u87, u88, u89, u90, u91, u92, u93, u94, u95, u96, u97, u98, u99, u100, u101, u102, u103, u104, u105, u106, u107, u108, u109, u110, u111, u112, u113, u114, u115, u116, u117, u118, u119, u120, u121, u122, u123, u124, u125, u126, u127, u128, u129, u130, u131, u132, u133, u134, u135, u136, u137, u138, u139, u140, u141, u142, u143, u144, u145, u146, u147, u148, u149, u150, u151, u152, u153, u154, u155, u156, u157, u158, u159, u160, u161, u162, u163, u164, u165, u166, u167, u168, u169, u170, u171, u172, u173, u174, u175, u176, u177, u178, u179, u180, u181, u182, u183, u184, u185, u186, u187, u188, u189, u190, u191, u192, u193, u194, u195, u196, u197, u198, u199, u200, u201, u202, u203, u204, u205, u206, u207, u208, u209, u210, u211, u212, u213, u214, u215, u216, u217, u218, u219, u220, u221, u222, u223, u224, u225, u226, u227, u228, u229, u230, u231, u232, u233, u234, u235, u236, u237, u238, u239, u240, u241, u242, u243, u244, u245], defers := [] } wr := by
  obtain ⟨S, hC, hA, hi, hn, hx, hu, hal, hac, ⟨hd0, hd1⟩, ⟨ha0, ha1⟩, ⟨hb0, hb1⟩, hgo, hret⟩ := H
  have HC := Aside0.mk hC
  have HA := Aside0.mk hA
  have GO := Aside0.mk hgo
  have RET := Aside0.mk hret
  have HAC := Aside0.mk hac
  obtain ⟨ad1, ea, k0, k1, k2, k3, k4, k5, k6, k7⟩ := at_T40 (Kd.C_below HC.out S.HB) (i : Int) (by omega) (by omega)
  cases ea
  simp only [Int.toNat_natCast] at k0 k1 k2 k3 k4 k5 k6 k7
  rw [hx] at k0 k1 k2 k3 k4 k5 k6 k7
  dsimp only at k0 k1 k2 k3 k4 k5 k6 k7 hd0 hd1 ha0 ha1 hb0 hb1
  have q1 : ((i : Int) < (code.length : Int)) = True := eq_true (by omega)
  have q0 : (0 ≤ (i : Int)) = True := eq_true (by omega)
  have S0 := Aside0.mk S
  clear S hC hA hgo hret hx hac
  have KX : Aside0 ((wr.alloc (.cells #[.int .i64 7, .int .i64 d, .int .i64 a, .int .i64 b, .int .i64 loc, .int .i64 len, .int .i64 kk, .int .i64 tt] 40)).heap[wr.heap.size]? = some (.cells #[.int .i64 7, .int .i64 d, .int .i64 a, .int .i64 b, .int .i64 loc, .int .i64 len, .int .i64 kk, .int .i64 tt] 40 (0, 0))) := ⟨blk_new _ _⟩
  have S1 := Aside0.mk (S0.out.alloc (.cells #[.int .i64 7, .int .i64 d, .int .i64 a, .int .i64 b, .int .i64 loc, .int .i64 len, .int .i64 kk, .int .i64 tt] 40))
  unfold rrunBody Try.f17
  dsimp only
  go_wp2_with fail
  generalize hW1 : (wr.alloc (.cells #[.int .i64 7, .int .i64 d, .int .i64 a, .int .i64 b, .int .i64 loc, .int .i64 len, .int .i64 kk, .int .i64 tt] 40)) = W1 at KX S1 ⊢
  clear hW1 k0 k1 k2 k3 k4 k5 k6 k7 S0
  generalize wr.heap.size = bx at KX ⊢
  have x2 := blk_cell KX.out 2
  have x3 := blk_cell KX.out 3
  have hta := S1.out.ctemp a ha0 ha1
  have htb := S1.out.ctemp b hb0 hb1
  go_quiet (fail)
  generalize hW2 : W1.drewN nq = W2
  have KY : Aside0 (W2.heap[bx]? = some (.cells #[.int .i64 7, .int .i64 d, .int .i64 a, .int .i64 b, .int .i64 loc, .int .i64 len, .int .i64 kk, .int .i64 tt] 40 (0, 0))) := ⟨by rw [← hW2]; exact blk_drewN KX.out _⟩
  have S2 : Aside0 (Rr w W2 g6 g7 g8 T vt acts) := ⟨by rw [← hW2]; exact S1.out.drewN _⟩
  clear hW2 KX S1 x2 x3 hta htb
  have hl7 := blk_lt S2.out.b7
  have hl8 := blk_lt S2.out.b8
  have hlx := blk_lt KY.out
  have hl6 := blk_lt S2.out.b6
  have n78 := S2.out.n78
  have n68 := S2.out.n68
  have n67 := S2.out.n67
  have nx8 : ¬ bx = g8 := blk_ne KY.out S2.out.b8 (by decide)
  have nx7 : ¬ bx = g7 := blk_ne KY.out S2.out.b7 (by decide)
  have nx6 : ¬ bx = g6 := blk_ne KY.out S2.out.b6 (by decide)
  have x0 := blk_cell KY.out 0
  have x1 := blk_cell KY.out 1
  have x4 := blk_cell KY.out 4
  have x5 := blk_cell KY.out 5
  have x6 := blk_cell KY.out 6
  have x7 := blk_cell KY.out 7
  have y0 := blk_cell S2.out.b7 0
  have y1 := blk_cell S2.out.b7 1
  have yf := blk_frozen S2.out.b7
  have v0 := blk_cell S2.out.b6 0
  have v1_ := blk_cell S2.out.b6 1
  have vf := blk_frozen S2.out.b6
  have td := S2.out.ctemp d hd0 hd1
  have tf := blk_frozen S2.out.b8
  obtain ⟨Av, cv, rfl⟩ := Kd.R_slice S2.out.RT
  have hst : stp ⟨7, d, a, b, loc, len, kk, tt⟩ i T (answers.drop used) = ⟨i + 1, 0, T, answers.drop used, [⟨2, loc, 0, rd T a⟩]⟩ := by rfl
  have HS := Aside0.mk hst
  clear hst
  have SA := Aside0.mk (S2.out.alloc (.cells #[.int .i64 (2), .int .i64 (loc), .int .i64 (0), .int .i64 (rd T a)] 47))
  go_wp2_with (at_builtin; refine Kd.R_append k47 (w0 := w) w.heap.size rfl _ _ 29 47 _ 32 rfl Try.underlying29 info47 rfl (by decide) (by decide) (.slice Av acts.length cv) acts ⟨2, loc, 0, rd T a⟩ [.int .i64 (2), .int .i64 (loc), .int .i64 (0), .int .i64 (rd T a)] (fun _ => True) (fun _ => False) rfl ?hx1 (k47_mkM _ _ _ ⟨2, loc, 0, rd T a⟩) (fun _ h => h.elim) (fun _ _ => trivial) SA.out.RT SA.out.HB SA.out.HB.size ?hx2 ?_; (case hx1 => simp [Act.eval]); (case hx2 => (have := HAC.out; omega)); intro v9 w9 hR hB9 hg9 hat9; obtain ⟨A9, c9, rfl⟩ := Kd.R_slice hR; have S9 := Aside0.mk (SA.out.put_acts hg9 hB9 hR); have z7 := blk_cell (blk_grown SA.out.b7 hg9 (Kd.R_ne SA.out.RT SA.out.b7 (by decide))) 0; have f7 := blk_frozen (blk_grown SA.out.b7 hg9 (Kd.R_ne SA.out.RT SA.out.b7 (by decide))); clear hR hB9 hg9 hat9)
  have h9 := S9.out
  simp only [List.length_append, List.length_cons, List.length_nil, Nat.zero_add] at h9
  refine GO.out ⟨i + 1, 0, T, answers.drop used, [⟨2, loc, 0, rd T a⟩]⟩ _ _ used (.slice A9 (acts.length + 1) c9) HS.out rfl ?fr rfl (by omega) ?st
  case fr => unfold RrFrame; (repeat apply Exists.intro); exact rfl
  case st => exact h9
set_option maxHeartbeats 8000000 in
set_option maxRecDepth 100000 in
theorem rr_13l {A : Option Addr} {c : Nat} {code : List S40} {Al : Option Addr} {cl : Nat} {l : List S80} {An : Option Addr} {cn : Nat} {answers : List Int} {w wr : World} {g6 g7 g8 : Nat} {T : List Int} {vt : Value} {acts : List S47} {i used : Nat} {d a b loc len kk tt : Int} {u3 u4 u5 u18 u19 u20 u21 u22 : Value} {R : Exit → Act → World → Prop}
    (H : Rround A c code Al cl l An cn answers w wr g6 g7 g8 T vt acts i used ⟨13, d, a, b, loc, len, kk, tt⟩ u3 u4 u5 u18 u19 u20 u21 u22 R) (hr : rd T a < 0) (u11 u12 u13 u14 u15 u16 u17 u23 u24 u25 u26 u27 u28 u29 u30 u31 u32 u33 u34 u35 u36 u37 u38 u39 u40 u41 u42 u43 u44 u45 u46 u47 u48 u49 u50 u51 u52 u53 u54 u55 u56 u57 u58 u59 u60 u61 u62 u63 u64 u65 u66 u67 u68 u69 u70 u71 u72 u73 u74 u75 u76 u77 u78 u79 u80 u81 u82 u83 u84 u85 u86 u87 u88 u89 u90 u91 u92 u93 u94 u95 u96 u97 u98 u99 u100 u101 u102 u103 u104 u105 u106 u107 u108 u109 u110 u111 u112 u113 u114 u115 u116 u117 u118 u119 u120 u121 u122 u123 u124 u125 u126 u127 u128 u129 u130 u131 u132 u133 u134 u135 u136 u137 u138 u139 u140 u141 u142 u143 u144 u145 u146 u147 u148 u149 u150 u151 u152 u153 u154 u155 u156 u157 u158 u159 u160 u161 u162 u163 u164 u165 u166 u167 u168 u169 u170 u171 u172 u173 u174 u175 u176 u177 u178 u179 u180 u181 u182 u183 u184 u185 u186 u187 u188 u189 u190 u191 u192 u193 u194 u195 u196 u197 u198 u199 u200 u201 u202 u203 u204 u205 u206 u207 u208 u209 u210 u211 u212 u213 u214 u215 u216 u217 u218 u219 u220 u221 u222 u223 u224 u225 u226 u227 u228 u229 u230 u231 u232 u233 u234 u235 u236 u237 u238 u239 u240 u241 u242 u243 u244 u245 : Value) :
    rrunBody.wp Try.prog R { tmps := #[.slice A code.length c, .slice Al l.length cl, .slice An answers.length cn, u3, u4, u5, .pointer (some ⟨g6, 0, none⟩), .pointer (some ⟨g7, 0, none⟩), .pointer (some ⟨g8, 0, none⟩), .int .i64 (i : Int), .int .i64 (used : Int), u11, u12, u13, u14, u15, u16, u17, u18, u19, u20, u21, u22, u23, u24, u25, u26, u27, u28, u29, u30, u31, u32, u33, u34, u35, u36, u37, u38, u39, u40, u41, u42, u43, u44, u45, u46, u47, u48, u49, u50, u51, u52, u53, u54, u55, u56, u57, u58, u59, u60, u61, u62, u63, u64, u65, u66, u67, u68, u69, u70, u71, u72, u73, u74, u75, u76, u77, u78, u79, u80, u81, u82, u83, u84, u85, u86, u87, u88, u89, u90, u91, u92, u93, u94, u95, u96, u97, u98, u99, u100, u101, u102, u103, u104, u105, u106, u107, u108, u109, u110, u111, u112, u113, u114, u115, u116, u117, u118, u119, u120, u121, u122, u123, u124, u125, u126, u127, u128, u129, u130, u131, u132, u133, u134, u135, u136, u137, u138, u139, u140, u141, u142, u143, u144, u145, u146, u147, u148, u149, u150, u151, u152, u153, u154, u155, u156, u157, u158, u159, u160, u161, u162, u163, u164, u165, u166, u167, u168, u169, u170, u171, u172, u173, u174, u175, u176, u177, u178, u179, u180, u181, u182, u183, u184, u185, u186, u187, u188, u189, u190, u191, u192, u193, u194, u195, u196, u197, u198, u199, u200, u201, u202, u203, u204, u205, u206, u207, u208, u209, u210, u211, u212, u213, u214, u215, u216, u217, u218, u219, u220, u221, u222, u223, u224, u225, u226, u227, u228, u229, u230, u231, u232, u233, u234, u235, u236, u237, u238, u239, u240, u241, u242, u243, u244, u245], defers := [] } wr := by
  obtain ⟨S, hC, hA, hi, hn, hx, hu, hal, hac, ⟨hd0, hd1⟩, ⟨ha0, ha1⟩, ⟨hb0, hb1⟩, hgo, hret⟩ := H
  have HC := Aside0.mk hC
  have HA := Aside0.mk hA
  have GO := Aside0.mk hgo
  have RET := Aside0.mk hret
  have HAC := Aside0.mk hac
  obtain ⟨ad1, ea, k0, k1, k2, k3, k4, k5, k6, k7⟩ := at_T40 (Kd.C_below HC.out S.HB) (i : Int) (by omega) (by omega)
  cases ea
  simp only [Int.toNat_natCast] at k0 k1 k2 k3 k4 k5 k6 k7
  rw [hx] at k0 k1 k2 k3 k4 k5 k6 k7
  dsimp only at k0 k1 k2 k3 k4 k5 k6 k7 hd0 hd1 ha0 ha1 hb0 hb1
  have q1 : ((i : Int) < (code.length : Int)) = True := eq_true (by omega)
  have q0 : (0 ≤ (i : Int)) = True := eq_true (by omega)
  have S0 := Aside0.mk S
  clear S hC hA hgo hret hx hac
  have KX : Aside0 ((wr.alloc (.cells #[.int .i64 13, .int .i64 d, .int .i64 a, .int .i64 b, .int .i64 loc, .int .i64 len, .int .i64 kk, .int .i64 tt] 40)).heap[wr.heap.size]? = some (.cells #[.int .i64 13, .int .i64 d, .int .i64 a, .int .i64 b, .int .i64 loc, .int .i64 len, .int .i64 kk, .int .i64 tt] 40 (0, 0))) := ⟨blk_new _ _⟩
  have S1 := Aside0.mk (S0.out.alloc (.cells #[.int .i64 13, .int .i64 d, .int .i64 a, .int .i64 b, .int .i64 loc, .int .i64 len, .int .i64 kk, .int .i64 tt] 40))
  unfold rrunBody Try.f17
  dsimp only
  go_wp2_with fail
  generalize hW1 : (wr.alloc (.cells #[.int .i64 13, .int .i64 d, .int .i64 a, .int .i64 b, .int .i64 loc, .int .i64 len, .int .i64 kk, .int .i64 tt] 40)) = W1 at KX S1 ⊢
  clear hW1 k0 k1 k2 k3 k4 k5 k6 k7 S0
  generalize wr.heap.size = bx at KX ⊢
  have x2 := blk_cell KX.out 2
  have x3 := blk_cell KX.out 3
  have hta := S1.out.ctemp a ha0 ha1
  have htb := S1.out.ctemp b hb0 hb1
  go_quiet (fail)
  generalize hW2 : W1.drewN nq = W2
  have KY : Aside0 (W2.heap[bx]? = some (.cells #[.int .i64 13, .int .i64 d, .int .i64 a, .int .i64 b, .int .i64 loc, .int .i64 len, .int .i64 kk, .int .i64 tt] 40 (0, 0))) := ⟨by rw [← hW2]; exact blk_drewN KX.out _⟩
  have S2 : Aside0 (Rr w W2 g6 g7 g8 T vt acts) := ⟨by rw [← hW2]; exact S1.out.drewN _⟩
  clear hW2 KX S1 x2 x3 hta htb
  have hl7 := blk_lt S2.out.b7
  have hl8 := blk_lt S2.out.b8
  have hlx := blk_lt KY.out
  have hl6 := blk_lt S2.out.b6
  have n78 := S2.out.n78
  have n68 := S2.out.n68
  have n67 := S2.out.n67
  have nx8 : ¬ bx = g8 := blk_ne KY.out S2.out.b8 (by decide)
  have nx7 : ¬ bx = g7 := blk_ne KY.out S2.out.b7 (by decide)
  have nx6 : ¬ bx = g6 := blk_ne KY.out S2.out.b6 (by decide)
  have x0 := blk_cell KY.out 0
  have x1 := blk_cell KY.out 1
  have x4 := blk_cell KY.out 4
  have x5 := blk_cell KY.out 5
  have x6 := blk_cell KY.out 6
  have x7 := blk_cell KY.out 7
  have y0 := blk_cell S2.out.b7 0
  have y1 := blk_cell S2.out.b7 1
  have yf := blk_frozen S2.out.b7
  have v0 := blk_cell S2.out.b6 0
  have v1_ := blk_cell S2.out.b6 1
  have vf := blk_frozen S2.out.b6
  have td := S2.out.ctemp d hd0 hd1
  have tf := blk_frozen S2.out.b8
  obtain ⟨Av, cv, rfl⟩ := Kd.R_slice S2.out.RT
  have hst : stp ⟨13, d, a, b, loc, len, kk, tt⟩ i T (answers.drop used) = ⟨0, 3, T, answers.drop used, []⟩ := by show (if outb ⟨13, d, a, b, loc, len, kk, tt⟩ T then _ else _) = _; rw [if_pos (by simp [outb, hr])]; rfl
  have HS := Aside0.mk hst
  have c1 : decide (rd T a < 0) = true := decide_eq_true hr
  clear hst hr
  go_wp2
  have hfin := S2.out.fin 3 _ rfl
  exact RET.out ⟨0, 3, T, answers.drop used, []⟩ _ _ HS.out (show (3 : Int) ≠ 0 by decide) rfl rfl rfl hfin.2.2.1 hfin.2.2.2 hfin.1 hfin.2.1
set_option maxHeartbeats 8000000 in
set_option maxRecDepth 100000 in
theorem rr_16f {A : Option Addr} {c : Nat} {code : List S40} {Al : Option Addr} {cl : Nat} {l : List S80} {An : Option Addr} {cn : Nat} {answers : List Int} {w wr : World} {g6 g7 g8 : Nat} {T : List Int} {vt : Value} {acts : List S47} {i used : Nat} {d a b loc len kk tt : Int} {u3 u4 u5 u18 u19 u20 u21 u22 : Value} {R : Exit → Act → World → Prop}
    (H : Rround A c code Al cl l An cn answers w wr g6 g7 g8 T vt acts i used ⟨16, d, a, b, loc, len, kk, tt⟩ u3 u4 u5 u18 u19 u20 u21 u22 R) (hr : rd T a < rd T b) (u11 u12 u13 u14 u15 u16 u17 u23 u24 u25 u26 u27 u28 u29 u30 u31 u32 u33 u34 u35 u36 u37 u38 u39 u40 u41 u42 u43 u44 u45 u46 u47 u48 u49 u50 u51 u52 u53 u54 u55 u56 u57 u58 u59 u60 u61 u62 u63 u64 u65 u66 u67 u68 u69 u70 u71 u72 u73 u74 u75 u76 u77 u78 u79 u80 u81 u82 u83 u84 u85 u86 u87 u88 u89 u90 u91 u92 u93 u94 u95 u96 u97 u98 u99 u100 u101 u102 u103 u104 u105 u106 u107 u108 u109 u110 u111 u112 u113 u114 u115 u116 u117 u118 u119 u120 u121 u122 u123 u124 u125 u126 u127 u128 u129 u130 u131 u132 u133 u134 u135 u136 u137 u138 u139 u140 u141 u142 u143 u144 u145 u146 u147 u148 u149 u150 u151 u152 u153 u154 u155 u156 u157 u158 u159 u160 u161 u162 u163 u164 u165 u166 u167 u168 u169 u170 u171 u172 u173 u174 u175 u176 u177 u178 u179 u180 u181 u182 u183 u184 u185 u186 u187 u188 u189 u190 u191 u192 u193 u194 u195 u196 u197 u198 u199 u200 u201 u202 u203 u204 u205 u206 u207 u208 u209 u210 u211 u212 u213 u214 u215 u216 u217 u218 u219 u220 u221 u222 u223 u224 u225 u226 u227 u228 u229 u230 u231 u232 u233 u234 u235 u236 u237 u238 u239 u240 u241 u242 u243 u244 u245 : Value) :
    rrunBody.wp Try.prog R { tmps := #[.slice A code.length c, .slice Al l.length cl, .slice An answers.length cn, u3, u4, u5, .pointer (some ⟨g6, 0, none⟩), .pointer (some ⟨g7, 0, none⟩), .pointer (some ⟨g8, 0, none⟩), .int .i64 (i : Int), .int .i64 (used : Int), u11, u12, u13, u14, u15, u16, u17, u18, u19, u20, u21, u22, u23, u24, u25, u26, u27, u28, u29, u30, u31, u32, u33, u34, u35, u36, u37, u38, u39, u40, u41, u42, u43, u44, u45, u46, u47, u48, u49, u50, u51, u52, u53, u54, u55, u56, u57, u58, u59, u60, u61, u62, u63, u64, u65, u66, u67, u68, u69, u70, u71, u72, u73, u74, u75, u76, u77, u78, u79, u80, u81, u82, u83, u84, u85, u86, u87, u88, u89, u90, u91, u92, u93, u94, u95, u96, u97, u98, u99, u100, u101, u102, u103, u104, u105, u106, u107, u108, u109, u110, u111, u112, u113, u114, u115, u116, u117, u118, u119, u120, u121, u122, u123, u124, u125, u126, u127, u128, u129, u130, u131, u132, u133, u134, u135, u136, u137, u138, u139, u140, u141, u142, u143, u144, u145, u146, u147, u148, u149, u150, u151, u152, u153, u154, u155, u156, u157, u158, u159, u160, u161, u162, u163, u164, u165, u166, u167, u168, u169, u170, u171, u172, u173, u174, u175, u176, u177, u178, u179, u180, u181, u182, u183, u184, u185, u186, u187, u188, u189, u190, u191, u192, u193, u194, u195, u196, u197, u198, u199, u200, u201, u202, u203, u204, u205, u206, u207, u208, u209, u210, u211, u212, u213, u214, u215, u216, u217, u218, u219, u220, u221, u222, u223, u224, u225, u226, u227, u228, u229, u230, u231, u232, u233, u234, u235, u236, u237, u238, u239, u240, u241, u242, u243, u244, u245], defers := [] } wr := by
  obtain ⟨S, hC, hA, hi, hn, hx, hu, hal, hac, ⟨hd0, hd1⟩, ⟨ha0, ha1⟩, ⟨hb0, hb1⟩, hgo, hret⟩ := H
  have HC := Aside0.mk hC
  have HA := Aside0.mk hA
  have GO := Aside0.mk hgo
  have RET := Aside0.mk hret
  have HAC := Aside0.mk hac
  obtain ⟨ad1, ea, k0, k1, k2, k3, k4, k5, k6, k7⟩ := at_T40 (Kd.C_below HC.out S.HB) (i : Int) (by omega) (by omega)
  cases ea
  simp only [Int.toNat_natCast] at k0 k1 k2 k3 k4 k5 k6 k7
  rw [hx] at k0 k1 k2 k3 k4 k5 k6 k7
  dsimp only at k0 k1 k2 k3 k4 k5 k6 k7 hd0 hd1 ha0 ha1 hb0 hb1
  have q1 : ((i : Int) < (code.length : Int)) = True := eq_true (by omega)
  have q0 : (0 ≤ (i : Int)) = True := eq_true (by omega)
  have S0 := Aside0.mk S
  clear S hC hA hgo hret hx hac
  have KX : Aside0 ((wr.alloc (.cells #[.int .i64 16, .int .i64 d, .int .i64 a, .int .i64 b, .int .i64 loc, .int .i64 len, .int .i64 kk, .int .i64 tt] 40)).heap[wr.heap.size]? = some (.cells #[.int .i64 16, .int .i64 d, .int .i64 a, .int .i64 b, .int .i64 loc, .int .i64 len, .int .i64 kk, .int .i64 tt] 40 (0, 0))) := ⟨blk_new _ _⟩
  have S1 := Aside0.mk (S0.out.alloc (.cells #[.int .i64 16, .int .i64 d, .int .i64 a, .int .i64 b, .int .i64 loc, .int .i64 len, .int .i64 kk, .int .i64 tt] 40))
  unfold rrunBody Try.f17
  dsimp only
  go_wp2_with fail
  generalize hW1 : (wr.alloc (.cells #[.int .i64 16, .int .i64 d, .int .i64 a, .int .i64 b, .int .i64 loc, .int .i64 len, .int .i64 kk, .int .i64 tt] 40)) = W1 at KX S1 ⊢
  clear hW1 k0 k1 k2 k3 k4 k5 k6 k7 S0
  generalize wr.heap.size = bx at KX ⊢
  have x2 := blk_cell KX.out 2
  have x3 := blk_cell KX.out 3
  have hta := S1.out.ctemp a ha0 ha1
  have htb := S1.out.ctemp b hb0 hb1
  go_quiet (fail)
  generalize hW2 : W1.drewN nq = W2
  have KY : Aside0 (W2.heap[bx]? = some (.cells #[.int .i64 16, .int .i64 d, .int .i64 a, .int .i64 b, .int .i64 loc, .int .i64 len, .int .i64 kk, .int .i64 tt] 40 (0, 0))) := ⟨by rw [← hW2]; exact blk_drewN KX.out _⟩
  have S2 : Aside0 (Rr w W2 g6 g7 g8 T vt acts) := ⟨by rw [← hW2]; exact S1.out.drewN _⟩
  clear hW2 KX S1 x2 x3 hta htb
  have hl7 := blk_lt S2.out.b7
  have hl8 := blk_lt S2.out.b8
  have hlx := blk_lt KY.out
  have hl6 := blk_lt S2.out.b6
  have n78 := S2.out.n78
  have n68 := S2.out.n68
  have n67 := S2.out.n67
  have nx8 : ¬ bx = g8 := blk_ne KY.out S2.out.b8 (by decide)
  have nx7 : ¬ bx = g7 := blk_ne KY.out S2.out.b7 (by decide)
  have nx6 : ¬ bx = g6 := blk_ne KY.out S2.out.b6 (by decide)
  have x0 := blk_cell KY.out 0
  have x1 := blk_cell KY.out 1
  have x4 := blk_cell KY.out 4
  have x5 := blk_cell KY.out 5
  have x6 := blk_cell KY.out 6
  have x7 := blk_cell KY.out 7
  have y0 := blk_cell S2.out.b7 0
  have y1 := blk_cell S2.out.b7 1
  have yf := blk_frozen S2.out.b7
  have v0 := blk_cell S2.out.b6 0
  have v1_ := blk_cell S2.out.b6 1
  have vf := blk_frozen S2.out.b6
  have td := S2.out.ctemp d hd0 hd1
  have tf := blk_frozen S2.out.b8
  obtain ⟨Av, cv, rfl⟩ := Kd.R_slice S2.out.RT
  have hst : stp ⟨16, d, a, b, loc, len, kk, tt⟩ i T (answers.drop used) = ⟨i + 1, 0, T, answers.drop used, []⟩ := by show (if rd T a < rd T b then _ else _) = _; rw [if_pos (by first | exact hr | omega)]; rfl
  have HS := Aside0.mk hst
  have c1 : decide (rd T a < rd T b) = true := decide_eq_true hr
  clear hst hr
  go_wp2
  refine GO.out ⟨i + 1, 0, T, answers.drop used, []⟩ _ _ used (.slice Av acts.length cv) HS.out rfl ?fr rfl (by omega) ?st
  case fr => unfold RrFrame; (repeat apply Exists.intro); exact rfl
  case st => show Rr w _ g6 g7 g8 _ _ (acts ++ []); rw [List.append_nil]; exact S2.out.alloc _
set_option maxHeartbeats 8000000 in
set_option maxRecDepth 100000 in
theorem rr_12s {A : Option Addr} {c : Nat} {code : List S40} {Al : Option Addr} {cl : Nat} {l : List S80} {An : Option Addr} {cn : Nat} {answers : List Int} {w wr : World} {g6 g7 g8 : Nat} {T : List Int} {vt : Value} {acts : List S47} {i used : Nat} {d a b loc len kk tt : Int} {u3 u4 u5 u18 u19 u20 u21 u22 : Value} {R : Exit → Act → World → Prop}
    (H : Rround A c code Al cl l An cn answers w wr g6 g7 g8 T vt acts i used ⟨12, d, a, b, loc, len, kk, tt⟩ u3 u4 u5 u18 u19 u20 u21 u22 R) (hz : used < answers.length) (hr : rd answers (used : Int) = rd T a) (u11 u12 u13 u14 u15 u16 u17 u23 u24 u25 u26 u27 u28 u29 u30 u31 u32 u33 u34 u35 u36 u37 u38 u39 u40 u41 u42 u43 u44 u45 u46 u47 u48 u49 u50 u51 u52 u53 u54 u55 u56 u57 u58 u59 u60 u61 u62 u63 u64 u65 u66 u67 u68 u69 u70 u71 u72 u73 u74 u75 u76 u77 u78 u79 u80 u81 u82 u83 u84 u85 u86 u87 u88 u89 u90 u91 u92 u93 u94 u95 u96 u97 u98 u99 u100 u101 u102 u103 u104 u105 u106 u107 u108 u109 u110 u111 u112 u113 u114 u115 u116 u117 u118 u119 u120 u121 u122 u123 u124 u125 u126 u127 u128 u129 u130 u131 u132 u133 u134 u135 u136 u137 u138 u139 u140 u141 u142 u143 u144 u145 u146 u147 u148 u149 u150 u151 u152 u153 u154 u155 u156 u157 u158 u159 u160 u161 u162 u163 u164 u165 u166 u167 u168 u169 u170 u171 u172 u173 u174 u175 u176 u177 u178 u179 u180 u181 u182 u183 u184 u185 u186 u187 u188 u189 u190 u191 u192 u193 u194 u195 u196 u197 u198 u199 u200 u201 u202 u203 u204 u205 u206 u207 u208 u209 u210 u211 u212 u213 u214 u215 u216 u217 u218 u219 u220 u221 u222 u223 u224 u225 u226 u227 u228 u229 u230 u231 u232 u233 u234 u235 u236 u237 u238 u239 u240 u241 u242 u243 u244 u245 : Value) :
    rrunBody.wp Try.prog R { tmps := #[.slice A code.length c, .slice Al l.length cl, .slice An answers.length cn, u3, u4, u5, .pointer (some ⟨g6, 0, none⟩), .pointer (some ⟨g7, 0, none⟩), .pointer (some ⟨g8, 0, none⟩), .int .i64 (i : Int), .int .i64 (used : Int), u11, u12, u13, u14, u15, u16, u17, u18, u19, u20, u21, u22, u23, u24, u25, u26, u27, u28, u29, u30, u31, u32, u33, u34, u35, u36, u37, u38, u39, u40, u41, u42, u43, u44, u45, u46, u47, u48, u49, u50, u51, u52, u53, u54, u55, u56, u57, u58, u59, u60, u61, u62, u63, u64, u65, u66, u67, u68, u69, u70, u71, u72, u73, u74, u75, u76, u77, u78, u79, u80, u81, u82, u83, u84, u85, u86, u87, u88, u89, u90, u91, u92, u93, u94, u95, u96, u97, u98, u99, u100, u101, u102, u103, u104, u105, u106, u107, u108, u109, u110, u111, u112, u113, u114, u115, u116, u117, u118, u119, u120, u121, u122, u123, u124, u125, u126, u127, u128, u129, u130, u131, u132, u133, u134, u135, u136, u137, u138, u139, u140, u141, u142, u143, u144, u145, u146, u147, u148, u149, u150, u151, u152, u153, u154, u155, u156, u157, u158, u159, u160, u161, u162, u163, u164, u165, u166, u167, u168, u169, u170, u171, u172, u173, u174, u175, u176, u177, u178, u179, u180, u181, u182, u183, u184, u185, u186, u187, u188, u189, u190, u191, u192, u193, u194, u195, u196, u197, u198, u199, u200, u201, u202, u203, u204, u205, u206, u207, u208, u209, u210, u211, u212, u213, u214, u215, u216, u217, u218, u219, u220, u221, u222, u223, u224, u225, u226, u227, u228, u229, u230, u231, u232, u233, u234, u235, u236, u237, u238, u239, u240, u241, u242, u243, u244, u245], defers := [] } wr := by
  obtain ⟨S, hC, hA, hi, hn, hx, hu, hal, hac, ⟨hd0, hd1⟩, ⟨ha0, ha1⟩, ⟨hb0, hb1⟩, hgo, hret⟩ := H
  have HC := Aside0.mk hC
  have HA := Aside0.mk hA
  have GO := Aside0.mk hgo
  have RET := Aside0.mk hret
  have HAC := Aside0.mk hac
  obtain ⟨ad1, ea, k0, k1, k2, k3, k4, k5, k6, k7⟩ := at_T40 (Kd.C_below HC.out S.HB) (i : Int) (by omega) (by omega)
  cases ea
  simp only [Int.toNat_natCast] at k0 k1 k2 k3 k4 k5 k6 k7
  rw [hx] at k0 k1 k2 k3 k4 k5 k6 k7
  dsimp only at k0 k1 k2 k3 k4 k5 k6 k7 hd0 hd1 ha0 ha1 hb0 hb1
  have q1 : ((i : Int) < (code.length : Int)) = True := eq_true (by omega)
  have q0 : (0 ≤ (i : Int)) = True := eq_true (by omega)
  have S0 := Aside0.mk S
  clear S hC hA hgo hret hx hac
  have KX : Aside0 ((wr.alloc (.cells #[.int .i64 12, .int .i64 d, .int .i64 a, .int .i64 b, .int .i64 loc, .int .i64 len, .int .i64 kk, .int .i64 tt] 40)).heap[wr.heap.size]? = some (.cells #[.int .i64 12, .int .i64 d, .int .i64 a, .int .i64 b, .int .i64 loc, .int .i64 len, .int .i64 kk, .int .i64 tt] 40 (0, 0))) := ⟨blk_new _ _⟩
  have S1 := Aside0.mk (S0.out.alloc (.cells #[.int .i64 12, .int .i64 d, .int .i64 a, .int .i64 b, .int .i64 loc, .int .i64 len, .int .i64 kk, .int .i64 tt] 40))
  unfold rrunBody Try.f17
  dsimp only
  go_wp2_with fail
  generalize hW1 : (wr.alloc (.cells #[.int .i64 12, .int .i64 d, .int .i64 a, .int .i64 b, .int .i64 loc, .int .i64 len, .int .i64 kk, .int .i64 tt] 40)) = W1 at KX S1 ⊢
  clear hW1 k0 k1 k2 k3 k4 k5 k6 k7 S0
  generalize wr.heap.size = bx at KX ⊢
  have x2 := blk_cell KX.out 2
  have x3 := blk_cell KX.out 3
  have hta := S1.out.ctemp a ha0 ha1
  have htb := S1.out.ctemp b hb0 hb1
  go_quiet (fail)
  generalize hW2 : W1.drewN nq = W2
  have KY : Aside0 (W2.heap[bx]? = some (.cells #[.int .i64 12, .int .i64 d, .int .i64 a, .int .i64 b, .int .i64 loc, .int .i64 len, .int .i64 kk, .int .i64 tt] 40 (0, 0))) := ⟨by rw [← hW2]; exact blk_drewN KX.out _⟩
  have S2 : Aside0 (Rr w W2 g6 g7 g8 T vt acts) := ⟨by rw [← hW2]; exact S1.out.drewN _⟩
  clear hW2 KX S1 x2 x3 hta htb
  have hl7 := blk_lt S2.out.b7
  have hl8 := blk_lt S2.out.b8
  have hlx := blk_lt KY.out
  have hl6 := blk_lt S2.out.b6
  have n78 := S2.out.n78
  have n68 := S2.out.n68
  have n67 := S2.out.n67
  have nx8 : ¬ bx = g8 := blk_ne KY.out S2.out.b8 (by decide)
  have nx7 : ¬ bx = g7 := blk_ne KY.out S2.out.b7 (by decide)
  have nx6 : ¬ bx = g6 := blk_ne KY.out S2.out.b6 (by decide)
  have x0 := blk_cell KY.out 0
  have x1 := blk_cell KY.out 1
  have x4 := blk_cell KY.out 4
  have x5 := blk_cell KY.out 5
  have x6 := blk_cell KY.out 6
  have x7 := blk_cell KY.out 7
  have y0 := blk_cell S2.out.b7 0
  have y1 := blk_cell S2.out.b7 1
  have yf := blk_frozen S2.out.b7
  have v0 := blk_cell S2.out.b6 0
  have v1_ := blk_cell S2.out.b6 1
  have vf := blk_frozen S2.out.b6
  have td := S2.out.ctemp d hd0 hd1
  have tf := blk_frozen S2.out.b8
  obtain ⟨Av, cv, rfl⟩ := Kd.R_slice S2.out.RT
  have HD0 := Aside0.mk (drop_cons answers used hz)
  have c9 : (used == answers.length) = false := beq_eq_false_iff_ne.2 (by omega)
  have c8 : ((used : Int) == (answers.length : Int)) = false := beq_eq_false_iff_ne.2 (by omega)
  have r1 : ((used : Int) < (answers.length : Int)) = True := eq_true (by omega)
  have r0 : (0 ≤ (used : Int)) = True := eq_true (by omega)
  have r2 : used ≤ 100000 := by omega
  obtain ⟨ad2, ea2, hx2⟩ := Kd.at_int (Kd.C_below HA.out S2.out.HB) (used : Int) (by omega) (by omega)
  cases ea2
  simp only [Int.toNat_natCast] at hx2
  generalize rd answers (used : Int) = n at HD0 hx2 hr
  have hst : stp ⟨12, d, a, b, loc, len, kk, tt⟩ i T (answers.drop used) = ⟨i + 1, 0, T, answers.drop (used + 1), [⟨5, loc, n, rd T b⟩]⟩ := by rw [HD0.out]; show (if n = rd T a then _ else _) = _; exact if_pos hr
  have HS := Aside0.mk hst
  have c1 : (n != rd T a) = false := by simpa using hr
  clear hst hr
  have SA := Aside0.mk (S2.out.alloc (.cells #[.int .i64 (5), .int .i64 (loc), .int .i64 (n), .int .i64 (rd T b)] 47))
  go_wp2_with (at_builtin; refine Kd.R_append k47 (w0 := w) w.heap.size rfl _ _ 29 47 _ 32 rfl Try.underlying29 info47 rfl (by decide) (by decide) (.slice Av acts.length cv) acts ⟨5, loc, n, rd T b⟩ [.int .i64 (5), .int .i64 (loc), .int .i64 (n), .int .i64 (rd T b)] (fun _ => True) (fun _ => False) rfl ?hx1 (k47_mkM _ _ _ ⟨5, loc, n, rd T b⟩) (fun _ h => h.elim) (fun _ _ => trivial) SA.out.RT SA.out.HB SA.out.HB.size ?hx2 ?_; (case hx1 => simp [Act.eval]); (case hx2 => (have := HAC.out; omega)); intro v9 w9 hR hB9 hg9 hat9; obtain ⟨A9, c9, rfl⟩ := Kd.R_slice hR; have S9 := Aside0.mk (SA.out.put_acts hg9 hB9 hR); have z7 := blk_cell (blk_grown SA.out.b7 hg9 (Kd.R_ne SA.out.RT SA.out.b7 (by decide))) 0; have f7 := blk_frozen (blk_grown SA.out.b7 hg9 (Kd.R_ne SA.out.RT SA.out.b7 (by decide))); clear hR hB9 hg9 hat9)
  have h9 := S9.out
  simp only [List.length_append, List.length_cons, List.length_nil, Nat.zero_add] at h9
  refine GO.out ⟨i + 1, 0, T, answers.drop (used + 1), [⟨5, loc, n, rd T b⟩]⟩ _ _ (used + 1) (.slice A9 (acts.length + 1) c9) HS.out rfl ?fr rfl (by omega) ?st
  case fr => unfold RrFrame; (repeat apply Exists.intro); exact rfl
  case st => exact h9
end Go.Proofs.Ytdmbnlpcfgphpaa.Q
namespace Go.Proofs.Ytdmbnlpcfgphpaa.Q
open Go.RowKit Go.Proofs.YtdmbnlpcfgphpaaW.PrintWords Go.Proofs.YtdmbnlpcfgphpaaW.PrintLast Go.Proofs.YtdmbnlpcfgphpaaW.PrintMore
set_option linter.unusedVariables false
set_option linter.unusedSimpArgs false
set_option maxHeartbeats 8000000 in
set_option maxRecDepth 100000 in
theorem rr_3 {A : Option Addr} {c : Nat} {code : List S40} {Al : Option Addr} {cl : Nat} {l : List S80} {An : Option Addr} {cn : Nat} {answers : List Int} {w wr : World} {g6 g7 g8 : Nat} {T : List Int} {vt : Value} {acts : List S47} {i used : Nat} {d a b loc len kk tt : Int} {u3 u4 u5 u18 u19 u20 u21 u22 : Value} {R : Exit → Act → World → Prop}
    (H : Rround A c code Al cl l An cn answers w wr g6 g7 g8 T vt acts i used ⟨3, d, a, b, loc, len, kk, tt⟩ u3 u4 u5 u18 u19 u20 u21 u22 R) (u11 u12 u13 u14 u15 u16 u17 u23 u24 u25 u26 u27 u28 u29 u30 u31 u32 u33 u34 u35 u36 u37 u38 u39 u40 u41 u42 u43 u44 u45 u46 u47 u48 u49 u50 u51 u52 u53 u54 u55 u56 u57 u58 u59 u60 u61 u62 u63 u64 u65 u66 u67 u68 u69 u70 u71 u72 u73 u74 u75 u76 u77 u78 u79 u80 u81 u82 u83 u84 u85 u86 u87 u88 u89 u90 u91 u92 u93 u94 u95 u96 u97 u98 u99 u100 u101 u102 u103 u104 u105 u106 u107 u108 u109 u110 u111 u112 u113 u114 u115 u116 u117 u118 u119 u120 u121 u122 u123 u124 u125 u126 u127 u128 u129 u130 u131 u132 u133 u134 u135 u136 u137 u138 u139 u140 u141 u142 u143 u144 u145 u146 u147 u148 u149 u150 u151 u152 u153 u154 u155 u156 u157 u158 u159 u160 u161 u162 u163 u164 u165 u166 u167 u168 u169 u170 u171 u172 u173 u174 u175 u176 u177 u178 u179 u180 u181 u182 u183 u184 u185 u186 u187 u188 u189 u190 u191 u192 u193 u194 u195 u196 u197 u198 u199 u200 u201 u202 u203 u204 u205 u206 u207 u208 u209 u210 u211 u212 u213 u214 u215 u216 u217 u218 u219 u220 u221 u222 u223 u224 u225 u226 u227 u228 u229 u230 u231 u232 u233 u234 u235 u236 u237 u238 u239 u240 u241 u242 u243 u244 u245 : Value) :
    rrunBody.wp Try.prog R { tmps := #[.slice A code.length c, .slice Al l.length cl, .slice An answers.length cn, u3, u4, u5, .pointer (some ⟨g6, 0, none⟩), .pointer (some ⟨g7, 0, none⟩), .pointer (some ⟨g8, 0, none⟩), .int .i64 (i : Int), .int .i64 (used : Int), u11, u12, u13, u14, u15, u16, u17, u18, u19, u20, u21, u22, u23, u24, u25, u26, u27, u28, u29, u30, u31, u32, u33, u34, u35, u36, u37, u38, u39, u40, u41, u42, u43, u44, u45, u46, u47, u48, u49, u50, u51, u52, u53, u54, u55, u56, u57, u58, u59, u60, u61, u62, u63, u64, u65, u66, u67, u68, u69, u70, u71, u72, u73, u74, u75, u76, u77, u78, u79, u80, u81, u82, u83, u84, u85, u86, u87, u88, u89, u90, u91, u92, u93, u94, u95, u96, u97, u98, u99, u100, u101, u102, u103, u104, u105, u106, u107, u108, u109, u110, u111, u112, u113, u114, u115, u116, u117, u118, u119, u120, u121, u122, u123, u124, u125, u126, u127, u128, u129, u130, u131, u132, u133, u134, u135, u136, u137, u138, u139, u140, u141, u142, u143, u144, u145, u146, u147, u148, u149, u150, u151, u152, u153, u154, u155, u156, u157, u158, u159, u160, u161, u162, u163, u164, u165, u166, u167, u168, u169, u170, u171, u172, u173, u174, u175, u176, u177, u178, u179, u180, u181, u182, u183, u184, u185, u186, u187, u188, u189, u190, u191, u192, u193, u194, u195, u196, u197, u198, u199, u200, u201, u202, u203, u204, u205, u206, u207, u208, u209, u210, u211, u212, u213, u214, u215, u216, u217, u218, u219, u220, u221, u222, u223, u224, u225, u226, u227, u228, u229, u230, u231, u232, u233, u234, u235, u236, u237, u238, u239, u240, u241, u242, u243, u244, u245], defers := [] } wr := by
  obtain ⟨S, hC, hA, hi, hn, hx, hu, hal, hac, ⟨hd0, hd1⟩, ⟨ha0, ha1⟩, ⟨hb0, hb1⟩, hgo, hret⟩ := H
  have HC := Aside0.mk hC
  have HA := Aside0.mk hA
  have GO := Aside0.mk hgo
  have RET := Aside0.mk hret
  have HAC := Aside0.mk hac
  obtain ⟨ad1, ea, k0, k1, k2, k3, k4, k5, k6, k7⟩ := at_T40 (Kd.C_below HC.out S.HB) (i : Int) (by omega) (by omega)
  cases ea
  simp only [Int.toNat_natCast] at k0 k1 k2 k3 k4 k5 k6 k7
  rw [hx] at k0 k1 k2 k3 k4 k5 k6 k7
  dsimp only at k0 k1 k2 k3 k4 k5 k6 k7 hd0 hd1 ha0 ha1 hb0 hb1
  have q1 : ((i : Int) < (code.length : Int)) = True := eq_true (by omega)
  have q0 : (0 ≤ (i : Int)) = True := eq_true (by omega)
  have S0 := Aside0.mk S
  clear S hC hA hgo hret hx hac
  have KX : Aside0 ((wr.alloc (.cells #[.int .i64 3, .int .i64 d, .int .i64 a, .int .i64 b, .int .i64 loc, .int .i64 len, .int .i64 kk, .int .i64 tt] 40)).heap[wr.heap.size]? = some (.cells #[.int .i64 3, .int .i64 d, .int .i64 a, .int .i64 b, .int .i64 loc, .int .i64 len, .int .i64 kk, .int .i64 tt] 40 (0, 0))) := ⟨blk_new _ _⟩
  have S1 := Aside0.mk (S0.out.alloc (.cells #[.int .i64 3, .int .i64 d, .int .i64 a, .int .i64 b, .int .i64 loc, .int .i64 len, .int .i64 kk, .int .i64 tt] 40))
  unfold rrunBody Try.f17
  dsimp only
  go_wp2_with fail
  generalize hW1 : (wr.alloc (.cells #[.int .i64 3, .int .i64 d, .int .i64 a, .int .i64 b, .int .i64 loc, .int .i64 len, .int .i64 kk, .int .i64 tt] 40)) = W1 at KX S1 ⊢
  clear hW1 k0 k1 k2 k3 k4 k5 k6 k7 S0
  generalize wr.heap.size = bx at KX ⊢
  have x2 := blk_cell KX.out 2
  have x3 := blk_cell KX.out 3
  have hta := S1.out.ctemp a ha0 ha1
  have htb := S1.out.ctemp b hb0 hb1
  go_quiet (fail)
  generalize hW2 : W1.drewN nq = W2
  have KY : Aside0 (W2.heap[bx]? = some (.cells #[.int .i64 3, .int .i64 d, .int .i64 a, .int .i64 b, .int .i64 loc, .int .i64 len, .int .i64 kk, .int .i64 tt] 40 (0, 0))) := ⟨by rw [← hW2]; exact blk_drewN KX.out _⟩
  have S2 : Aside0 (Rr w W2 g6 g7 g8 T vt acts) := ⟨by rw [← hW2]; exact S1.out.drewN _⟩
  clear hW2 KX S1 x2 x3 hta htb
  have hl7 := blk_lt S2.out.b7
  have hl8 := blk_lt S2.out.b8
  have hlx := blk_lt KY.out
  have hl6 := blk_lt S2.out.b6
  have n78 := S2.out.n78
  have n68 := S2.out.n68
  have n67 := S2.out.n67
  have nx8 : ¬ bx = g8 := blk_ne KY.out S2.out.b8 (by decide)
  have nx7 : ¬ bx = g7 := blk_ne KY.out S2.out.b7 (by decide)
  have nx6 : ¬ bx = g6 := blk_ne KY.out S2.out.b6 (by decide)
  have x0 := blk_cell KY.out 0
  have x1 := blk_cell KY.out 1
  have x4 := blk_cell KY.out 4
  have x5 := blk_cell KY.out 5
  have x6 := blk_cell KY.out 6
  have x7 := blk_cell KY.out 7
  have y0 := blk_cell S2.out.b7 0
  have y1 := blk_cell S2.out.b7 1
  have yf := blk_frozen S2.out.b7
  have v0 := blk_cell S2.out.b6 0
  have v1_ := blk_cell S2.out.b6 1
  have vf := blk_frozen S2.out.b6
  have td := S2.out.ctemp d hd0 hd1
  have tf := blk_frozen S2.out.b8
  obtain ⟨Av, cv, rfl⟩ := Kd.R_slice S2.out.RT
  go_wp2
  refine GO.out ⟨i + 1, 0, T.set d.toNat (wrap64 (rd T a - rd T b)), answers.drop used, []⟩ _ _ used (.slice Av acts.length cv) rfl rfl ?fr rfl (by omega) ?st
  case fr => unfold RrFrame; (repeat apply Exists.intro); exact rfl
  case st => show Rr w _ g6 g7 g8 _ _ (acts ++ []); rw [List.append_nil]; exact (S2.out.put_temp d _).alloc _
set_option maxHeartbeats 8000000 in
set_option maxRecDepth 100000 in
theorem rr_6n {A : Option Addr} {c : Nat} {code : List S40} {Al : Option Addr} {cl : Nat} {l : List S80} {An : Option Addr} {cn : Nat} {answers : List Int} {w wr : World} {g6 g7 g8 : Nat} {T : List Int} {vt : Value} {acts : List S47} {i used : Nat} {d a b loc len kk tt : Int} {u3 u4 u5 u18 u19 u20 u21 u22 : Value} {R : Exit → Act → World → Prop}
    (H : Rround A c code Al cl l An cn answers w wr g6 g7 g8 T vt acts i used ⟨6, d, a, b, loc, len, kk, tt⟩ u3 u4 u5 u18 u19 u20 u21 u22 R) (hz : used = answers.length) (u11 u12 u13 u14 u15 u16 u17 u23 u24 u25 u26 u27 u28 u29 u30 u31 u32 u33 u34 u35 u36 u37 u38 u39 u40 u41 u42 u43 u44 u45 u46 u47 u48 u49 u50 u51 u52 u53 u54 u55 u56 u57 u58 u59 u60 u61 u62 u63 u64 u65 u66 u67 u68 u69 u70 u71 u72 u73 u74 u75 u76 u77 u78 u79 u80 u81 u82 u83 u84 u85 u86 u87 u88 u89 u90 u91 u92 u93 u94 u95 u96 u97 u98 u99 u100 u101 u102 u103 u104 u105 u106 u107 u108 u109 u110 u111 u112 u113 u114 u115 u116 u117 u118 u119 u120 u121 u122 u123 u124 u125 u126 u127 u128 u129 u130 u131 u132 u133 u134 u135 u136 u137 u138 u139 u140 u141 u142 u143 u144 u145 u146 u147 u148 u149 u150 u151 u152 u153 u154 u155 u156 u157 u158 u159 u160 u161 u162 u163 u164 u165 u166 u167 u168 u169 u170 u171 u172 u173 u174 u175 u176 u177 u178 u179 u180 u181 u182 u183 u184 u185 u186 u187 u188 u189 u190 u191 u192 u193 u194 u195 u196 u197 u198 u199 u200 u201 u202 u203 u204 u205 u206 u207 u208 u209 u210 u211 u212 u213 u214 u215 u216 u217 u218 u219 u220 u221 u222 u223 u224 u225 u226 u227 u228 u229 u230 u231 u232 u233 u234 u235 u236 u237 u238 u239 u240 u241 u242 u243 u244 u245 : Value) :
    rrunBody.wp Try.prog R { tmps := #[.slice A code.length c, .slice Al l.length cl, .slice An answers.length cn, u3, u4, u5, .pointer (some ⟨g6, 0, none⟩), .pointer (some ⟨g7, 0, none⟩), .pointer (some ⟨g8, 0, none⟩), .int .i64 (i : Int), .int .i64 (used : Int), u11, u12, u13, u14, u15, u16, u17, u18, u19, u20, u21, u22, u23, u24, u25, u26, u27, u28, u29, u30, u31, u32, u33, u34, u35, u36, u37, u38, u39, u40, u41, u42, u43, u44, u45, u46, u47, u48, u49, u50, u51, u52, u53, u54, u55, u56, u57, u58, u59, u60, u61, u62, u63, u64, u65, u66, u67, u68, u69, u70, u71, u72, u73, u74, u75, u76, u77, u78, u79, u80, u81, u82, u83, u84, u85, u86, u87, u88, u89, u90, u91, u92, u93, u94, u95, u96, u97, u98, u99, u100, u101, u102, u103, u104, u105, u106, u107, u108, u109, u110, u111, u112, u113, u114, u115, u116, u117, u118, u119, u120, u121, u122, u123, u124, u125, u126, u127, u128, u129, u130, u131, u132, u133, u134, u135, u136, u137, u138, u139, u140, u141, u142, u143, u144, u145, u146, u147, u148, u149, u150, u151, u152, u153, u154, u155, u156, u157, u158, u159, u160, u161, u162, u163, u164, u165, u166, u167, u168, u169, u170, u171, u172, u173, u174, u175, u176, u177, u178, u179, u180, u181, u182, u183, u184, u185, u186, u187, u188, u189, u190, u191, u192, u193, u194, u195, u196, u197, u198, u199, u200, u201, u202, u203, u204, u205, u206, u207, u208, u209, u210, u211, u212, u213, u214, u215, u216, u217, u218, u219, u220, u221, u222, u223, u224, u225, u226, u227, u228, u229, u230, u231, u232, u233, u234, u235, u236, u237, u238, u239, u240, u241, u242, u243, u244, u245], defers := [] } wr := by
  obtain ⟨S, hC, hA, hi, hn, hx, hu, hal, hac, ⟨hd0, hd1⟩, ⟨ha0, ha1⟩, ⟨hb0, hb1⟩, hgo, hret⟩ := H
  have HC := Aside0.mk hC
  have HA := Aside0.mk hA
  have GO := Aside0.mk hgo
  have RET := Aside0.mk hret
  have HAC := Aside0.mk hac
  obtain ⟨ad1, ea, k0, k1, k2, k3, k4, k5, k6, k7⟩ := at_T40 (Kd.C_below HC.out S.HB) (i : Int) (by omega) (by omega)
  cases ea
  simp only [Int.toNat_natCast] at k0 k1 k2 k3 k4 k5 k6 k7
  rw [hx] at k0 k1 k2 k3 k4 k5 k6 k7
  dsimp only at k0 k1 k2 k3 k4 k5 k6 k7 hd0 hd1 ha0 ha1 hb0 hb1
  have q1 : ((i : Int) < (code.length : Int)) = True := eq_true (by omega)
  have q0 : (0 ≤ (i : Int)) = True := eq_true (by omega)
  have S0 := Aside0.mk S
  clear S hC hA hgo hret hx hac
  have KX : Aside0 ((wr.alloc (.cells #[.int .i64 6, .int .i64 d, .int .i64 a, .int .i64 b, .int .i64 loc, .int .i64 len, .int .i64 kk, .int .i64 tt] 40)).heap[wr.heap.size]? = some (.cells #[.int .i64 6, .int .i64 d, .int .i64 a, .int .i64 b, .int .i64 loc, .int .i64 len, .int .i64 kk, .int .i64 tt] 40 (0, 0))) := ⟨blk_new _ _⟩
  have S1 := Aside0.mk (S0.out.alloc (.cells #[.int .i64 6, .int .i64 d, .int .i64 a, .int .i64 b, .int .i64 loc, .int .i64 len, .int .i64 kk, .int .i64 tt] 40))
  unfold rrunBody Try.f17
  dsimp only
  go_wp2_with fail
  generalize hW1 : (wr.alloc (.cells #[.int .i64 6, .int .i64 d, .int .i64 a, .int .i64 b, .int .i64 loc, .int .i64 len, .int .i64 kk, .int .i64 tt] 40)) = W1 at KX S1 ⊢
  clear hW1 k0 k1 k2 k3 k4 k5 k6 k7 S0
  generalize wr.heap.size = bx at KX ⊢
  have x2 := blk_cell KX.out 2
  have x3 := blk_cell KX.out 3
  have hta := S1.out.ctemp a ha0 ha1
  have htb := S1.out.ctemp b hb0 hb1
  go_quiet (fail)
  generalize hW2 : W1.drewN nq = W2
  have KY : Aside0 (W2.heap[bx]? = some (.cells #[.int .i64 6, .int .i64 d, .int .i64 a, .int .i64 b, .int .i64 loc, .int .i64 len, .int .i64 kk, .int .i64 tt] 40 (0, 0))) := ⟨by rw [← hW2]; exact blk_drewN KX.out _⟩
  have S2 : Aside0 (Rr w W2 g6 g7 g8 T vt acts) := ⟨by rw [← hW2]; exact S1.out.drewN _⟩
  clear hW2 KX S1 x2 x3 hta htb
  have hl7 := blk_lt S2.out.b7
  have hl8 := blk_lt S2.out.b8
  have hlx := blk_lt KY.out
  have hl6 := blk_lt S2.out.b6
  have n78 := S2.out.n78
  have n68 := S2.out.n68
  have n67 := S2.out.n67
  have nx8 : ¬ bx = g8 := blk_ne KY.out S2.out.b8 (by decide)
  have nx7 : ¬ bx = g7 := blk_ne KY.out S2.out.b7 (by decide)
  have nx6 : ¬ bx = g6 := blk_ne KY.out S2.out.b6 (by decide)
  have x0 := blk_cell KY.out 0
  have x1 := blk_cell KY.out 1
  have x4 := blk_cell KY.out 4
  have x5 := blk_cell KY.out 5
  have x6 := blk_cell KY.out 6
  have x7 := blk_cell KY.out 7
  have y0 := blk_cell S2.out.b7 0
  have y1 := blk_cell S2.out.b7 1
  have yf := blk_frozen S2.out.b7
  have v0 := blk_cell S2.out.b6 0
  have v1_ := blk_cell S2.out.b6 1
  have vf := blk_frozen S2.out.b6
  have td := S2.out.ctemp d hd0 hd1
  have tf := blk_frozen S2.out.b8
  obtain ⟨Av, cv, rfl⟩ := Kd.R_slice S2.out.RT
  have hu2 : used = answers.length := hz
  have HD0 : Aside0 (answers.drop used = []) := ⟨by rw [hu2]; simp⟩
  have c9 : (used == answers.length) = true := by rw [hu2]; simp
  have c8 : ((used : Int) == (answers.length : Int)) = true := by rw [hu2]; simp
  clear hz hu2
  have hst : stp ⟨6, d, a, b, loc, len, kk, tt⟩ i T (answers.drop used) = ⟨0, 4, T, answers.drop used, []⟩ := by rw [HD0.out]; rfl
  have HS := Aside0.mk hst
  clear hst
  go_wp2
  have hfin := S2.out.fin 4 _ rfl
  exact RET.out ⟨0, 4, T, answers.drop used, []⟩ _ _ HS.out (show (4 : Int) ≠ 0 by decide) rfl rfl rfl hfin.2.2.1 hfin.2.2.2 hfin.1 hfin.2.1
set_option maxHeartbeats 8000000 in
set_option maxRecDepth 100000 in
theorem rr_12n {A : Option Addr} {c : Nat} {code : List S40} {Al : Option Addr} {cl : Nat} {l : List S80} {An : Option Addr} {cn : Nat} {answers : List Int} {w wr : World} {g6 g7 g8 : Nat} {T : List Int} {vt : Value} {acts : List S47} {i used : Nat} {d a b loc len kk tt : Int} {u3 u4 u5 u18 u19 u20 u21 u22 : Value} {R : Exit → Act → World → Prop}
    (H : Rround A c code Al cl l An cn answers w wr g6 g7 g8 T vt acts i used ⟨12, d, a, b, loc, len, kk, tt⟩ u3 u4 u5 u18 u19 u20 u21 u22 R) (hz : used = answers.length) (u11 u12 u13 u14 u15 u16 u17 u23 u24 u25 u26 u27 u28 u29 u30 u31 u32 u33 u34 u35 u36 u37 u38 u39 u40 u41 u42 u43 u44 u45 u46 u47 u48 u49 u50 u51 u52 u53 u54 u55 u56 u57 u58 u59 u60 u61 u62 u63 u64 u65 u66 u67 u68 u69 u70 u71 u72 u73 u74 u75 u76 u77 u78 u79 u80 u81 u82 u83 u84 u85 u86 u87 u88 u89 u90 u91 u92 u93 u94 u95 u96 u97 u98 u99 u100 u101 u102 u103 u104 u105 u106 u107 u108 u109 u110 u111 u112 u113 u114 u115 u116 u117 u118 u119 u120 u121 u122 u123 u124 u125 u126 u127 u128 u129 u130 u131 u132 u133 u134 u135 u136 u137 u138 u139 u140 u141 u142 u143 u144 u145 u146 u147 u148 u149 u150 u151 u152 u153 u154 u155 u156 u157 u158 u159 u160 u161 u162 u163 u164 u165 u166 u167 u168 u169 u170 u171 u172 u173 u174 u175 u176 u177 u178 u179 u180 u181 u182 u183 u184 u185 u186 u187 u188 u189 u190 u191 u192 u193 u194 u195 u196 u197 u198 u199 u200 u201 u202 u203 u204 u205 u206 u207 u208 u209 u210 u211 u212 u213 u214 u215 u216 u217 u218 u219 u220 u221 u222 u223 u224 u225 u226 u227 u228 u229 u230 u231 u232 u233 u234 u235 u236 u237 u238 u239 u240 u241 u242 u243 u244 u245 : Value) :
    rrunBody.wp Try.prog R { tmps := #[.slice A code.length c, .slice Al l.length cl, .slice An answers.length cn, u3, u4, u5, .pointer (some ⟨g6, 0, none⟩), .pointer (some ⟨g7, 0, none⟩), .pointer (some ⟨g8, 0, none⟩), .int .i64 (i : Int), .int .i64 (used : Int), u11, u12, u13, u14, u15, u16, u17, u18, u19, u20, u21, u22, u23, u24, u25, u26, u27, u28, u29, u30, u31, u32, u33, u34, u35, u36, u37, u38, u39, u40, u41, u42, u43, u44, u45, u46, u47, u48, u49, u50, u51, u52, u53, u54, u55, u56, u57, u58, u59, u60, u61, u62, u63, u64, u65, u66, u67, u68, u69, u70, u71, u72, u73, u74, u75, u76, u77, u78, u79, u80, u81, u82, u83, u84, u85, u86, u87, u88, u89, u90, u91, u92, u93, u94, u95, u96, u97, u98, u99, u100, u101, u102, u103, u104, u105, u106, u107, u108, u109, u110, u111, u112, u113, u114, u115, u116, u117, u118, u119, u120, u121, u122, u123, u124, u125, u126, u127, u128, u129, u130, u131, u132, u133, u134, u135, u136, u137, u138, u139, u140, u141, u142, u143, u144, u145, u146, u147, u148, u149, u150, u151, u152, u153, u154, u155, u156, u157, u158, u159, u160, u161, u162, u163, u164, u165, u166, u167, u168, u169, u170, u171, u172, u173, u174, u175, u176, u177, u178, u179, u180, u181, u182, u183, u184, u185, u186, u187, u188, u189, u190, u191, u192, u193, u194, u195, u196, u197, u198, u199, u200, u201, u202, u203, u204, u205, u206, u207, u208, u209, u210, u211, u212, u213, u214, u215, u216, u217, u218, u219, u220, u221, u222, u223, u224, u225, u226, u227, u228, u229, u230, u231, u232, u233, u234, u235, u236, u237, u238, u239, u240, u241, u242, u243, u244, u245], defers := [] } wr := by
  obtain ⟨S, hC, hA, hi, hn, hx, hu, hal, hac, ⟨hd0, hd1⟩, ⟨ha0, ha1⟩, ⟨hb0, hb1⟩, hgo, hret⟩ := H
  have HC := Aside0.mk hC
  have HA := Aside0.mk hA
  have GO := Aside0.mk hgo
  have RET := Aside0.mk hret
  have HAC := Aside0.mk hac
  obtain ⟨ad1, ea, k0, k1, k2, k3, k4, k5, k6, k7⟩ := at_T40 (Kd.C_below HC.out S.HB) (i : Int) (by omega) (by omega)
  cases ea
  simp only [Int.toNat_natCast] at k0 k1 k2 k3 k4 k5 k6 k7
  rw [hx] at k0 k1 k2 k3 k4 k5 k6 k7
  dsimp only at k0 k1 k2 k3 k4 k5 k6 k7 hd0 hd1 ha0 ha1 hb0 hb1
  have q1 : ((i : Int) < (code.length : Int)) = True := eq_true (by omega)
  have q0 : (0 ≤ (i : Int)) = True := eq_true (by omega)
  have S0 := Aside0.mk S
  clear S hC hA hgo hret hx hac
  have KX : Aside0 ((wr.alloc (.cells #[.int .i64 12, .int .i64 d, .int .i64 a, .int .i64 b, .int .i64 loc, .int .i64 len, .int .i64 kk, .int .i64 tt] 40)).heap[wr.heap.size]? = some (.cells #[.int .i64 12, .int .i64 d, .int .i64 a, .int .i64 b, .int .i64 loc, .int .i64 len, .int .i64 kk, .int .i64 tt] 40 (0, 0))) := ⟨blk_new _ _⟩
  have S1 := Aside0.mk (S0.out.alloc (.cells #[.int .i64 12, .int .i64 d, .int .i64 a, .int .i64 b, .int .i64 loc, .int .i64 len, .int .i64 kk, .int .i64 tt] 40))
  unfold rrunBody Try.f17
  dsimp only
  go_wp2_with fail
  generalize hW1 : (wr.alloc (.cells #[.int .i64 12, .int .i64 d, .int .i64 a, .int .i64 b, .int .i64 loc, .int .i64 len, .int .i64 kk, .int .i64 tt] 40)) = W1 at KX S1 ⊢
  clear hW1 k0 k1 k2 k3 k4 k5 k6 k7 S0
  generalize wr.heap.size = bx at KX ⊢
  have x2 := blk_cell KX.out 2
  have x3 := blk_cell KX.out 3
  have hta := S1.out.ctemp a ha0 ha1
  have htb := S1.out.ctemp b hb0 hb1
  go_quiet (fail)
  generalize hW2 : W1.drewN nq = W2
  have KY : Aside0 (W2.heap[bx]? = some (.cells #[.int .i64 12, .int .i64 d, .int .i64 a, .int .i64 b, .int .i64 loc, .int .i64 len, .int .i64 kk, .int .i64 tt] 40 (0, 0))) := ⟨by rw [← hW2]; exact blk_drewN KX.out _⟩
  have S2 : Aside0 (Rr w W2 g6 g7 g8 T vt acts) := ⟨by rw [← hW2]; exact S1.out.drewN _⟩
  clear hW2 KX S1 x2 x3 hta htb
  have hl7 := blk_lt S2.out.b7
  have hl8 := blk_lt S2.out.b8
  have hlx := blk_lt KY.out
  have hl6 := blk_lt S2.out.b6
  have n78 := S2.out.n78
  have n68 := S2.out.n68
  have n67 := S2.out.n67
  have nx8 : ¬ bx = g8 := blk_ne KY.out S2.out.b8 (by decide)
  have nx7 : ¬ bx = g7 := blk_ne KY.out S2.out.b7 (by decide)
  have nx6 : ¬ bx = g6 := blk_ne KY.out S2.out.b6 (by decide)
  have x0 := blk_cell KY.out 0
  have x1 := blk_cell KY.out 1
  have x4 := blk_cell KY.out 4
  have x5 := blk_cell KY.out 5
  have x6 := blk_cell KY.out 6
  have x7 := blk_cell KY.out 7
  have y0 := blk_cell S2.out.b7 0
  have y1 := blk_cell S2.out.b7 1
  have yf := blk_frozen S2.out.b7
  have v0 := blk_cell S2.out.b6 0
  have v1_ := blk_cell S2.out.b6 1
  have vf := blk_frozen S2.out.b6
  have td := S2.out.ctemp d hd0 hd1
  have tf := blk_frozen S2.out.b8
  obtain ⟨Av, cv, rfl⟩ := Kd.R_slice S2.out.RT
  have hu2 : used = answers.length := hz
  have HD0 : Aside0 (answers.drop used = []) := ⟨by rw [hu2]; simp⟩
  have c9 : (used == answers.length) = true := by rw [hu2]; simp
  have c8 : ((used : Int) == (answers.length : Int)) = true := by rw [hu2]; simp
  clear hz hu2
  have hst : stp ⟨12, d, a, b, loc, len, kk, tt⟩ i T (answers.drop used) = ⟨0, 4, T, answers.drop used, []⟩ := by rw [HD0.out]; rfl
  have HS := Aside0.mk hst
  clear hst
  go_wp2
  have hfin := S2.out.fin 4 _ rfl
  exact RET.out ⟨0, 4, T, answers.drop used, []⟩ _ _ HS.out (show (4 : Int) ≠ 0 by decide) rfl rfl rfl hfin.2.2.1 hfin.2.2.2 hfin.1 hfin.2.1
set_option maxHeartbeats 8000000 in
set_option maxRecDepth 100000 in
theorem rr_11 {A : Option Addr} {c : Nat} {code : List S40} {Al : Option Addr} {cl : Nat} {l : List S80} {An : Option Addr} {cn : Nat} {answers : List Int} {w wr : World} {g6 g7 g8 : Nat} {T : List Int} {vt : Value} {acts : List S47} {i used : Nat} {d a b loc len kk tt : Int} {u3 u4 u5 u18 u19 u20 u21 u22 : Value} {R : Exit → Act → World → Prop}
    (H : Rround A c code Al cl l An cn answers w wr g6 g7 g8 T vt acts i used ⟨11, d, a, b, loc, len, kk, tt⟩ u3 u4 u5 u18 u19 u20 u21 u22 R) (hz : used < answers.length) (u11 u12 u13 u14 u15 u16 u17 u23 u24 u25 u26 u27 u28 u29 u30 u31 u32 u33 u34 u35 u36 u37 u38 u39 u40 u41 u42 u43 u44 u45 u46 u47 u48 u49 u50 u51 u52 u53 u54 u55 u56 u57 u58 u59 u60 u61 u62 u63 u64 u65 u66 u67 u68 u69 u70 u71 u72 u73 u74 u75 u76 u77 u78 u79 u80 u81 u82 u83 u84 u85 u86 u87 u88 u89 u90 u91 u92 u93 u94 u95 u96 u97 u98 u99 u100 u101 u102 u103 u104 u105 u106 u107 u108 u109 u110 u111 u112 u113 u114 u115 u116 u117 u118 u119 u120 u121 u122 u123 u124 u125 u126 u127 u128 u129 u130 u131 u132 u133 u134 u135 u136 u137 u138 u139 u140 u141 u142 u143 u144 u145 u146 u147 u148 u149 u150 u151 u152 u153 u154 u155 u156 u157 u158 u159 u160 u161 u162 u163 u164 u165 u166 u167 u168 u169 u170 u171 u172 u173 u174 u175 u176 u177 u178 u179 u180 u181 u182 u183 u184 u185 u186 u187 u188 u189 u190 u191 u192 u193 u194 u195 u196 u197 u198 u199 u200 u201 u202 u203 u204 u205 u206 u207 u208 u209 u210 u211 u212 u213 u214 u215 u216 u217 u218 u219 u220 u221 u222 u223 u224 u225 u226 u227 u228 u229 u230 u231 u232 u233 u234 u235 u236 u237 u238 u239 u240 u241 u242 u243 u244 u245 : Value) :
    rrunBody.wp Try.prog R { tmps := #[.slice A code.length c, .slice Al l.length cl, .slice An answers.length cn, u3, u4, u5, .pointer (some ⟨g6, 0, none⟩), .pointer (some ⟨g7, 0, none⟩), .pointer (some ⟨g8, 0, none⟩), .int .i64 (i : Int), .int .i64 (used : Int), u11, u12, u13, u14, u15, u16, u17, u18, u19, u20, u21, u22, u23, u24, u25, u26, u27, u28, u29, u30, u31, u32, u33, u34, u35, u36, u37, u38, u39, u40, u41, u42, u43, u44, u45, u46, u47, u48, u49, u50, u51, u52, u53, u54, u55, u56, u57, u58, u59, u60, u61, u62, u63, u64, u65, u66, u67, u68, u69, u70, u71, u72, u73, u74, u75, u76, u77, u78, u79, u80, u81, u82, u83, u84, u85, u86, u87, u88, u89, u90, u91, u92, u93, u94, u95, u96, u97, u98, u99, u100, u101, u102, u103, u104, u105, u106, u107, u108, u109, u110, u111, u112, u113, u114, u115, u116, u117, u118, u119, u120, u121, u122, u123, u124, u125, u126, u127, u128, u129, u130, u131, u132, u133, u134, u135, u136, u137, u138, u139, u140, u141, u142, u143, u144, u145, u146, u147, u148, u149, u150, u151, u152, u153, u154, u155, u156, u157, u158, u159, u160, u161, u162, u163, u164, u165, u166, u167, u168, u169, u170, u171, u172, u173, u174, u175, u176, u177, u178, u179, u180, u181, u182, u183, u184, u185, u186, u187, u188, u189, u190, u191, u192, u193, u194, u195, u196, u197, u198, u199, u200, u201, u202, u203, u204, u205, u206, u207, u208, u209, u210, u211, u212, u213, u214, u215, u216, u217, u218, u219, u220, u221, u222, u223, u224, u225, u226, u227, u228, u229, u230, u231, u232, u233, u234, u235, u236, u237, u238, u239, u240, u241, u242, u243, u244, u245], defers := [] } wr := by
  obtain ⟨S, hC, hA, hi, hn, hx, hu, hal, hac, ⟨hd0, hd1⟩, ⟨ha0, ha1⟩, ⟨hb0, hb1⟩, hgo, hret⟩ := H
  have HC := Aside0.mk hC
  have HA := Aside0.mk hA
  have GO := Aside0.mk hgo
  have RET := Aside0.mk hret
  have HAC := Aside0.mk hac
  obtain ⟨ad1, ea, k0, k1, k2, k3, k4, k5, k6, k7⟩ := at_T40 (Kd.C_below HC.out S.HB) (i : Int) (by omega) (by omega)
  cases ea
  simp only [Int.toNat_natCast] at k0 k1 k2 k3 k4 k5 k6 k7
  rw [hx] at k0 k1 k2 k3 k4 k5 k6 k7
  dsimp only at k0 k1 k2 k3 k4 k5 k6 k7 hd0 hd1 ha0 ha1 hb0 hb1
  have q1 : ((i : Int) < (code.length : Int)) = True := eq_true (by omega)
  have q0 : (0 ≤ (i : Int)) = True := eq_true (by omega)
  have S0 := Aside0.mk S
  clear S hC hA hgo hret hx hac
  have KX : Aside0 ((wr.alloc (.cells #[.int .i64 11, .int .i64 d, .int .i64 a, .int .i64 b, .int .i64 loc, .int .i64 len, .int .i64 kk, .int .i64 tt] 40)).heap[wr.heap.size]? = some (.cells #[.int .i64 11, .int .i64 d, .int .i64 a, .int .i64 b, .int .i64 loc, .int .i64 len, .int .i64 kk, .int .i64 tt] 40 (0, 0))) := ⟨blk_new _ _⟩
  have S1 := Aside0.mk (S0.out.alloc (.cells #[.int .i64 11, .int .i64 d, .int .i64 a, .int .i64 b, .int .i64 loc, .int .i64 len, .int .i64 kk, .int .i64 tt] 40))
  unfold rrunBody Try.f17
  dsimp only
  go_wp2_with fail
  generalize hW1 : (wr.alloc (.cells #[.int .i64 11, .int .i64 d, .int .i64 a, .int .i64 b, .int .i64 loc, .int .i64 len, .int .i64 kk, .int .i64 tt] 40)) = W1 at KX S1 ⊢
  clear hW1 k0 k1 k2 k3 k4 k5 k6 k7 S0
  generalize wr.heap.size = bx at KX ⊢
  have x2 := blk_cell KX.out 2
  have x3 := blk_cell KX.out 3
  have hta := S1.out.ctemp a ha0 ha1
  have htb := S1.out.ctemp b hb0 hb1
  go_quiet (fail)
  generalize hW2 : W1.drewN nq = W2
  have KY : Aside0 (W2.heap[bx]? = some (.cells #[.int .i64 11, .int .i64 d, .int .i64 a, .int .i64 b, .int .i64 loc, .int .i64 len, .int .i64 kk, .int .i64 tt] 40 (0, 0))) := ⟨by rw [← hW2]; exact blk_drewN KX.out _⟩
  have S2 : Aside0 (Rr w W2 g6 g7 g8 T vt acts) := ⟨by rw [← hW2]; exact S1.out.drewN _⟩
  clear hW2 KX S1 x2 x3 hta htb
  have hl7 := blk_lt S2.out.b7
  have hl8 := blk_lt S2.out.b8
  have hlx := blk_lt KY.out
  have hl6 := blk_lt S2.out.b6
  have n78 := S2.out.n78
  have n68 := S2.out.n68
  have n67 := S2.out.n67
  have nx8 : ¬ bx = g8 := blk_ne KY.out S2.out.b8 (by decide)
  have nx7 : ¬ bx = g7 := blk_ne KY.out S2.out.b7 (by decide)
  have nx6 : ¬ bx = g6 := blk_ne KY.out S2.out.b6 (by decide)
  have x0 := blk_cell KY.out 0
  have x1 := blk_cell KY.out 1
  have x4 := blk_cell KY.out 4
  have x5 := blk_cell KY.out 5
  have x6 := blk_cell KY.out 6
  have x7 := blk_cell KY.out 7
  have y0 := blk_cell S2.out.b7 0
  have y1 := blk_cell S2.out.b7 1
  have yf := blk_frozen S2.out.b7
  have v0 := blk_cell S2.out.b6 0
  have v1_ := blk_cell S2.out.b6 1
  have vf := blk_frozen S2.out.b6
  have td := S2.out.ctemp d hd0 hd1
  have tf := blk_frozen S2.out.b8
  obtain ⟨Av, cv, rfl⟩ := Kd.R_slice S2.out.RT
  have HD0 := Aside0.mk (drop_cons answers used hz)
  have c9 : (used == answers.length) = false := beq_eq_false_iff_ne.2 (by omega)
  have c8 : ((used : Int) == (answers.length : Int)) = false := beq_eq_false_iff_ne.2 (by omega)
  have r1 : ((used : Int) < (answers.length : Int)) = True := eq_true (by omega)
  have r0 : (0 ≤ (used : Int)) = True := eq_true (by omega)
  have r2 : used ≤ 100000 := by omega
  obtain ⟨ad2, ea2, hx2⟩ := Kd.at_int (Kd.C_below HA.out S2.out.HB) (used : Int) (by omega) (by omega)
  cases ea2
  simp only [Int.toNat_natCast] at hx2
  generalize rd answers (used : Int) = n at HD0 hx2
  have hst : stp ⟨11, d, a, b, loc, len, kk, tt⟩ i T (answers.drop used) = ⟨i + 1, 0, T.set d.toNat n, answers.drop (used + 1), [⟨5, loc, n, wrap64 (n + rd T a)⟩]⟩ := by rw [HD0.out]; rfl
  have HS := Aside0.mk hst
  clear hst
  have SA := Aside0.mk ((S2.out.put_temp d n).alloc (.cells #[.int .i64 (5), .int .i64 (loc), .int .i64 (n), .int .i64 (wrap64 (n + rd T a))] 47))
  go_wp2_with (at_builtin; refine Kd.R_append k47 (w0 := w) w.heap.size rfl _ _ 29 47 _ 32 rfl Try.underlying29 info47 rfl (by decide) (by decide) (.slice Av acts.length cv) acts ⟨5, loc, n, wrap64 (n + rd T a)⟩ [.int .i64 (5), .int .i64 (loc), .int .i64 (n), .int .i64 (wrap64 (n + rd T a))] (fun _ => True) (fun _ => False) rfl ?hx1 (k47_mkM _ _ _ ⟨5, loc, n, wrap64 (n + rd T a)⟩) (fun _ h => h.elim) (fun _ _ => trivial) SA.out.RT SA.out.HB SA.out.HB.size ?hx2 ?_; (case hx1 => simp [Act.eval]); (case hx2 => (have := HAC.out; omega)); intro v9 w9 hR hB9 hg9 hat9; obtain ⟨A9, c9, rfl⟩ := Kd.R_slice hR; have S9 := Aside0.mk (SA.out.put_acts hg9 hB9 hR); have z7 := blk_cell (blk_grown SA.out.b7 hg9 (Kd.R_ne SA.out.RT SA.out.b7 (by decide))) 0; have f7 := blk_frozen (blk_grown SA.out.b7 hg9 (Kd.R_ne SA.out.RT SA.out.b7 (by decide))); clear hR hB9 hg9 hat9)
  have h9 := S9.out
  simp only [List.length_append, List.length_cons, List.length_nil, Nat.zero_add] at h9
  refine GO.out ⟨i + 1, 0, T.set d.toNat n, answers.drop (used + 1), [⟨5, loc, n, wrap64 (n + rd T a)⟩]⟩ _ _ (used + 1) (.slice A9 (acts.length + 1) c9) HS.out rfl ?fr rfl (by omega) ?st
  case fr => unfold RrFrame; (repeat apply Exists.intro); exact rfl
  case st => exact h9
set_option maxHeartbeats 8000000 in
set_option maxRecDepth 100000 in
theorem rr_9 {A : Option Addr} {c : Nat} {code : List S40} {Al : Option Addr} {cl : Nat} {l : List S80} {An : Option Addr} {cn : Nat} {answers : List Int} {w wr : World} {g6 g7 g8 : Nat} {T : List Int} {vt : Value} {acts : List S47} {i used : Nat} {d a b loc len kk tt : Int} {u3 u4 u5 u18 u19 u20 u21 u22 : Value} {R : Exit → Act → World → Prop}
    (H : Rround A c code Al cl l An cn answers w wr g6 g7 g8 T vt acts i used ⟨9, d, a, b, loc, len, kk, tt⟩ u3 u4 u5 u18 u19 u20 u21 u22 R) (u11 u12 u13 u14 u15 u16 u17 u23 u24 u25 u26 u27 u28 u29 u30 u31 u32 u33 u34 u35 u36 u37 u38 u39 u40 u41 u42 u43 u44 u45 u46 u47 u48 u49 u50 u51 u52 u53 u54 u55 u56 u57 u58 u59 u60 u61 u62 u63 u64 u65 u66 u67 u68 u69 u70 u71 u72 u73 u74 u75 u76 u77 u78 u79 u80 u81 u82 u83 u84 u85 u86 u87 u88 u89 u90 u91 u92 u93 u94 u95 u96 u97 u98 u99 u100 u101 u102 u103 u104 u105 u106 u107 u108 u109 u110 u111 u112 u113 u114 u115 u116 u117 u118 u119 u120 u121 u122 u123 u124 u125 u126 u127 u128 u129 u130 u131 u132 u133 u134 u135 u136 u137 u138 u139 u140 u141 u142 u143 u144 u145 u146 u147 u148 u149 u150 u151 u152 u153 u154 u155 u156 u157 u158 u159 u160 u161 u162 u163 u164 u165 u166 u167 u168 u169 u170 u171 u172 u173 u174 u175 u176 u177 u178 u179 u180 u181 u182 u183 u184 u185 u186 u187 u188 u189 u190 u191 u192 u193 u194 u195 u196 u197 u198 u199 u200 u201 u202 u203 u204 u205 u206 u207 u208 u209 u210 u211 u212 u213 u214 u215 u216 u217 u218 u219 u220 u221 u222 u223 u224 u225 u226 u227 u228 u229 u230 u231 u232 u233 u234 u235 u236 u237 u238 u239 u240 u241 u242 u243 u244 u245 : Value) :
    rrunBody.wp Try.prog R { tmps := #[.slice A code.length c, .slice Al l.length cl, .slice An answers.length cn, u3, u4, u5, .pointer (some ⟨g6, 0, none⟩), .pointer (some ⟨g7, 0, none⟩), .pointer (some ⟨g8, 0, none⟩), .int .i64 (i : Int), .int .i64 (used : Int), u11, u12, u13, u14, u15, u16, u17, u18, u19, u20, u21, u22, u23, u24, u25, u26, u27, u28, u29, u30, u31, u32, u33, u34, u35, u36, u37, u38, u39, u40, u41, u42, u43, u44, u45, u46, u47, u48, u49, u50, u51, u52, u53, u54, u55, u56, u57, u58, u59, u60, u61, u62, u63, u64, u65, u66, u67, u68, u69, u70, u71, u72, u73, u74, u75, u76, u77, u78, u79, u80, u81, u82, u83, u84, u85, u86, u87, u88, u89, u90, u91, u92, u93, u94, u95, u96, u97, u98, u99, u100, u101, u102, u103, u104, u105, u106, u107, u108, u109, u110, u111, u112, u113, u114, u115, u116, u117, u118, u119, u120, u121, u122, u123, u124, u125, u126, u127, u128, u129, u130, u131, u132, u133, u134, u135, u136, u137, u138, u139, u140, u141, u142, u143, u144, u145, u146, u147, u148, u149, u150, u151, u152, u153, u154, u155, u156, u157, u158, u159, u160, u161, u162, u163, u164, u165, u166, u167, u168, u169, u170, u171, u172, u173, u174, u175, u176, u177, u178, u179, u180, u181, u182, u183, u184, u185, u186, u187, u188, u189, u190, u191, u192, u193, u194, u195, u196, u197, u198, u199, u200, u201, u202, u203, u204, u205, u206, u207, u208, u209, u210, u211, u212, u213, u214, u215, u216, u217, u218, u219, u220, u221, u222, u223, u224, u225, u226, u227, u228, u229, u230, u231, u232, u233, u234, u235, u236, u237, u238, u239, u240, u241, u242, u243, u244, u245], defers := [] } wr := by
  obtain ⟨S, hC, hA, hi, hn, hx, hu, hal, hac, ⟨hd0, hd1⟩, ⟨ha0, ha1⟩, ⟨hb0, hb1⟩, hgo, hret⟩ := H
  have HC := Aside0.mk hC
  have HA := Aside0.mk hA
  have GO := Aside0.mk hgo
  have RET := Aside0.mk hret
  have HAC := Aside0.mk hac
  obtain ⟨ad1, ea, k0, k1, k2, k3, k4, k5, k6, k7⟩ := at_T40 (Kd.C_below HC.out S.HB) (i : Int) (by omega) (by omega)
  cases ea
  simp only [Int.toNat_natCast] at k0 k1 k2 k3 k4 k5 k6 k7
  rw [hx] at k0 k1 k2 k3 k4 k5 k6 k7
  dsimp only at k0 k1 k2 k3 k4 k5 k6 k7 hd0 hd1 ha0 ha1 hb0 hb1
  have q1 : ((i : Int) < (code.length : Int)) = True := eq_true (by omega)
  have q0 : (0 ≤ (i : Int)) = True := eq_true (by omega)
  have S0 := Aside0.mk S
  clear S hC hA hgo hret hx hac
  have KX : Aside0 ((wr.alloc (.cells #[.int .i64 9, .int .i64 d, .int .i64 a, .int .i64 b, .int .i64 loc, .int .i64 len, .int .i64 kk, .int .i64 tt] 40)).heap[wr.heap.size]? = some (.cells #[.int .i64 9, .int .i64 d, .int .i64 a, .int .i64 b, .int .i64 loc, .int .i64 len, .int .i64 kk, .int .i64 tt] 40 (0, 0))) := ⟨blk_new _ _⟩
  have S1 := Aside0.mk (S0.out.alloc (.cells #[.int .i64 9, .int .i64 d, .int .i64 a, .int .i64 b, .int .i64 loc, .int .i64 len, .int .i64 kk, .int .i64 tt] 40))
  unfold rrunBody Try.f17
  dsimp only
  go_wp2_with fail
  generalize hW1 : (wr.alloc (.cells #[.int .i64 9, .int .i64 d, .int .i64 a, .int .i64 b, .int .i64 loc, .int .i64 len, .int .i64 kk, .int .i64 tt] 40)) = W1 at KX S1 ⊢
  clear hW1 k0 k1 k2 k3 k4 k5 k6 k7 S0
  generalize wr.heap.size = bx at KX ⊢
  have x2 := blk_cell KX.out 2
  have x3 := blk_cell KX.out 3
  have hta := S1.out.ctemp a ha0 ha1
  have htb := S1.out.ctemp b hb0 hb1
  go_quiet (fail)
  generalize hW2 : W1.drewN nq = W2
  have KY : Aside0 (W2.heap[bx]? = some (.cells #[.int .i64 9, .int .i64 d, .int .i64 a, .int .i64 b, .int .i64 loc, .int .i64 len, .int .i64 kk, .int .i64 tt] 40 (0, 0))) := ⟨by rw [← hW2]; exact blk_drewN KX.out _⟩
  have S2 : Aside0 (Rr w W2 g6 g7 g8 T vt acts) := ⟨by rw [← hW2]; exact S1.out.drewN _⟩
  clear hW2 KX S1 x2 x3 hta htb
  have hl7 := blk_lt S2.out.b7
  have hl8 := blk_lt S2.out.b8
  have hlx := blk_lt KY.out
  have hl6 := blk_lt S2.out.b6
  have n78 := S2.out.n78
  have n68 := S2.out.n68
  have n67 := S2.out.n67
  have nx8 : ¬ bx = g8 := blk_ne KY.out S2.out.b8 (by decide)
  have nx7 : ¬ bx = g7 := blk_ne KY.out S2.out.b7 (by decide)
  have nx6 : ¬ bx = g6 := blk_ne KY.out S2.out.b6 (by decide)
  have x0 := blk_cell KY.out 0
  have x1 := blk_cell KY.out 1
  have x4 := blk_cell KY.out 4
  have x5 := blk_cell KY.out 5
  have x6 := blk_cell KY.out 6
  have x7 := blk_cell KY.out 7
  have y0 := blk_cell S2.out.b7 0
  have y1 := blk_cell S2.out.b7 1
  have yf := blk_frozen S2.out.b7
  have v0 := blk_cell S2.out.b6 0
  have v1_ := blk_cell S2.out.b6 1
  have vf := blk_frozen S2.out.b6
  have td := S2.out.ctemp d hd0 hd1
  have tf := blk_frozen S2.out.b8
  obtain ⟨Av, cv, rfl⟩ := Kd.R_slice S2.out.RT
  have hst : stp ⟨9, d, a, b, loc, len, kk, tt⟩ i T (answers.drop used) = ⟨i + 1, 0, T, answers.drop used, [⟨4, loc, 0, rd T a⟩]⟩ := by rfl
  have HS := Aside0.mk hst
  clear hst
  have SA := Aside0.mk (S2.out.alloc (.cells #[.int .i64 (4), .int .i64 (loc), .int .i64 (0), .int .i64 (rd T a)] 47))
  go_wp2_with (at_builtin; refine Kd.R_append k47 (w0 := w) w.heap.size rfl _ _ 29 47 _ 32 rfl Try.underlying29 info47 rfl (by decide) (by decide) (.slice Av acts.length cv) acts ⟨4, loc, 0, rd T a⟩ [.int .i64 (4), .int .i64 (loc), .int .i64 (0), .int .i64 (rd T a)] (fun _ => True) (fun _ => False) rfl ?hx1 (k47_mkM _ _ _ ⟨4, loc, 0, rd T a⟩) (fun _ h => h.elim) (fun _ _ => trivial) SA.out.RT SA.out.HB SA.out.HB.size ?hx2 ?_; (case hx1 => simp [Act.eval]); (case hx2 => (have := HAC.out; omega)); intro v9 w9 hR hB9 hg9 hat9; obtain ⟨A9, c9, rfl⟩ := Kd.R_slice hR; have S9 := Aside0.mk (SA.out.put_acts hg9 hB9 hR); have z7 := blk_cell (blk_grown SA.out.b7 hg9 (Kd.R_ne SA.out.RT SA.out.b7 (by decide))) 0; have f7 := blk_frozen (blk_grown SA.out.b7 hg9 (Kd.R_ne SA.out.RT SA.out.b7 (by decide))); clear hR hB9 hg9 hat9)
  have h9 := S9.out
  simp only [List.length_append, List.length_cons, List.length_nil, Nat.zero_add] at h9
  refine GO.out ⟨i + 1, 0, T, answers.drop used, [⟨4, loc, 0, rd T a⟩]⟩ _ _ used (.slice A9 (acts.length + 1) c9) HS.out rfl ?fr rfl (by omega) ?st
  case fr => unfold RrFrame; (repeat apply Exists.intro); exact rfl
  case st => exact h9
set_option maxHeartbeats 8000000 in
set_option maxRecDepth 100000 in
theorem rr_13h {A : Option Addr} {c : Nat} {code : List S40} {Al : Option Addr} {cl : Nat} {l : List S80} {An : Option Addr} {cn : Nat} {answers : List Int} {w wr : World} {g6 g7 g8 : Nat} {T : List Int} {vt : Value} {acts : List S47} {i used : Nat} {d a b loc len kk tt : Int} {u3 u4 u5 u18 u19 u20 u21 u22 : Value} {R : Exit → Act → World → Prop}
    (H : Rround A c code Al cl l An cn answers w wr g6 g7 g8 T vt acts i used ⟨13, d, a, b, loc, len, kk, tt⟩ u3 u4 u5 u18 u19 u20 u21 u22 R) (hr0 : 0 ≤ rd T a) (hr : len ≤ rd T a) (u11 u12 u13 u14 u15 u16 u17 u23 u24 u25 u26 u27 u28 u29 u30 u31 u32 u33 u34 u35 u36 u37 u38 u39 u40 u41 u42 u43 u44 u45 u46 u47 u48 u49 u50 u51 u52 u53 u54 u55 u56 u57 u58 u59 u60 u61 u62 u63 u64 u65 u66 u67 u68 u69 u70 u71 u72 u73 u74 u75 u76 u77 u78 u79 u80 u81 u82 u83 u84 u85 u86 u87 u88 u89 u90 u91 u92 u93 u94 u95 u96 u97 u98 u99 u100 u101 u102 u103 u104 u105 u106 u107 u108 u109 u110 u111 u112 u113 u114 u115 u116 u117 u118 u119 u120 u121 u122 u123 u124 u125 u126 u127 u128 u129 u130 u131 u132 u133 u134 u135 u136 u137 u138 u139 u140 u141 u142 u143 u144 u145 u146 u147 u148 u149 u150 u151 u152 u153 u154 u155 u156 u157 u158 u159 u160 u161 u162 u163 u164 u165 u166 u167 u168 u169 u170 u171 u172 u173 u174 u175 u176 u177 u178 u179 u180 u181 u182 u183 u184 u185 u186 u187 u188 u189 u190 u191 u192 u193 u194 u195 u196 u197 u198 u199 u200 u201 u202 u203 u204 u205 u206 u207 u208 u209 u210 u211 u212 u213 u214 u215 u216 u217 u218 u219 u220 u221 u222 u223 u224 u225 u226 u227 u228 u229 u230 u231 u232 u233 u234 u235 u236 u237 u238 u239 u240 u241 u242 u243 u244 u245 : Value) :
    rrunBody.wp Try.prog R { tmps := #[.slice A code.length c, .slice Al l.length cl, .slice An answers.length cn, u3, u4, u5, .pointer (some ⟨g6, 0, none⟩), .pointer (some ⟨g7, 0, none⟩), .pointer (some ⟨g8, 0, none⟩), .int .i64 (i : Int), .int .i64 (used : Int), u11, u12, u13, u14, u15, u16, u17, u18, u19, u20, u21, u22, u23, u24, u25, u26, u27, u28, u29, u30, u31, u32, u33, u34, u35, u36, u37, u38, u39, u40, u41, u42, u43, u44, u45, u46, u47, u48, u49, u50, u51, u52, u53, u54, u55, u56, u57, u58, u59, u60, u61, u62, u63, u64, u65, u66, u67, u68, u69, u70, u71, u72, u73, u74, u75, u76, u77, u78, u79, u80, u81, u82, u83, u84, u85, u86, u87, u88, u89, u90, u91, u92, u93, u94, u95, u96, u97, u98, u99, u100, u101, u102, u103, u104, u105, u106, u107, u108, u109, u110, u111, u112, u113, u114, u115, u116, u117, u118, u119, u120, u121, u122, u123, u124, u125, u126, u127, u128, u129, u130, u131, u132, u133, u134, u135, u136, u137, u138, u139, u140, u141, u142, u143, u144, u145, u146, u147, u148, u149, u150, u151, u152, u153, u154, u155, u156, u157, u158, u159, u160, u161, u162, u163, u164, u165, u166, u167, u168, u169, u170, u171, u172, u173, u174, u175, u176, u177, u178, u179, u180, u181, u182, u183, u184, u185, u186, u187, u188, u189, u190, u191, u192, u193, u194, u195, u196, u197, u198, u199, u200, u201, u202, u203, u204, u205, u206, u207, u208, u209, u210, u211, u212, u213, u214, u215, u216, u217, u218, u219, u220, u221, u222, u223, u224, u225, u226, u227, u228, u229, u230, u231, u232, u233, u234, u235, u236, u237, u238, u239, u240, u241, u242, u243, u244, u245], defers := [] } wr := by
  obtain ⟨S, hC, hA, hi, hn, hx, hu, hal, hac, ⟨hd0, hd1⟩, ⟨ha0, ha1⟩, ⟨hb0, hb1⟩, hgo, hret⟩ := H
  have HC := Aside0.mk hC
  have HA := Aside0.mk hA
  have GO := Aside0.mk hgo
  have RET := Aside0.mk hret
  have HAC := Aside0.mk hac
  obtain ⟨ad1, ea, k0, k1, k2, k3, k4, k5, k6, k7⟩ := at_T40 (Kd.C_below HC.out S.HB) (i : Int) (by omega) (by omega)
  cases ea
  simp only [Int.toNat_natCast] at k0 k1 k2 k3 k4 k5 k6 k7
  rw [hx] at k0 k1 k2 k3 k4 k5 k6 k7
  dsimp only at k0 k1 k2 k3 k4 k5 k6 k7 hd0 hd1 ha0 ha1 hb0 hb1
  have q1 : ((i : Int) < (code.length : Int)) = True := eq_true (by omega)
  have q0 : (0 ≤ (i : Int)) = True := eq_true (by omega)
  have S0 := Aside0.mk S
  clear S hC hA hgo hret hx hac
  have KX : Aside0 ((wr.alloc (.cells #[.int .i64 13, .int .i64 d, .int .i64 a, .int .i64 b, .int .i64 loc, .int .i64 len, .int .i64 kk, .int .i64 tt] 40)).heap[wr.heap.size]? = some (.cells #[.int .i64 13, .int .i64 d, .int .i64 a, .int .i64 b, .int .i64 loc, .int .i64 len, .int .i64 kk, .int .i64 tt] 40 (0, 0))) := ⟨blk_new _ _⟩
  have S1 := Aside0.mk (S0.out.alloc (.cells #[.int .i64 13, .int .i64 d, .int .i64 a, .int .i64 b, .int .i64 loc, .int .i64 len, .int .i64 kk, .int .i64 tt] 40))
  unfold rrunBody Try.f17
  dsimp only
  go_wp2_with fail
  generalize hW1 : (wr.alloc (.cells #[.int .i64 13, .int .i64 d, .int .i64 a, .int .i64 b, .int .i64 loc, .int .i64 len, .int .i64 kk, .int .i64 tt] 40)) = W1 at KX S1 ⊢
  clear hW1 k0 k1 k2 k3 k4 k5 k6 k7 S0
  generalize wr.heap.size = bx at KX ⊢
  have x2 := blk_cell KX.out 2
  have x3 := blk_cell KX.out 3
  have hta := S1.out.ctemp a ha0 ha1
  have htb := S1.out.ctemp b hb0 hb1
  go_quiet (fail)
  generalize hW2 : W1.drewN nq = W2
  have KY : Aside0 (W2.heap[bx]? = some (.cells #[.int .i64 13, .int .i64 d, .int .i64 a, .int .i64 b, .int .i64 loc, .int .i64 len, .int .i64 kk, .int .i64 tt] 40 (0, 0))) := ⟨by rw [← hW2]; exact blk_drewN KX.out _⟩
  have S2 : Aside0 (Rr w W2 g6 g7 g8 T vt acts) := ⟨by rw [← hW2]; exact S1.out.drewN _⟩
  clear hW2 KX S1 x2 x3 hta htb
  have hl7 := blk_lt S2.out.b7
  have hl8 := blk_lt S2.out.b8
  have hlx := blk_lt KY.out
  have hl6 := blk_lt S2.out.b6
  have n78 := S2.out.n78
  have n68 := S2.out.n68
  have n67 := S2.out.n67
  have nx8 : ¬ bx = g8 := blk_ne KY.out S2.out.b8 (by decide)
  have nx7 : ¬ bx = g7 := blk_ne KY.out S2.out.b7 (by decide)
  have nx6 : ¬ bx = g6 := blk_ne KY.out S2.out.b6 (by decide)
  have x0 := blk_cell KY.out 0
  have x1 := blk_cell KY.out 1
  have x4 := blk_cell KY.out 4
  have x5 := blk_cell KY.out 5
  have x6 := blk_cell KY.out 6
  have x7 := blk_cell KY.out 7
  have y0 := blk_cell S2.out.b7 0
  have y1 := blk_cell S2.out.b7 1
  have yf := blk_frozen S2.out.b7
  have v0 := blk_cell S2.out.b6 0
  have v1_ := blk_cell S2.out.b6 1
  have vf := blk_frozen S2.out.b6
  have td := S2.out.ctemp d hd0 hd1
  have tf := blk_frozen S2.out.b8
  obtain ⟨Av, cv, rfl⟩ := Kd.R_slice S2.out.RT
  have hst : stp ⟨13, d, a, b, loc, len, kk, tt⟩ i T (answers.drop used) = ⟨0, 3, T, answers.drop used, []⟩ := by show (if outb ⟨13, d, a, b, loc, len, kk, tt⟩ T then _ else _) = _; rw [if_pos (by simp [outb, hr])]; rfl
  have HS := Aside0.mk hst
  have c0 : decide (rd T a < 0) = false := decide_eq_false (by omega)
  have c1 : decide (len ≤ rd T a) = true := decide_eq_true hr
  clear hst hr hr0
  go_wp2
  have hfin := S2.out.fin 3 _ rfl
  exact RET.out ⟨0, 3, T, answers.drop used, []⟩ _ _ HS.out (show (3 : Int) ≠ 0 by decide) rfl rfl rfl hfin.2.2.1 hfin.2.2.2 hfin.1 hfin.2.1
set_option maxHeartbeats 8000000 in
set_option maxRecDepth 100000 in
theorem rr_16t {A : Option Addr} {c : Nat} {code : List S40} {Al : Option Addr} {cl : Nat} {l : List S80} {An : Option Addr} {cn : Nat} {answers : List Int} {w wr : World} {g6 g7 g8 : Nat} {T : List Int} {vt : Value} {acts : List S47} {i used : Nat} {d a b loc len kk tt : Int} {u3 u4 u5 u18 u19 u20 u21 u22 : Value} {R : Exit → Act → World → Prop}
    (H : Rround A c code Al cl l An cn answers w wr g6 g7 g8 T vt acts i used ⟨16, d, a, b, loc, len, kk, tt⟩ u3 u4 u5 u18 u19 u20 u21 u22 R) (hr : rd T b ≤ rd T a) (u11 u12 u13 u14 u15 u16 u17 u23 u24 u25 u26 u27 u28 u29 u30 u31 u32 u33 u34 u35 u36 u37 u38 u39 u40 u41 u42 u43 u44 u45 u46 u47 u48 u49 u50 u51 u52 u53 u54 u55 u56 u57 u58 u59 u60 u61 u62 u63 u64 u65 u66 u67 u68 u69 u70 u71 u72 u73 u74 u75 u76 u77 u78 u79 u80 u81 u82 u83 u84 u85 u86 u87 u88 u89 u90 u91 u92 u93 u94 u95 u96 u97 u98 u99 u100 u101 u102 u103 u104 u105 u106 u107 u108 u109 u110 u111 u112 u113 u114 u115 u116 u117 u118 u119 u120 u121 u122 u123 u124 u125 u126 u127 u128 u129 u130 u131 u132 u133 u134 u135 u136 u137 u138 u139 u140 u141 u142 u143 u144 u145 u146 u147 u148 u149 u150 u151 u152 u153 u154 u155 u156 u157 u158 u159 u160 u161 u162 u163 u164 u165 u166 u167 u168 u169 u170 u171 u172 u173 u174 u175 u176 u177 u178 u179 u180 u181 u182 u183 u184 u185 u186 u187 u188 u189 u190 u191 u192 u193 u194 u195 u196 u197 u198 u199 u200 u201 u202 u203 u204 u205 u206 u207 u208 u209 u210 u211 u212 u213 u214 u215 u216 u217 u218 u219 u220 u221 u222 u223 u224 u225 u226 u227 u228 u229 u230 u231 u232 u233 u234 u235 u236 u237 u238 u239 u240 u241 u242 u243 u244 u245 : Value) :
    rrunBody.wp Try.prog R { tmps := #[.slice A code.length c, .slice Al l.length cl, .slice An answers.length cn, u3, u4, u5, .pointer (some ⟨g6, 0, none⟩), .pointer (some ⟨g7, 0, none⟩), .pointer (some ⟨g8, 0, none⟩), .int .i64 (i : Int), .int .i64 (used : Int), u11, u12, u13, u14, u15, u16, u17, u18, u19, u20, u21, u22, u23, u24, u25, u26, u27, u28, u29, u30, u31, u32, u33, u34, u35, u36, u37, u38, u39, u40, u41, u42, u43, u44, u45, u46, u47, u48, u49, u50, u51, u52, u53, u54, u55, u56, u57, u58, u59, u60, u61, u62, u63, u64, u65, u66, u67, u68, u69, u70, u71, u72, u73, u74, u75, u76, u77, u78, u79, u80, u81, u82, u83, u84, u85, u86, u87, u88, u89, u90, u91, u92, u93, u94, u95, u96, u97, u98, u99, u100, u101, u102, u103, u104, u105, u106, u107, u108, u109, u110, u111, u112, u113, u114, u115, u116, u117, u118, u119, u120, u121, u122, u123, u124, u125, u126, u127, u128, u129, u130, u131, u132, u133, u134, u135, u136, u137, u138, u139, u140, u141, u142, u143, u144, u145, u146, u147, u148, u149, u150, u151, u152, u153, u154, u155, u156, u157, u158, u159, u160, u161, u162, u163, u164, u165, u166, u167, u168, u169, u170, u171, u172, u173, u174, u175, u176, u177, u178, u179, u180, u181, u182, u183, u184, u185, u186, u187, u188, u189, u190, u191, u192, u193, u194, u195, u196, u197, u198, u199, u200, u201, u202, u203, u204, u205, u206, u207, u208, u209, u210, u211, u212, u213, u214, u215, u216, u217, u218, u219, u220, u221, u222, u223, u224, u225, u226, u227, u228, u229, u230, u231, u232, u233, u234, u235, u236, u237, u238, u239, u240, u241, u242, u243, u244, u245], defers := [] } wr := by
  obtain ⟨S, hC, hA, hi, hn, hx, hu, hal, hac, ⟨hd0, hd1⟩, ⟨ha0, ha1⟩, ⟨hb0, hb1⟩, hgo, hret⟩ := H
  have HC := Aside0.mk hC
  have HA := Aside0.mk hA
  have GO := Aside0.mk hgo
  have RET := Aside0.mk hret
  have HAC := Aside0.mk hac
  obtain ⟨ad1, ea, k0, k1, k2, k3, k4, k5, k6, k7⟩ := at_T40 (Kd.C_below HC.out S.HB) (i : Int) (by omega) (by omega)
  cases ea
  simp only [Int.toNat_natCast] at k0 k1 k2 k3 k4 k5 k6 k7
  rw [hx] at k0 k1 k2 k3 k4 k5 k6 k7
  dsimp only at k0 k1 k2 k3 k4 k5 k6 k7 hd0 hd1 ha0 ha1 hb0 hb1
  have q1 : ((i : Int) < (code.length : Int)) = True := eq_true (by omega)
  have q0 : (0 ≤ (i : Int)) = True := eq_true (by omega)
  have S0 := Aside0.mk S
  clear S hC hA hgo hret hx hac
  have KX : Aside0 ((wr.alloc (.cells #[.int .i64 16, .int .i64 d, .int .i64 a, .int .i64 b, .int .i64 loc, .int .i64 len, .int .i64 kk, .int .i64 tt] 40)).heap[wr.heap.size]? = some (.cells #[.int .i64 16, .int .i64 d, .int .i64 a, .int .i64 b, .int .i64 loc, .int .i64 len, .int .i64 kk, .int .i64 tt] 40 (0, 0))) := ⟨blk_new _ _⟩
  have S1 := Aside0.mk (S0.out.alloc (.cells #[.int .i64 16, .int .i64 d, .int .i64 a, .int .i64 b, .int .i64 loc, .int .i64 len, .int .i64 kk, .int .i64 tt] 40))
  unfold rrunBody Try.f17
  dsimp only
  go_wp2_with fail
  generalize hW1 : (wr.alloc (.cells #[.int .i64 16, .int .i64 d, .int .i64 a, .int .i64 b, .int .i64 loc, .int .i64 len, .int .i64 kk, .int .i64 tt] 40)) = W1 at KX S1 ⊢
  clear hW1 k0 k1 k2 k3 k4 k5 k6 k7 S0
  generalize wr.heap.size = bx at KX ⊢
  have x2 := blk_cell KX.out 2
  have x3 := blk_cell KX.out 3
  have hta := S1.out.ctemp a ha0 ha1
  have htb := S1.out.ctemp b hb0 hb1
  go_quiet (fail)
  generalize hW2 : W1.drewN nq = W2
  have KY : Aside0 (W2.heap[bx]? = some (.cells #[.int .i64 16, .int .i64 d, .int .i64 a, .int .i64 b, .int .i64 loc, .int .i64 len, .int .i64 kk, .int .i64 tt] 40 (0, 0))) := ⟨by rw [← hW2]; exact blk_drewN KX.out _⟩
  have S2 : Aside0 (Rr w W2 g6 g7 g8 T vt acts) := ⟨by rw [← hW2]; exact S1.out.drewN _⟩
  clear hW2 KX S1 x2 x3 hta htb
  have hl7 := blk_lt S2.out.b7
  have hl8 := blk_lt S2.out.b8
  have hlx := blk_lt KY.out
  have hl6 := blk_lt S2.out.b6
  have n78 := S2.out.n78
  have n68 := S2.out.n68
  have n67 := S2.out.n67
  have nx8 : ¬ bx = g8 := blk_ne KY.out S2.out.b8 (by decide)
  have nx7 : ¬ bx = g7 := blk_ne KY.out S2.out.b7 (by decide)
  have nx6 : ¬ bx = g6 := blk_ne KY.out S2.out.b6 (by decide)
  have x0 := blk_cell KY.out 0
  have x1 := blk_cell KY.out 1
  have x4 := blk_cell KY.out 4
  have x5 := blk_cell KY.out 5
  have x6 := blk_cell KY.out 6
  have x7 := blk_cell KY.out 7
  have y0 := blk_cell S2.out.b7 0
  have y1 := blk_cell S2.out.b7 1
  have yf := blk_frozen S2.out.b7
  have v0 := blk_cell S2.out.b6 0
  have v1_ := blk_cell S2.out.b6 1
  have vf := blk_frozen S2.out.b6
  have td := S2.out.ctemp d hd0 hd1
  have tf := blk_frozen S2.out.b8
  obtain ⟨Av, cv, rfl⟩ := Kd.R_slice S2.out.RT
  have hst : stp ⟨16, d, a, b, loc, len, kk, tt⟩ i T (answers.drop used) = ⟨tt, 0, T, answers.drop used, []⟩ := by show (if rd T a < rd T b then _ else _) = _; rw [if_neg (by first | exact hr | omega)]; rfl
  have HS := Aside0.mk hst
  have c1 : decide (rd T a < rd T b) = false := decide_eq_false (by omega)
  clear hst hr
  go_wp2
  refine GO.out ⟨tt, 0, T, answers.drop used, []⟩ _ _ used (.slice Av acts.length cv) HS.out rfl ?fr rfl (by omega) ?st
  case fr => unfold RrFrame; (repeat apply Exists.intro); exact rfl
  case st => show Rr w _ g6 g7 g8 _ _ (acts ++ []); rw [List.append_nil]; exact S2.out.alloc _
set_option maxHeartbeats 8000000 in
set_option maxRecDepth 100000 in
theorem rr_12d {A : Option Addr} {c : Nat} {code : List S40} {Al : Option Addr} {cl : Nat} {l : List S80} {An : Option Addr} {cn : Nat} {answers : List Int} {w wr : World} {g6 g7 g8 : Nat} {T : List Int} {vt : Value} {acts : List S47} {i used : Nat} {d a b loc len kk tt : Int} {u3 u4 u5 u18 u19 u20 u21 u22 : Value} {R : Exit → Act → World → Prop}
    (H : Rround A c code Al cl l An cn answers w wr g6 g7 g8 T vt acts i used ⟨12, d, a, b, loc, len, kk, tt⟩ u3 u4 u5 u18 u19 u20 u21 u22 R) (hz : used < answers.length) (hr : ¬ rd answers (used : Int) = rd T a) (u11 u12 u13 u14 u15 u16 u17 u23 u24 u25 u26 u27 u28 u29 u30 u31 u32 u33 u34 u35 u36 u37 u38 u39 u40 u41 u42 u43 u44 u45 u46 u47 u48 u49 u50 u51 u52 u53 u54 u55 u56 u57 u58 u59 u60 u61 u62 u63 u64 u65 u66 u67 u68 u69 u70 u71 u72 u73 u74 u75 u76 u77 u78 u79 u80 u81 u82 u83 u84 u85 u86 u87 u88 u89 u90 u91 u92 u93 u94 u95 u96 u97 u98 u99 u100 u101 u102 u103 u104 u105 u106 u107 u108 u109 u110 u111 u112 u113 u114 u115 u116 u117 u118 u119 u120 u121 u122 u123 u124 u125 u126 u127 u128 u129 u130 u131 u132 u133 u134 u135 u136 u137 u138 u139 u140 u141 u142 u143 u144 u145 u146 u147 u148 u149 u150 u151 u152 u153 u154 u155 u156 u157 u158 u159 u160 u161 u162 u163 u164 u165 u166 u167 u168 u169 u170 u171 u172 u173 u174 u175 u176 u177 u178 u179 u180 u181 u182 u183 u184 u185 u186 u187 u188 u189 u190 u191 u192 u193 u194 u195 u196 u197 u198 u199 u200 u201 u202 u203 u204 u205 u206 u207 u208 u209 u210 u211 u212 u213 u214 u215 u216 u217 u218 u219 u220 u221 u222 u223 u224 u225 u226 u227 u228 u229 u230 u231 u232 u233 u234 u235 u236 u237 u238 u239 u240 u241 u242 u243 u244 u245 : Value) :
    rrunBody.wp Try.prog R { tmps := #[.slice A code.length c, .slice Al l.length cl, .slice An answers.length cn, u3, u4, u5, .pointer (some ⟨g6, 0, none⟩), .pointer (some ⟨g7, 0, none⟩), .pointer (some ⟨g8, 0, none⟩), .int .i64 (i : Int), .int .i64 (used : Int), u11, u12, u13, u14, u15, u16, u17, u18, u19, u20, u21, u22, u23, u24, u25, u26, u27, u28, u29, u30, u31, u32, u33, u34, u35, u36, u37, u38, u39, u40, u41, u42, u43, u44, u45, u46, u47, u48, u49, u50, u51, u52, u53, u54, u55, u56, u57, u58, u59, u60, u61, u62, u63, u64, u65, u66, u67, u68, u69, u70, u71, u72, u73, u74, u75, u76, u77, u78, u79, u80, u81, u82, u83, u84, u85, u86, u87, u88, u89, u90, u91, u92, u93, u94, u95, u96, u97, u98, u99, u100, u101, u102, u103, u104, u105, u106, u107, u108, u109, u110, u111, u112, u113, u114, u115, u116, u117, u118, u119, u120, u121, u122, u123, u124, u125, u126, u127, u128, u129, u130, u131, u132, u133, u134, u135, u136, u137, u138, u139, u140, u141, u142, u143, u144, u145, u146, u147, u148, u149, u150, u151, u152, u153, u154, u155, u156, u157, u158, u159, u160, u161, u162, u163, u164, u165, u166, u167, u168, u169, u170, u171, u172, u173, u174, u175, u176, u177, u178, u179, u180, u181, u182, u183, u184, u185, u186, u187, u188, u189, u190, u191, u192, u193, u194, u195, u196, u197, u198, u199, u200, u201, u202, u203, u204, u205, u206, u207, u208, u209, u210, u211, u212, u213, u214, u215, u216, u217, u218, u219, u220, u221, u222, u223, u224, u225, u226, u227, u228, u229, u230, u231, u232, u233, u234, u235, u236, u237, u238, u239, u240, u241, u242, u243, u244, u245], defers := [] } wr := by
  obtain ⟨S, hC, hA, hi, hn, hx, hu, hal, hac, ⟨hd0, hd1⟩, ⟨ha0, ha1⟩, ⟨hb0, hb1⟩, hgo, hret⟩ := H
  have HC := Aside0.mk hC
  have HA := Aside0.mk hA
  have GO := Aside0.mk hgo
  have RET := Aside0.mk hret
  have HAC := Aside0.mk hac
  obtain ⟨ad1, ea, k0, k1, k2, k3, k4, k5, k6, k7⟩ := at_T40 (Kd.C_below HC.out S.HB) (i : Int) (by omega) (by omega)
  cases ea
  simp only [Int.toNat_natCast] at k0 k1 k2 k3 k4 k5 k6 k7
  rw [hx] at k0 k1 k2 k3 k4 k5 k6 k7
  dsimp only at k0 k1 k2 k3 k4 k5 k6 k7 hd0 hd1 ha0 ha1 hb0 hb1
  have q1 : ((i : Int) < (code.length : Int)) = True := eq_true (by omega)
  have q0 : (0 ≤ (i : Int)) = True := eq_true (by omega)
  have S0 := Aside0.mk S
  clear S hC hA hgo hret hx hac
  have KX : Aside0 ((wr.alloc (.cells #[.int .i64 12, .int .i64 d, .int .i64 a, .int .i64 b, .int .i64 loc, .int .i64 len, .int .i64 kk, .int .i64 tt] 40)).heap[wr.heap.size]? = some (.cells #[.int .i64 12, .int .i64 d, .int .i64 a, .int .i64 b, .int .i64 loc, .int .i64 len, .int .i64 kk, .int .i64 tt] 40 (0, 0))) := ⟨blk_new _ _⟩
  have S1 := Aside0.mk (S0.out.alloc (.cells #[.int .i64 12, .int .i64 d, .int .i64 a, .int .i64 b, .int .i64 loc, .int .i64 len, .int .i64 kk, .int .i64 tt] 40))
  unfold rrunBody Try.f17
  dsimp only
  go_wp2_with fail
  generalize hW1 : (wr.alloc (.cells #[.int .i64 12, .int .i64 d, .int .i64 a, .int .i64 b, .int .i64 loc, .int .i64 len, .int .i64 kk, .int .i64 tt] 40)) = W1 at KX S1 ⊢
  clear hW1 k0 k1 k2 k3 k4 k5 k6 k7 S0
  generalize wr.heap.size = bx at KX ⊢
  have x2 := blk_cell KX.out 2
  have x3 := blk_cell KX.out 3
  have hta := S1.out.ctemp a ha0 ha1
  have htb := S1.out.ctemp b hb0 hb1
  go_quiet (fail)
  generalize hW2 : W1.drewN nq = W2
  have KY : Aside0 (W2.heap[bx]? = some (.cells #[.int .i64 12, .int .i64 d, .int .i64 a, .int .i64 b, .int .i64 loc, .int .i64 len, .int .i64 kk, .int .i64 tt] 40 (0, 0))) := ⟨by rw [← hW2]; exact blk_drewN KX.out _⟩
  have S2 : Aside0 (Rr w W2 g6 g7 g8 T vt acts) := ⟨by rw [← hW2]; exact S1.out.drewN _⟩
  clear hW2 KX S1 x2 x3 hta htb
  have hl7 := blk_lt S2.out.b7
  have hl8 := blk_lt S2.out.b8
  have hlx := blk_lt KY.out
  have hl6 := blk_lt S2.out.b6
  have n78 := S2.out.n78
  have n68 := S2.out.n68
  have n67 := S2.out.n67
  have nx8 : ¬ bx = g8 := blk_ne KY.out S2.out.b8 (by decide)
  have nx7 : ¬ bx = g7 := blk_ne KY.out S2.out.b7 (by decide)
  have nx6 : ¬ bx = g6 := blk_ne KY.out S2.out.b6 (by decide)
  have x0 := blk_cell KY.out 0
  have x1 := blk_cell KY.out 1
  have x4 := blk_cell KY.out 4
  have x5 := blk_cell KY.out 5
  have x6 := blk_cell KY.out 6
  have x7 := blk_cell KY.out 7
  have y0 := blk_cell S2.out.b7 0
  have y1 := blk_cell S2.out.b7 1
  have yf := blk_frozen S2.out.b7
  have v0 := blk_cell S2.out.b6 0
  have v1_ := blk_cell S2.out.b6 1
  have vf := blk_frozen S2.out.b6
  have td := S2.out.ctemp d hd0 hd1
  have tf := blk_frozen S2.out.b8
  obtain ⟨Av, cv, rfl⟩ := Kd.R_slice S2.out.RT
  have HD0 := Aside0.mk (drop_cons answers used hz)
  have c9 : (used == answers.length) = false := beq_eq_false_iff_ne.2 (by omega)
  have c8 : ((used : Int) == (answers.length : Int)) = false := beq_eq_false_iff_ne.2 (by omega)
  have r1 : ((used : Int) < (answers.length : Int)) = True := eq_true (by omega)
  have r0 : (0 ≤ (used : Int)) = True := eq_true (by omega)
  have r2 : used ≤ 100000 := by omega
  obtain ⟨ad2, ea2, hx2⟩ := Kd.at_int (Kd.C_below HA.out S2.out.HB) (used : Int) (by omega) (by omega)
  cases ea2
  simp only [Int.toNat_natCast] at hx2
  generalize rd answers (used : Int) = n at HD0 hx2 hr
  have hst : stp ⟨12, d, a, b, loc, len, kk, tt⟩ i T (answers.drop used) = ⟨tt, 0, T, answers.drop (used + 1), [⟨3, loc, n, 0⟩]⟩ := by rw [HD0.out]; show (if n = rd T a then _ else _) = _; exact if_neg hr
  have HS := Aside0.mk hst
  have c1 : (n != rd T a) = true := by simpa using hr
  clear hst hr
  have SA := Aside0.mk (S2.out.alloc (.cells #[.int .i64 (3), .int .i64 (loc), .int .i64 (n), .int .i64 (0)] 47))
  go_wp2_with (at_builtin; refine Kd.R_append k47 (w0 := w) w.heap.size rfl _ _ 29 47 _ 32 rfl Try.underlying29 info47 rfl (by decide) (by decide) (.slice Av acts.length cv) acts ⟨3, loc, n, 0⟩ [.int .i64 (3), .int .i64 (loc), .int .i64 (n), .int .i64 (0)] (fun _ => True) (fun _ => False) rfl ?hx1 (k47_mkM _ _ _ ⟨3, loc, n, 0⟩) (fun _ h => h.elim) (fun _ _ => trivial) SA.out.RT SA.out.HB SA.out.HB.size ?hx2 ?_; (case hx1 => simp [Act.eval]); (case hx2 => (have := HAC.out; omega)); intro v9 w9 hR hB9 hg9 hat9; obtain ⟨A9, c9, rfl⟩ := Kd.R_slice hR; have S9 := Aside0.mk (SA.out.put_acts hg9 hB9 hR); have z7 := blk_cell (blk_grown SA.out.b7 hg9 (Kd.R_ne SA.out.RT SA.out.b7 (by decide))) 0; have f7 := blk_frozen (blk_grown SA.out.b7 hg9 (Kd.R_ne SA.out.RT SA.out.b7 (by decide))); clear hR hB9 hg9 hat9)
  have h9 := S9.out
  simp only [List.length_append, List.length_cons, List.length_nil, Nat.zero_add] at h9
  refine GO.out ⟨tt, 0, T, answers.drop (used + 1), [⟨3, loc, n, 0⟩]⟩ _ _ (used + 1) (.slice A9 (acts.length + 1) c9) HS.out rfl ?fr rfl (by omega) ?st
  case fr => unfold RrFrame; (repeat apply Exists.intro); exact rfl
  case st => exact h9
end Go.Proofs.Ytdmbnlpcfgphpaa.Q
namespace Go.Proofs.Ytdmbnlpcfgphpaa.Q
open Go.RowKit Go.Proofs.YtdmbnlpcfgphpaaW.PrintWords Go.Proofs.YtdmbnlpcfgphpaaW.PrintLast Go.Proofs.YtdmbnlpcfgphpaaW.PrintMore
set_option linter.unusedVariables false
set_option linter.unusedSimpArgs false
set_option maxHeartbeats 8000000 in
set_option maxRecDepth 100000 in
theorem rr_4 {A : Option Addr} {c : Nat} {code : List S40} {Al : Option Addr} {cl : Nat} {l : List S80} {An : Option Addr} {cn : Nat} {answers : List Int} {w wr : World} {g6 g7 g8 : Nat} {T : List Int} {vt : Value} {acts : List S47} {i used : Nat} {d a b loc len kk tt : Int} {u3 u4 u5 u18 u19 u20 u21 u22 : Value} {R : Exit → Act → World → Prop}
    (H : Rround A c code Al cl l An cn answers w wr g6 g7 g8 T vt acts i used ⟨4, d, a, b, loc, len, kk, tt⟩ u3 u4 u5 u18 u19 u20 u21 u22 R) (u11 u12 u13 u14 u15 u16 u17 u23 u24 u25 u26 u27 u28 u29 u30 u31 u32 u33 u34 u35 u36 u37 u38 u39 u40 u41 u42 u43 u44 u45 u46 u47 u48 u49 u50 u51 u52 u53 u54 u55 u56 u57 u58 u59 u60 u61 u62 u63 u64 u65 u66 u67 u68 u69 u70 u71 u72 u73 u74 u75 u76 u77 u78 u79 u80 u81 u82 u83 u84 u85 u86 u87 u88 u89 u90 u91 u92 u93 u94 u95 u96 u97 u98 u99 u100 u101 u102 u103 u104 u105 u106 u107 u108 u109 u110 u111 u112 u113 u114 u115 u116 u117 u118 u119 u120 u121 u122 u123 u124 u125 u126 u127 u128 u129 u130 u131 u132 u133 u134 u135 u136 u137 u138 u139 u140 u141 u142 u143 u144 u145 u146 u147 u148 u149 u150 u151 u152 u153 u154 u155 u156 u157 u158 u159 u160 u161 u162 u163 u164 u165 u166 u167 u168 u169 u170 u171 u172 u173 u174 u175 u176 u177 u178 u179 u180 u181 u182 u183 u184 u185 u186 u187 u188 u189 u190 u191 u192 u193 u194 u195 u196 u197 u198 u199 u200 u201 u202 u203 u204 u205 u206 u207 u208 u209 u210 u211 u212 u213 u214 u215 u216 u217 u218 u219 u220 u221 u222 u223 u224 u225 u226 u227 u228 u229 u230 u231 u232 u233 u234 u235 u236 u237 u238 u239 u240 u241 u242 u243 u244 u245 : Value) :
    rrunBody.wp Try.prog R { tmps := #[.slice A code.length c, .slice Al l.length cl, .slice An answers.length cn, u3, u4, u5, .pointer (some ⟨g6, 0, none⟩), .pointer (some ⟨g7, 0, none⟩), .pointer (some ⟨g8, 0, none⟩), .int .i64 (i : Int), .int .i64 (used : Int), u11, u12, u13, u14, u15, u16, u17, u18, u19, u20, u21, u22, u23, u24, u25, u26, u27, u28, u29, u30, u31, u32, u33, u34, u35, u36, u37, u38, u39, u40, u41, u42, u43, u44, u45, u46, u47, u48, u49, u50, u51, u52, u53, u54, u55, u56, u57, u58, u59, u60, u61, u62, u63, u64, u65, u66, u67, u68, u69, u70, u71, u72, u73, u74, u75, u76, u77, u78, u79, u80, u81, u82, u83, u84, u85, u86, u87, u88, u89, u90, u91, u92, u93, u94, u95, u96, u97, u98, u99, u100, u101, u102, u103, u104, u105, u106, u107, u108, u109, u110, u111, u112, u113, u114, u115, u116, u117, u118, u119, u120, u121, u122, u123, u124, u125, u126, u127, u128, u129, u130, u131, u132, u133, u134, u135, u136, u137, u138, u139, u140, u141, u142, u143, u144, u145, u146, u147, u148, u149, u150, u151, u152, u153, u154, u155, u156, u157, u158, u159, u160, u161, u162, u163, u164, u165, u166, u167, u168, u169, u170, u171, u172, u173, u174, u175, u176, u177, u178, u179, u180, u181, u182, u183, u184, u185, u186, u187, u188, u189, u190, u191, u192, u193, u194, u195, u196, u197, u198, u199, u200, u201, u202, u203, u204, u205, u206, u207, u208, u209, u210, u211, u212, u213, u214, u215, u216, u217, u218, u219, u220, u221, u222, u223, u224, u225, u226, u227, u228, u229, u230, u231, u232, u233, u234, u235, u236, u237, u238, u239, u240, u241, u242, u243, u244, u245], defers := [] } wr := by
  obtain ⟨S, hC, hA, hi, hn, hx, hu, hal, hac, ⟨hd0, hd1⟩, ⟨ha0, ha1⟩, ⟨hb0, hb1⟩, hgo, hret⟩ := H
  have HC := Aside0.mk hC
  have HA := Aside0.mk hA
  have GO := Aside0.mk hgo
  have RET := Aside0.mk hret
  have HAC := Aside0.mk hac
  obtain ⟨ad1, ea, k0, k1, k2, k3, k4, k5, k6, k7⟩ := at_T40 (Kd.C_below HC.out S.HB) (i : Int) (by omega) (by omega)
  cases ea
  simp only [Int.toNat_natCast] at k0 k1 k2 k3 k4 k5 k6 k7
  rw [hx] at k0 k1 k2 k3 k4 k5 k6 k7
  dsimp only at k0 k1 k2 k3 k4 k5 k6 k7 hd0 hd1 ha0 ha1 hb0 hb1
  have q1 : ((i : Int) < (code.length : Int)) = True := eq_true (by omega)
  have q0 : (0 ≤ (i : Int)) = True := eq_true (by omega)
  have S0 := Aside0.mk S
  clear S hC hA hgo hret hx hac
  have KX : Aside0 ((wr.alloc (.cells #[.int .i64 4, .int .i64 d, .int .i64 a, .int .i64 b, .int .i64 loc, .int .i64 len, .int .i64 kk, .int .i64 tt] 40)).heap[wr.heap.size]? = some (.cells #[.int .i64 4, .int .i64 d, .int .i64 a, .int .i64 b, .int .i64 loc, .int .i64 len, .int .i64 kk, .int .i64 tt] 40 (0, 0))) := ⟨blk_new _ _⟩
  have S1 := Aside0.mk (S0.out.alloc (.cells #[.int .i64 4, .int .i64 d, .int .i64 a, .int .i64 b, .int .i64 loc, .int .i64 len, .int .i64 kk, .int .i64 tt] 40))
  unfold rrunBody Try.f17
  dsimp only
  go_wp2_with fail
  generalize hW1 : (wr.alloc (.cells #[.int .i64 4, .int .i64 d, .int .i64 a, .int .i64 b, .int .i64 loc, .int .i64 len, .int .i64 kk, .int .i64 tt] 40)) = W1 at KX S1 ⊢
  clear hW1 k0 k1 k2 k3 k4 k5 k6 k7 S0
  generalize wr.heap.size = bx at KX ⊢
  have x2 := blk_cell KX.out 2
  have x3 := blk_cell KX.out 3
  have hta := S1.out.ctemp a ha0 ha1
  have htb := S1.out.ctemp b hb0 hb1
  go_quiet (fail)
  generalize hW2 : W1.drewN nq = W2
  have KY : Aside0 (W2.heap[bx]? = some (.cells #[.int .i64 4, .int .i64 d, .int .i64 a, .int .i64 b, .int .i64 loc, .int .i64 len, .int .i64 kk, .int .i64 tt] 40 (0, 0))) := ⟨by rw [← hW2]; exact blk_drewN KX.out _⟩
  have S2 : Aside0 (Rr w W2 g6 g7 g8 T vt acts) := ⟨by rw [← hW2]; exact S1.out.drewN _⟩
  clear hW2 KX S1 x2 x3 hta htb
  have hl7 := blk_lt S2.out.b7
  have hl8 := blk_lt S2.out.b8
  have hlx := blk_lt KY.out
  have hl6 := blk_lt S2.out.b6
  have n78 := S2.out.n78
  have n68 := S2.out.n68
  have n67 := S2.out.n67
  have nx8 : ¬ bx = g8 := blk_ne KY.out S2.out.b8 (by decide)
  have nx7 : ¬ bx = g7 := blk_ne KY.out S2.out.b7 (by decide)
  have nx6 : ¬ bx = g6 := blk_ne KY.out S2.out.b6 (by decide)
  have x0 := blk_cell KY.out 0
  have x1 := blk_cell KY.out 1
  have x4 := blk_cell KY.out 4
  have x5 := blk_cell KY.out 5
  have x6 := blk_cell KY.out 6
  have x7 := blk_cell KY.out 7
  have y0 := blk_cell S2.out.b7 0
  have y1 := blk_cell S2.out.b7 1
  have yf := blk_frozen S2.out.b7
  have v0 := blk_cell S2.out.b6 0
  have v1_ := blk_cell S2.out.b6 1
  have vf := blk_frozen S2.out.b6
  have td := S2.out.ctemp d hd0 hd1
  have tf := blk_frozen S2.out.b8
  obtain ⟨Av, cv, rfl⟩ := Kd.R_slice S2.out.RT
  go_wp2
  refine GO.out ⟨i + 1, 0, T.set d.toNat (wrap64 (rd T a * rd T b)), answers.drop used, []⟩ _ _ used (.slice Av acts.length cv) rfl rfl ?fr rfl (by omega) ?st
  case fr => unfold RrFrame; (repeat apply Exists.intro); exact rfl
  case st => show Rr w _ g6 g7 g8 _ _ (acts ++ []); rw [List.append_nil]; exact (S2.out.put_temp d _).alloc _
set_option maxHeartbeats 8000000 in
set_option maxRecDepth 100000 in
theorem rr_8n {A : Option Addr} {c : Nat} {code : List S40} {Al : Option Addr} {cl : Nat} {l : List S80} {An : Option Addr} {cn : Nat} {answers : List Int} {w wr : World} {g6 g7 g8 : Nat} {T : List Int} {vt : Value} {acts : List S47} {i used : Nat} {d a b loc len kk tt : Int} {u3 u4 u5 u18 u19 u20 u21 u22 : Value} {R : Exit → Act → World → Prop}
    (H : Rround A c code Al cl l An cn answers w wr g6 g7 g8 T vt acts i used ⟨8, d, a, b, loc, len, kk, tt⟩ u3 u4 u5 u18 u19 u20 u21 u22 R) (hz : used = answers.length) (u11 u12 u13 u14 u15 u16 u17 u23 u24 u25 u26 u27 u28 u29 u30 u31 u32 u33 u34 u35 u36 u37 u38 u39 u40 u41 u42 u43 u44 u45 u46 u47 u48 u49 u50 u51 u52 u53 u54 u55 u56 u57 u58 u59 u60 u61 u62 u63 u64 u65 u66 u67 u68 u69 u70 u71 u72 u73 u74 u75 u76 u77 u78 u79 u80 u81 u82 u83 u84 u85 u86 u87 u88 u89 u90 u91 u92 u93 u94 u95 u96 u97 u98 u99 u100 u101 u102 u103 u104 u105 u106 u107 u108 u109 u110 u111 u112 u113 u114 u115 u116 u117 u118 u119 u120 u121 u122 u123 u124 u125 u126 u127 u128 u129 u130 u131 u132 u133 u134 u135 u136 u137 u138 u139 u140 u141 u142 u143 u144 u145 u146 u147 u148 u149 u150 u151 u152 u153 u154 u155 u156 u157 u158 u159 u160 u161 u162 u163 u164 u165 u166 u167 u168 u169 u170 u171 u172 u173 u174 u175 u176 u177 u178 u179 u180 u181 u182 u183 u184 u185 u186 u187 u188 u189 u190 u191 u192 u193 u194 u195 u196 u197 u198 u199 u200 u201 u202 u203 u204 u205 u206 u207 u208 u209 u210 u211 u212 u213 u214 u215 u216 u217 u218 u219 u220 u221 u222 u223 u224 u225 u226 u227 u228 u229 u230 u231 u232 u233 u234 u235 u236 u237 u238 u239 u240 u241 u242 u243 u244 u245 : Value) :
    rrunBody.wp Try.prog R { tmps := #[.slice A code.length c, .slice Al l.length cl, .slice An answers.length cn, u3, u4, u5, .pointer (some ⟨g6, 0, none⟩), .pointer (some ⟨g7, 0, none⟩), .pointer (some ⟨g8, 0, none⟩), .int .i64 (i : Int), .int .i64 (used : Int), u11, u12, u13, u14, u15, u16, u17, u18, u19, u20, u21, u22, u23, u24, u25, u26, u27, u28, u29, u30, u31, u32, u33, u34, u35, u36, u37, u38, u39, u40, u41, u42, u43, u44, u45, u46, u47, u48, u49, u50, u51, u52, u53, u54, u55, u56, u57, u58, u59, u60, u61, u62, u63, u64, u65, u66, u67, u68, u69, u70, u71, u72, u73, u74, u75, u76, u77, u78, u79, u80, u81, u82, u83, u84, u85, u86, u87, u88, u89, u90, u91, u92, u93, u94, u95, u96, u97, u98, u99, u100, u101, u102, u103, u104, u105, u106, u107, u108, u109, u110, u111, u112, u113, u114, u115, u116, u117, u118, u119, u120, u121, u122, u123, u124, u125, u126, u127, u128, u129, u130, u131, u132, u133, u134, u135, u136, u137, u138, u139, u140, u141, u142, u143, u144, u145, u146, u147, u148, u149, u150, u151, u152, u153, u154, u155, u156, u157, u158, u159, u160, u161, u162, u163, u164, u165, u166, u167, u168, u169, u170, u171, u172, u173, u174, u175, u176, u177, u178, u179, u180, u181, u182, u183, u184, u185, u186, u187, u188, u189, u190, u191, u192, u193, u194, u195, u196, u197, u198, u199, u200, u201, u202, u203, u204, u205, u206, u207, u208, u209, u210, u211, u212, u213, u214, u215, u216, u217, u218, u219, u220, u221, u222, u223, u224, u225, u226, u227, u228, u229, u230, u231, u232, u233, u234, u235, u236, u237, u238, u239, u240, u241, u242, u243, u244, u245], defers := [] } wr := by
  obtain ⟨S, hC, hA, hi, hn, hx, hu, hal, hac, ⟨hd0, hd1⟩, ⟨ha0, ha1⟩, ⟨hb0, hb1⟩, hgo, hret⟩ := H
  have HC := Aside0.mk hC
  have HA := Aside0.mk hA
  have GO := Aside0.mk hgo
  have RET := Aside0.mk hret
  have HAC := Aside0.mk hac
  obtain ⟨ad1, ea, k0, k1, k2, k3, k4, k5, k6, k7⟩ := at_T40 (Kd.C_below HC.out S.HB) (i : Int) (by omega) (by omega)
  cases ea
  simp only [Int.toNat_natCast] at k0 k1 k2 k3 k4 k5 k6 k7
  rw [hx] at k0 k1 k2 k3 k4 k5 k6 k7
  dsimp only at k0 k1 k2 k3 k4 k5 k6 k7 hd0 hd1 ha0 ha1 hb0 hb1
  have q1 : ((i : Int) < (code.length : Int)) = True := eq_true (by omega)
  have q0 : (0 ≤ (i : Int)) = True := eq_true (by omega)
  have S0 := Aside0.mk S
  clear S hC hA hgo hret hx hac
  have KX : Aside0 ((wr.alloc (.cells #[.int .i64 8, .int .i64 d, .int .i64 a, .int .i64 b, .int .i64 loc, .int .i64 len, .int .i64 kk, .int .i64 tt] 40)).heap[wr.heap.size]? = some (.cells #[.int .i64 8, .int .i64 d, .int .i64 a, .int .i64 b, .int .i64 loc, .int .i64 len, .int .i64 kk, .int .i64 tt] 40 (0, 0))) := ⟨blk_new _ _⟩
  have S1 := Aside0.mk (S0.out.alloc (.cells #[.int .i64 8, .int .i64 d, .int .i64 a, .int .i64 b, .int .i64 loc, .int .i64 len, .int .i64 kk, .int .i64 tt] 40))
  unfold rrunBody Try.f17
  dsimp only
  go_wp2_with fail
  generalize hW1 : (wr.alloc (.cells #[.int .i64 8, .int .i64 d, .int .i64 a, .int .i64 b, .int .i64 loc, .int .i64 len, .int .i64 kk, .int .i64 tt] 40)) = W1 at KX S1 ⊢
  clear hW1 k0 k1 k2 k3 k4 k5 k6 k7 S0
  generalize wr.heap.size = bx at KX ⊢
  have x2 := blk_cell KX.out 2
  have x3 := blk_cell KX.out 3
  have hta := S1.out.ctemp a ha0 ha1
  have htb := S1.out.ctemp b hb0 hb1
  go_quiet (fail)
  generalize hW2 : W1.drewN nq = W2
  have KY : Aside0 (W2.heap[bx]? = some (.cells #[.int .i64 8, .int .i64 d, .int .i64 a, .int .i64 b, .int .i64 loc, .int .i64 len, .int .i64 kk, .int .i64 tt] 40 (0, 0))) := ⟨by rw [← hW2]; exact blk_drewN KX.out _⟩
  have S2 : Aside0 (Rr w W2 g6 g7 g8 T vt acts) := ⟨by rw [← hW2]; exact S1.out.drewN _⟩
  clear hW2 KX S1 x2 x3 hta htb
  have hl7 := blk_lt S2.out.b7
  have hl8 := blk_lt S2.out.b8
  have hlx := blk_lt KY.out
  have hl6 := blk_lt S2.out.b6
  have n78 := S2.out.n78
  have n68 := S2.out.n68
  have n67 := S2.out.n67
  have nx8 : ¬ bx = g8 := blk_ne KY.out S2.out.b8 (by decide)
  have nx7 : ¬ bx = g7 := blk_ne KY.out S2.out.b7 (by decide)
  have nx6 : ¬ bx = g6 := blk_ne KY.out S2.out.b6 (by decide)
  have x0 := blk_cell KY.out 0
  have x1 := blk_cell KY.out 1
  have x4 := blk_cell KY.out 4
  have x5 := blk_cell KY.out 5
  have x6 := blk_cell KY.out 6
  have x7 := blk_cell KY.out 7
  have y0 := blk_cell S2.out.b7 0
  have y1 := blk_cell S2.out.b7 1
  have yf := blk_frozen S2.out.b7
  have v0 := blk_cell S2.out.b6 0
  have v1_ := blk_cell S2.out.b6 1
  have vf := blk_frozen S2.out.b6
  have td := S2.out.ctemp d hd0 hd1
  have tf := blk_frozen S2.out.b8
  obtain ⟨Av, cv, rfl⟩ := Kd.R_slice S2.out.RT
  have hu2 : used = answers.length := hz
  have HD0 : Aside0 (answers.drop used = []) := ⟨by rw [hu2]; simp⟩
  have c9 : (used == answers.length) = true := by rw [hu2]; simp
  have c8 : ((used : Int) == (answers.length : Int)) = true := by rw [hu2]; simp
  clear hz hu2
  have hst : stp ⟨8, d, a, b, loc, len, kk, tt⟩ i T (answers.drop used) = ⟨0, 4, T, answers.drop used, []⟩ := by rw [HD0.out]; rfl
  have HS := Aside0.mk hst
  clear hst
  go_wp2
  have hfin := S2.out.fin 4 _ rfl
  exact RET.out ⟨0, 4, T, answers.drop used, []⟩ _ _ HS.out (show (4 : Int) ≠ 0 by decide) rfl rfl rfl hfin.2.2.1 hfin.2.2.2 hfin.1 hfin.2.1
set_option maxHeartbeats 8000000 in
set_option maxRecDepth 100000 in
theorem rr_6 {A : Option Addr} {c : Nat} {code : List S40} {Al : Option Addr} {cl : Nat} {l : List S80} {An : Option Addr} {cn : Nat} {answers : List Int} {w wr : World} {g6 g7 g8 : Nat} {T : List Int} {vt : Value} {acts : List S47} {i used : Nat} {d a b loc len kk tt : Int} {u3 u4 u5 u18 u19 u20 u21 u22 : Value} {R : Exit → Act → World → Prop}
    (H : Rround A c code Al cl l An cn answers w wr g6 g7 g8 T vt acts i used ⟨6, d, a, b, loc, len, kk, tt⟩ u3 u4 u5 u18 u19 u20 u21 u22 R) (hz : used < answers.length) (u11 u12 u13 u14 u15 u16 u17 u23 u24 u25 u26 u27 u28 u29 u30 u31 u32 u33 u34 u35 u36 u37 u38 u39 u40 u41 u42 u43 u44 u45 u46 u47 u48 u49 u50 u51 u52 u53 u54 u55 u56 u57 u58 u59 u60 u61 u62 u63 u64 u65 u66 u67 u68 u69 u70 u71 u72 u73 u74 u75 u76 u77 u78 u79 u80 u81 u82 u83 u84 u85 u86 u87 u88 u89 u90 u91 u92 u93 u94 u95 u96 u97 u98 u99 u100 u101 u102 u103 u104 u105 u106 u107 u108 u109 u110 u111 u112 u113 u114 u115 u116 u117 u118 u119 u120 u121 u122 u123 u124 u125 u126 u127 u128 u129 u130 u131 u132 u133 u134 u135 u136 u137 u138 u139 u140 u141 u142 u143 u144 u145 u146 u147 u148 u149 u150 u151 u152 u153 u154 u155 u156 u157 u158 u159 u160 u161 u162 u163 u164 u165 u166 u167 u168 u169 u170 u171 u172 u173 u174 u175 u176 u177 u178 u179 u180 u181 u182 u183 u184 u185 u186 u187 u188 u189 u190 u191 u192 u193 u194 u195 u196 u197 u198 u199 u200 u201 u202 u203 u204 u205 u206 u207 u208 u209 u210 u211 u212 u213 u214 u215 u216 u217 u218 u219 u220 u221 u222 u223 u224 u225 u226 u227 u228 u229 u230 u231 u232 u233 u234 u235 u236 u237 u238 u239 u240 u241 u242 u243 u244 u245 : Value) :
    rrunBody.wp Try.prog R { tmps := #[.slice A code.length c, .slice Al l.length cl, .slice An answers.length cn, u3, u4, u5, .pointer (some ⟨g6, 0, none⟩), .pointer (some ⟨g7, 0, none⟩), .pointer (some ⟨g8, 0, none⟩), .int .i64 (i : Int), .int .i64 (used : Int), u11, u12, u13, u14, u15, u16, u17, u18, u19, u20, u21, u22, u23, u24, u25, u26, u27, u28, u29, u30, u31, u32, u33, u34, u35, u36, u37, u38, u39, u40, u41, u42, u43, u44, u45, u46, u47, u48, u49, u50, u51, u52, u53, u54, u55, u56, u57, u58, u59, u60, u61, u62, u63, u64, u65, u66, u67, u68, u69, u70, u71, u72, u73, u74, u75, u76, u77, u78, u79, u80, u81, u82, u83, u84, u85, u86, u87, u88, u89, u90, u91, u92, u93, u94, u95, u96, u97, u98, u99, u100, u101, u102, u103, u104, u105, u106, u107, u108, u109, u110, u111, u112, u113, u114, u115, u116, u117, u118, u119, u120, u121, u122, u123, u124, u125, u126, u127, u128, u129, u130, u131, u132, u133, u134, u135, u136, u137, u138, u139, u140, u141, u142, u143, u144, u145, u146, u147, u148, u149, u150, u151, u152, u153, u154, u155, u156, u157, u158, u159, u160, u161, u162, u163, u164, u165, u166, u167, u168, u169, u170, u171, u172, u173, u174, u175, u176, u177, u178, u179, u180, u181, u182, u183, u184, u185, u186, u187, u188, u189, u190, u191, u192, u193, u194, u195, u196, u197, u198, u199, u200, u201, u202, u203, u204, u205, u206, u207, u208, u209, u210, u211, u212, u213, u214, u215, u216, u217, u218, u219, u220, u221, u222, u223, u224, u225, u226, u227, u228, u229, u230, u231, u232, u233, u234, u235, u236, u237, u238, u239, u240, u241, u242, u243, u244, u245], defers := [] } wr := by
  obtain ⟨S, hC, hA, hi, hn, hx, hu, hal, hac, ⟨hd0, hd1⟩, ⟨ha0, ha1⟩, ⟨hb0, hb1⟩, hgo, hret⟩ := H
  have HC := Aside0.mk hC
  have HA := Aside0.mk hA
  have GO := Aside0.mk hgo
  have RET := Aside0.mk hret
  have HAC := Aside0.mk hac
  obtain ⟨ad1, ea, k0, k1, k2, k3, k4, k5, k6, k7⟩ := at_T40 (Kd.C_below HC.out S.HB) (i : Int) (by omega) (by omega)
  cases ea
  simp only [Int.toNat_natCast] at k0 k1 k2 k3 k4 k5 k6 k7
  rw [hx] at k0 k1 k2 k3 k4 k5 k6 k7
  dsimp only at k0 k1 k2 k3 k4 k5 k6 k7 hd0 hd1 ha0 ha1 hb0 hb1
  have q1 : ((i : Int) < (code.length : Int)) = True := eq_true (by omega)
  have q0 : (0 ≤ (i : Int)) = True := eq_true (by omega)
  have S0 := Aside0.mk S
  clear S hC hA hgo hret hx hac
  have KX : Aside0 ((wr.alloc (.cells #[.int .i64 6, .int .i64 d, .int .i64 a, .int .i64 b, .int .i64 loc, .int .i64 len, .int .i64 kk, .int .i64 tt] 40)).heap[wr.heap.size]? = some (.cells #[.int .i64 6, .int .i64 d, .int .i64 a, .int .i64 b, .int .i64 loc, .int .i64 len, .int .i64 kk, .int .i64 tt] 40 (0, 0))) := ⟨blk_new _ _⟩
  have S1 := Aside0.mk (S0.out.alloc (.cells #[.int .i64 6, .int .i64 d, .int .i64 a, .int .i64 b, .int .i64 loc, .int .i64 len, .int .i64 kk, .int .i64 tt] 40))
  unfold rrunBody Try.f17
  dsimp only
  go_wp2_with fail
  generalize hW1 : (wr.alloc (.cells #[.int .i64 6, .int .i64 d, .int .i64 a, .int .i64 b, .int .i64 loc, .int .i64 len, .int .i64 kk, .int .i64 tt] 40)) = W1 at KX S1 ⊢
  clear hW1 k0 k1 k2 k3 k4 k5 k6 k7 S0
  generalize wr.heap.size = bx at KX ⊢
  have x2 := blk_cell KX.out 2
  have x3 := blk_cell KX.out 3
  have hta := S1.out.ctemp a ha0 ha1
  have htb := S1.out.ctemp b hb0 hb1
  go_quiet (fail)
  generalize hW2 : W1.drewN nq = W2
  have KY : Aside0 (W2.heap[bx]? = some (.cells #[.int .i64 6, .int .i64 d, .int .i64 a, .int .i64 b, .int .i64 loc, .int .i64 len, .int .i64 kk, .int .i64 tt] 40 (0, 0))) := ⟨by rw [← hW2]; exact blk_drewN KX.out _⟩
  have S2 : Aside0 (Rr w W2 g6 g7 g8 T vt acts) := ⟨by rw [← hW2]; exact S1.out.drewN _⟩
  clear hW2 KX S1 x2 x3 hta htb
  have hl7 := blk_lt S2.out.b7
  have hl8 := blk_lt S2.out.b8
  have hlx := blk_lt KY.out
  have hl6 := blk_lt S2.out.b6
  have n78 := S2.out.n78
  have n68 := S2.out.n68
  have n67 := S2.out.n67
  have nx8 : ¬ bx = g8 := blk_ne KY.out S2.out.b8 (by decide)
  have nx7 : ¬ bx = g7 := blk_ne KY.out S2.out.b7 (by decide)
  have nx6 : ¬ bx = g6 := blk_ne KY.out S2.out.b6 (by decide)
  have x0 := blk_cell KY.out 0
  have x1 := blk_cell KY.out 1
  have x4 := blk_cell KY.out 4
  have x5 := blk_cell KY.out 5
  have x6 := blk_cell KY.out 6
  have x7 := blk_cell KY.out 7
  have y0 := blk_cell S2.out.b7 0
  have y1 := blk_cell S2.out.b7 1
  have yf := blk_frozen S2.out.b7
  have v0 := blk_cell S2.out.b6 0
  have v1_ := blk_cell S2.out.b6 1
  have vf := blk_frozen S2.out.b6
  have td := S2.out.ctemp d hd0 hd1
  have tf := blk_frozen S2.out.b8
  obtain ⟨Av, cv, rfl⟩ := Kd.R_slice S2.out.RT
  have HD0 := Aside0.mk (drop_cons answers used hz)
  have c9 : (used == answers.length) = false := beq_eq_false_iff_ne.2 (by omega)
  have c8 : ((used : Int) == (answers.length : Int)) = false := beq_eq_false_iff_ne.2 (by omega)
  have r1 : ((used : Int) < (answers.length : Int)) = True := eq_true (by omega)
  have r0 : (0 ≤ (used : Int)) = True := eq_true (by omega)
  have r2 : used ≤ 100000 := by omega
  obtain ⟨ad2, ea2, hx2⟩ := Kd.at_int (Kd.C_below HA.out S2.out.HB) (used : Int) (by omega) (by omega)
  cases ea2
  simp only [Int.toNat_natCast] at hx2
  generalize rd answers (used : Int) = n at HD0 hx2
  have hst : stp ⟨6, d, a, b, loc, len, kk, tt⟩ i T (answers.drop used) = ⟨i + 1, 0, T.set d.toNat n, answers.drop (used + 1), [⟨1, loc, n, 0⟩]⟩ := by rw [HD0.out]; rfl
  have HS := Aside0.mk hst
  clear hst
  have SA := Aside0.mk ((S2.out.put_temp d n).alloc (.cells #[.int .i64 (1), .int .i64 (loc), .int .i64 (n), .int .i64 (0)] 47))
  go_wp2_with (at_builtin; refine Kd.R_append k47 (w0 := w) w.heap.size rfl _ _ 29 47 _ 32 rfl Try.underlying29 info47 rfl (by decide) (by decide) (.slice Av acts.length cv) acts ⟨1, loc, n, 0⟩ [.int .i64 (1), .int .i64 (loc), .int .i64 (n), .int .i64 (0)] (fun _ => True) (fun _ => False) rfl ?hx1 (k47_mkM _ _ _ ⟨1, loc, n, 0⟩) (fun _ h => h.elim) (fun _ _ => trivial) SA.out.RT SA.out.HB SA.out.HB.size ?hx2 ?_; (case hx1 => simp [Act.eval]); (case hx2 => (have := HAC.out; omega)); intro v9 w9 hR hB9 hg9 hat9; obtain ⟨A9, c9, rfl⟩ := Kd.R_slice hR; have S9 := Aside0.mk (SA.out.put_acts hg9 hB9 hR); have z7 := blk_cell (blk_grown SA.out.b7 hg9 (Kd.R_ne SA.out.RT SA.out.b7 (by decide))) 0; have f7 := blk_frozen (blk_grown SA.out.b7 hg9 (Kd.R_ne SA.out.RT SA.out.b7 (by decide))); clear hR hB9 hg9 hat9)
  have h9 := S9.out
  simp only [List.length_append, List.length_cons, List.length_nil, Nat.zero_add] at h9
  refine GO.out ⟨i + 1, 0, T.set d.toNat n, answers.drop (used + 1), [⟨1, loc, n, 0⟩]⟩ _ _ (used + 1) (.slice A9 (acts.length + 1) c9) HS.out rfl ?fr rfl (by omega) ?st
  case fr => unfold RrFrame; (repeat apply Exists.intro); exact rfl
  case st => exact h9
set_option maxHeartbeats 8000000 in
set_option maxRecDepth 100000 in
theorem rr_13 {A : Option Addr} {c : Nat} {code : List S40} {Al : Option Addr} {cl : Nat} {l : List S80} {An : Option Addr} {cn : Nat} {answers : List Int} {w wr : World} {g6 g7 g8 : Nat} {T : List Int} {vt : Value} {acts : List S47} {i used : Nat} {d a b loc len kk tt : Int} {u3 u4 u5 u18 u19 u20 u21 u22 : Value} {R : Exit → Act → World → Prop}
    (H : Rround A c code Al cl l An cn answers w wr g6 g7 g8 T vt acts i used ⟨13, d, a, b, loc, len, kk, tt⟩ u3 u4 u5 u18 u19 u20 u21 u22 R) (hr0 : 0 ≤ rd T a) (hr1 : rd T a < len) (hz : used < answers.length) (u11 u12 u13 u14 u15 u16 u17 u23 u24 u25 u26 u27 u28 u29 u30 u31 u32 u33 u34 u35 u36 u37 u38 u39 u40 u41 u42 u43 u44 u45 u46 u47 u48 u49 u50 u51 u52 u53 u54 u55 u56 u57 u58 u59 u60 u61 u62 u63 u64 u65 u66 u67 u68 u69 u70 u71 u72 u73 u74 u75 u76 u77 u78 u79 u80 u81 u82 u83 u84 u85 u86 u87 u88 u89 u90 u91 u92 u93 u94 u95 u96 u97 u98 u99 u100 u101 u102 u103 u104 u105 u106 u107 u108 u109 u110 u111 u112 u113 u114 u115 u116 u117 u118 u119 u120 u121 u122 u123 u124 u125 u126 u127 u128 u129 u130 u131 u132 u133 u134 u135 u136 u137 u138 u139 u140 u141 u142 u143 u144 u145 u146 u147 u148 u149 u150 u151 u152 u153 u154 u155 u156 u157 u158 u159 u160 u161 u162 u163 u164 u165 u166 u167 u168 u169 u170 u171 u172 u173 u174 u175 u176 u177 u178 u179 u180 u181 u182 u183 u184 u185 u186 u187 u188 u189 u190 u191 u192 u193 u194 u195 u196 u197 u198 u199 u200 u201 u202 u203 u204 u205 u206 u207 u208 u209 u210 u211 u212 u213 u214 u215 u216 u217 u218 u219 u220 u221 u222 u223 u224 u225 u226 u227 u228 u229 u230 u231 u232 u233 u234 u235 u236 u237 u238 u239 u240 u241 u242 u243 u244 u245 : Value) :
    rrunBody.wp Try.prog R { tmps := #[.slice A code.length c, .slice Al l.length cl, .slice An answers.length cn, u3, u4, u5, .pointer (some ⟨g6, 0, none⟩), .pointer (some ⟨g7, 0, none⟩), .pointer (some ⟨g8, 0, none⟩), .int .i64 (i : Int), .int .i64 (used : Int), u11, u12, u13, u14, u15, u16, u17, u18, u19, u20, u21, u22, u23, u24, u25, u26, u27, u28, u29, u30, u31, u32, u33, u34, u35, u36, u37, u38, u39, u40, u41, u42, u43, u44, u45, u46, u47, u48, u49, u50, u51, u52, u53, u54, u55, u56, u57, u58, u59, u60, u61, u62, u63, u64, u65, u66, u67, u68, u69, u70, u71, u72, u73, u74, u75, u76, u77, u78, u79, u80, u81, u82, u83, u84, u85, u86, u87, u88, u89, u90, u91, u92, u93, u94, u95, u96, u97, u98, u99, u100, u101, u102, u103, u104, u105, u106, u107, u108, u109, u110, u111, u112, u113, u114, u115, u116, u117, u118, u119, u120, u121, u122, u123, u124, u125, u126, u127, u128, u129, u130, u131, u132, u133, u134, u135, u136, u137, u138, u139, u140, u141, u142, u143, u144, u145, u146, u147, u148, u149, u150, u151, u152, u153, u154, u155, u156, u157, u158, u159, u160, u161, u162, u163, u164, u165, u166, u167, u168, u169, u170, u171, u172, u173, u174, u175, u176, u177, u178, u179, u180, u181, u182, u183, u184, u185, u186, u187, u188, u189, u190, u191, u192, u193, u194, u195, u196, u197, u198, u199, u200, u201, u202, u203, u204, u205, u206, u207, u208, u209, u210, u211, u212, u213, u214, u215, u216, u217, u218, u219, u220, u221, u222, u223, u224, u225, u226, u227, u228, u229, u230, u231, u232, u233, u234, u235, u236, u237, u238, u239, u240, u241, u242, u243, u244, u245], defers := [] } wr := by
  obtain ⟨S, hC, hA, hi, hn, hx, hu, hal, hac, ⟨hd0, hd1⟩, ⟨ha0, ha1⟩, ⟨hb0, hb1⟩, hgo, hret⟩ := H
  have HC := Aside0.mk hC
  have HA := Aside0.mk hA
  have GO := Aside0.mk hgo
  have RET := Aside0.mk hret
  have HAC := Aside0.mk hac
  obtain ⟨ad1, ea, k0, k1, k2, k3, k4, k5, k6, k7⟩ := at_T40 (Kd.C_below HC.out S.HB) (i : Int) (by omega) (by omega)
  cases ea
  simp only [Int.toNat_natCast] at k0 k1 k2 k3 k4 k5 k6 k7
  rw [hx] at k0 k1 k2 k3 k4 k5 k6 k7
  dsimp only at k0 k1 k2 k3 k4 k5 k6 k7 hd0 hd1 ha0 ha1 hb0 hb1
  have q1 : ((i : Int) < (code.length : Int)) = True := eq_true (by omega)
  have q0 : (0 ≤ (i : Int)) = True := eq_true (by omega)
  have S0 := Aside0.mk S
  clear S hC hA hgo hret hx hac
  have KX : Aside0 ((wr.alloc (.cells #[.int .i64 13, .int .i64 d, .int .i64 a, .int .i64 b, .int .i64 loc, .int .i64 len, .int .i64 kk, .int .i64 tt] 40)).heap[wr.heap.size]? = some (.cells #[.int .i64 13, .int .i64 d, .int .i64 a, .int .i64 b, .int .i64 loc, .int .i64 len, .int .i64 kk, .int .i64 tt] 40 (0, 0))) := ⟨blk_new _ _⟩
  have S1 := Aside0.mk (S0.out.alloc (.cells #[.int .i64 13, .int .i64 d, .int .i64 a, .int .i64 b, .int .i64 loc, .int .i64 len, .int .i64 kk, .int .i64 tt] 40))
  unfold rrunBody Try.f17
  dsimp only
  go_wp2_with fail
  generalize hW1 : (wr.alloc (.cells #[.int .i64 13, .int .i64 d, .int .i64 a, .int .i64 b, .int .i64 loc, .int .i64 len, .int .i64 kk, .int .i64 tt] 40)) = W1 at KX S1 ⊢
  clear hW1 k0 k1 k2 k3 k4 k5 k6 k7 S0
  generalize wr.heap.size = bx at KX ⊢
  have x2 := blk_cell KX.out 2
  have x3 := blk_cell KX.out 3
  have hta := S1.out.ctemp a ha0 ha1
  have htb := S1.out.ctemp b hb0 hb1
  go_quiet (fail)
  generalize hW2 : W1.drewN nq = W2
  have KY : Aside0 (W2.heap[bx]? = some (.cells #[.int .i64 13, .int .i64 d, .int .i64 a, .int .i64 b, .int .i64 loc, .int .i64 len, .int .i64 kk, .int .i64 tt] 40 (0, 0))) := ⟨by rw [← hW2]; exact blk_drewN KX.out _⟩
  have S2 : Aside0 (Rr w W2 g6 g7 g8 T vt acts) := ⟨by rw [← hW2]; exact S1.out.drewN _⟩
  clear hW2 KX S1 x2 x3 hta htb
  have hl7 := blk_lt S2.out.b7
  have hl8 := blk_lt S2.out.b8
  have hlx := blk_lt KY.out
  have hl6 := blk_lt S2.out.b6
  have n78 := S2.out.n78
  have n68 := S2.out.n68
  have n67 := S2.out.n67
  have nx8 : ¬ bx = g8 := blk_ne KY.out S2.out.b8 (by decide)
  have nx7 : ¬ bx = g7 := blk_ne KY.out S2.out.b7 (by decide)
  have nx6 : ¬ bx = g6 := blk_ne KY.out S2.out.b6 (by decide)
  have x0 := blk_cell KY.out 0
  have x1 := blk_cell KY.out 1
  have x4 := blk_cell KY.out 4
  have x5 := blk_cell KY.out 5
  have x6 := blk_cell KY.out 6
  have x7 := blk_cell KY.out 7
  have y0 := blk_cell S2.out.b7 0
  have y1 := blk_cell S2.out.b7 1
  have yf := blk_frozen S2.out.b7
  have v0 := blk_cell S2.out.b6 0
  have v1_ := blk_cell S2.out.b6 1
  have vf := blk_frozen S2.out.b6
  have td := S2.out.ctemp d hd0 hd1
  have tf := blk_frozen S2.out.b8
  obtain ⟨Av, cv, rfl⟩ := Kd.R_slice S2.out.RT
  have HD0 := Aside0.mk (drop_cons answers used hz)
  have c9 : (used == answers.length) = false := beq_eq_false_iff_ne.2 (by omega)
  have c8 : ((used : Int) == (answers.length : Int)) = false := beq_eq_false_iff_ne.2 (by omega)
  have r1 : ((used : Int) < (answers.length : Int)) = True := eq_true (by omega)
  have r0 : (0 ≤ (used : Int)) = True := eq_true (by omega)
  have r2 : used ≤ 100000 := by omega
  obtain ⟨ad2, ea2, hx2⟩ := Kd.at_int (Kd.C_below HA.out S2.out.HB) (used : Int) (by omega) (by omega)
  cases ea2
  simp only [Int.toNat_natCast] at hx2
  generalize rd answers (used : Int) = n at HD0 hx2
  have HO : outb ⟨13, d, a, b, loc, len, kk, tt⟩ T = false := by simp [outb, hr0, hr1]
  have HOO := Aside0.mk HO
  clear HO
  have e1 : decide (rd T a < 0) = false := decide_eq_false (by omega)
  have e2 : decide (len ≤ rd T a) = false := decide_eq_false (by omega)
  have hst : stp ⟨13, d, a, b, loc, len, kk, tt⟩ i T (answers.drop used) = ⟨i + 1, 0, T.set d.toNat n, answers.drop (used + 1), [⟨1, wrap64 (loc + rd T a), n, 0⟩]⟩ := by rw [HD0.out]; show (if outb ⟨13, d, a, b, loc, len, kk, tt⟩ T then _ else _) = _; rw [if_neg (by rw [HOO.out]; decide)]; rfl
  have HS := Aside0.mk hst
  clear hst
  have SA := Aside0.mk ((S2.out.put_temp d n).alloc (.cells #[.int .i64 (1), .int .i64 (wrap64 (loc + rd T a)), .int .i64 (n), .int .i64 (0)] 47))
  go_wp2_with (at_builtin; refine Kd.R_append k47 (w0 := w) w.heap.size rfl _ _ 29 47 _ 32 rfl Try.underlying29 info47 rfl (by decide) (by decide) (.slice Av acts.length cv) acts ⟨1, wrap64 (loc + rd T a), n, 0⟩ [.int .i64 (1), .int .i64 (wrap64 (loc + rd T a)), .int .i64 (n), .int .i64 (0)] (fun _ => True) (fun _ => False) rfl ?hx1 (k47_mkM _ _ _ ⟨1, wrap64 (loc + rd T a), n, 0⟩) (fun _ h => h.elim) (fun _ _ => trivial) SA.out.RT SA.out.HB SA.out.HB.size ?hx2 ?_; (case hx1 => simp [Act.eval]); (case hx2 => (have := HAC.out; omega)); intro v9 w9 hR hB9 hg9 hat9; obtain ⟨A9, c9, rfl⟩ := Kd.R_slice hR; have S9 := Aside0.mk (SA.out.put_acts hg9 hB9 hR); have z7 := blk_cell (blk_grown SA.out.b7 hg9 (Kd.R_ne SA.out.RT SA.out.b7 (by decide))) 0; have f7 := blk_frozen (blk_grown SA.out.b7 hg9 (Kd.R_ne SA.out.RT SA.out.b7 (by decide))); clear hR hB9 hg9 hat9)
  have h9 := S9.out
  simp only [List.length_append, List.length_cons, List.length_nil, Nat.zero_add] at h9
  refine GO.out ⟨i + 1, 0, T.set d.toNat n, answers.drop (used + 1), [⟨1, wrap64 (loc + rd T a), n, 0⟩]⟩ _ _ (used + 1) (.slice A9 (acts.length + 1) c9) HS.out rfl ?fr rfl (by omega) ?st
  case fr => unfold RrFrame; (repeat apply Exists.intro); exact rfl
  case st => exact h9
set_option maxHeartbeats 8000000 in
set_option maxRecDepth 100000 in
theorem rr_15 {A : Option Addr} {c : Nat} {code : List S40} {Al : Option Addr} {cl : Nat} {l : List S80} {An : Option Addr} {cn : Nat} {answers : List Int} {w wr : World} {g6 g7 g8 : Nat} {T : List Int} {vt : Value} {acts : List S47} {i used : Nat} {d a b loc len kk tt : Int} {u3 u4 u5 u18 u19 u20 u21 u22 : Value} {R : Exit → Act → World → Prop}
    (H : Rround A c code Al cl l An cn answers w wr g6 g7 g8 T vt acts i used ⟨15, d, a, b, loc, len, kk, tt⟩ u3 u4 u5 u18 u19 u20 u21 u22 R) (u11 u12 u13 u14 u15 u16 u17 u23 u24 u25 u26 u27 u28 u29 u30 u31 u32 u33 u34 u35 u36 u37 u38 u39 u40 u41 u42 u43 u44 u45 u46 u47 u48 u49 u50 u51 u52 u53 u54 u55 u56 u57 u58 u59 u60 u61 u62 u63 u64 u65 u66 u67 u68 u69 u70 u71 u72 u73 u74 u75 u76 u77 u78 u79 u80 u81 u82 u83 u84 u85 u86 u87 u88 u89 u90 u91 u92 u93 u94 u95 u96 u97 u98 u99 u100 u101 u102 u103 u104 u105 u106 u107 u108 u109 u110 u111 u112 u113 u114 u115 u116 u117 u118 u119 u120 u121 u122 u123 u124 u125 u126 u127 u128 u129 u130 u131 u132 u133 u134 u135 u136 u137 u138 u139 u140 u141 u142 u143 u144 u145 u146 u147 u148 u149 u150 u151 u152 u153 u154 u155 u156 u157 u158 u159 u160 u161 u162 u163 u164 u165 u166 u167 u168 u169 u170 u171 u172 u173 u174 u175 u176 u177 u178 u179 u180 u181 u182 u183 u184 u185 u186 u187 u188 u189 u190 u191 u192 u193 u194 u195 u196 u197 u198 u199 u200 u201 u202 u203 u204 u205 u206 u207 u208 u209 u210 u211 u212 u213 u214 u215 u216 u217 u218 u219 u220 u221 u222 u223 u224 u225 u226 u227 u228 u229 u230 u231 u232 u233 u234 u235 u236 u237 u238 u239 u240 u241 u242 u243 u244 u245 : Value) :
    rrunBody.wp Try.prog R { tmps := #[.slice A code.length c, .slice Al l.length cl, .slice An answers.length cn, u3, u4, u5, .pointer (some ⟨g6, 0, none⟩), .pointer (some ⟨g7, 0, none⟩), .pointer (some ⟨g8, 0, none⟩), .int .i64 (i : Int), .int .i64 (used : Int), u11, u12, u13, u14, u15, u16, u17, u18, u19, u20, u21, u22, u23, u24, u25, u26, u27, u28, u29, u30, u31, u32, u33, u34, u35, u36, u37, u38, u39, u40, u41, u42, u43, u44, u45, u46, u47, u48, u49, u50, u51, u52, u53, u54, u55, u56, u57, u58, u59, u60, u61, u62, u63, u64, u65, u66, u67, u68, u69, u70, u71, u72, u73, u74, u75, u76, u77, u78, u79, u80, u81, u82, u83, u84, u85, u86, u87, u88, u89, u90, u91, u92, u93, u94, u95, u96, u97, u98, u99, u100, u101, u102, u103, u104, u105, u106, u107, u108, u109, u110, u111, u112, u113, u114, u115, u116, u117, u118, u119, u120, u121, u122, u123, u124, u125, u126, u127, u128, u129, u130, u131, u132, u133, u134, u135, u136, u137, u138, u139, u140, u141, u142, u143, u144, u145, u146, u147, u148, u149, u150, u151, u152, u153, u154, u155, u156, u157, u158, u159, u160, u161, u162, u163, u164, u165, u166, u167, u168, u169, u170, u171, u172, u173, u174, u175, u176, u177, u178, u179, u180, u181, u182, u183, u184, u185, u186, u187, u188, u189, u190, u191, u192, u193, u194, u195, u196, u197, u198, u199, u200, u201, u202, u203, u204, u205, u206, u207, u208, u209, u210, u211, u212, u213, u214, u215, u216, u217, u218, u219, u220, u221, u222, u223, u224, u225, u226, u227, u228, u229, u230, u231, u232, u233, u234, u235, u236, u237, u238, u239, u240, u241, u242, u243, u244, u245], defers := [] } wr := by
  obtain ⟨S, hC, hA, hi, hn, hx, hu, hal, hac, ⟨hd0, hd1⟩, ⟨ha0, ha1⟩, ⟨hb0, hb1⟩, hgo, hret⟩ := H
  have HC := Aside0.mk hC
  have HA := Aside0.mk hA
  have GO := Aside0.mk hgo
  have RET := Aside0.mk hret
  have HAC := Aside0.mk hac
  obtain ⟨ad1, ea, k0, k1, k2, k3, k4, k5, k6, k7⟩ := at_T40 (Kd.C_below HC.out S.HB) (i : Int) (by omega) (by omega)
  cases ea
  simp only [Int.toNat_natCast] at k0 k1 k2 k3 k4 k5 k6 k7
  rw [hx] at k0 k1 k2 k3 k4 k5 k6 k7
  dsimp only at k0 k1 k2 k3 k4 k5 k6 k7 hd0 hd1 ha0 ha1 hb0 hb1
  have q1 : ((i : Int) < (code.length : Int)) = True := eq_true (by omega)
  have q0 : (0 ≤ (i : Int)) = True := eq_true (by omega)
  have S0 := Aside0.mk S
  clear S hC hA hgo hret hx hac
  have KX : Aside0 ((wr.alloc (.cells #[.int .i64 15, .int .i64 d, .int .i64 a, .int .i64 b, .int .i64 loc, .int .i64 len, .int .i64 kk, .int .i64 tt] 40)).heap[wr.heap.size]? = some (.cells #[.int .i64 15, .int .i64 d, .int .i64 a, .int .i64 b, .int .i64 loc, .int .i64 len, .int .i64 kk, .int .i64 tt] 40 (0, 0))) := ⟨blk_new _ _⟩
  have S1 := Aside0.mk (S0.out.alloc (.cells #[.int .i64 15, .int .i64 d, .int .i64 a, .int .i64 b, .int .i64 loc, .int .i64 len, .int .i64 kk, .int .i64 tt] 40))
  unfold rrunBody Try.f17
  dsimp only
  go_wp2_with fail
  generalize hW1 : (wr.alloc (.cells #[.int .i64 15, .int .i64 d, .int .i64 a, .int .i64 b, .int .i64 loc, .int .i64 len, .int .i64 kk, .int .i64 tt] 40)) = W1 at KX S1 ⊢
  clear hW1 k0 k1 k2 k3 k4 k5 k6 k7 S0
  generalize wr.heap.size = bx at KX ⊢
  have x2 := blk_cell KX.out 2
  have x3 := blk_cell KX.out 3
  have hta := S1.out.ctemp a ha0 ha1
  have htb := S1.out.ctemp b hb0 hb1
  go_quiet (fail)
  generalize hW2 : W1.drewN nq = W2
  have KY : Aside0 (W2.heap[bx]? = some (.cells #[.int .i64 15, .int .i64 d, .int .i64 a, .int .i64 b, .int .i64 loc, .int .i64 len, .int .i64 kk, .int .i64 tt] 40 (0, 0))) := ⟨by rw [← hW2]; exact blk_drewN KX.out _⟩
  have S2 : Aside0 (Rr w W2 g6 g7 g8 T vt acts) := ⟨by rw [← hW2]; exact S1.out.drewN _⟩
  clear hW2 KX S1 x2 x3 hta htb
  have hl7 := blk_lt S2.out.b7
  have hl8 := blk_lt S2.out.b8
  have hlx := blk_lt KY.out
  have hl6 := blk_lt S2.out.b6
  have n78 := S2.out.n78
  have n68 := S2.out.n68
  have n67 := S2.out.n67
  have nx8 : ¬ bx = g8 := blk_ne KY.out S2.out.b8 (by decide)
  have nx7 : ¬ bx = g7 := blk_ne KY.out S2.out.b7 (by decide)
  have nx6 : ¬ bx = g6 := blk_ne KY.out S2.out.b6 (by decide)
  have x0 := blk_cell KY.out 0
  have x1 := blk_cell KY.out 1
  have x4 := blk_cell KY.out 4
  have x5 := blk_cell KY.out 5
  have x6 := blk_cell KY.out 6
  have x7 := blk_cell KY.out 7
  have y0 := blk_cell S2.out.b7 0
  have y1 := blk_cell S2.out.b7 1
  have yf := blk_frozen S2.out.b7
  have v0 := blk_cell S2.out.b6 0
  have v1_ := blk_cell S2.out.b6 1
  have vf := blk_frozen S2.out.b6
  have td := S2.out.ctemp d hd0 hd1
  have tf := blk_frozen S2.out.b8
  obtain ⟨Av, cv, rfl⟩ := Kd.R_slice S2.out.RT
  have hst : stp ⟨15, d, a, b, loc, len, kk, tt⟩ i T (answers.drop used) = ⟨i + 1, 0, T, answers.drop used, [⟨6, 0, 0, rd T a⟩]⟩ := by rfl
  have HS := Aside0.mk hst
  clear hst
  have SA := Aside0.mk (S2.out.alloc (.cells #[.int .i64 (6), .int .i64 (0), .int .i64 (0), .int .i64 (rd T a)] 47))
  go_wp2_with (at_builtin; refine Kd.R_append k47 (w0 := w) w.heap.size rfl _ _ 29 47 _ 32 rfl Try.underlying29 info47 rfl (by decide) (by decide) (.slice Av acts.length cv) acts ⟨6, 0, 0, rd T a⟩ [.int .i64 (6), .int .i64 (0), .int .i64 (0), .int .i64 (rd T a)] (fun _ => True) (fun _ => False) rfl ?hx1 (k47_mkM _ _ _ ⟨6, 0, 0, rd T a⟩) (fun _ h => h.elim) (fun _ _ => trivial) SA.out.RT SA.out.HB SA.out.HB.size ?hx2 ?_; (case hx1 => simp [Act.eval]); (case hx2 => (have := HAC.out; omega)); intro v9 w9 hR hB9 hg9 hat9; obtain ⟨A9, c9, rfl⟩ := Kd.R_slice hR; have S9 := Aside0.mk (SA.out.put_acts hg9 hB9 hR); have z7 := blk_cell (blk_grown SA.out.b7 hg9 (Kd.R_ne SA.out.RT SA.out.b7 (by decide))) 0; have f7 := blk_frozen (blk_grown SA.out.b7 hg9 (Kd.R_ne SA.out.RT SA.out.b7 (by decide))); clear hR hB9 hg9 hat9)
  have h9 := S9.out
  simp only [List.length_append, List.length_cons, List.length_nil, Nat.zero_add] at h9
  refine GO.out ⟨i + 1, 0, T, answers.drop used, [⟨6, 0, 0, rd T a⟩]⟩ _ _ used (.slice A9 (acts.length + 1) c9) HS.out rfl ?fr rfl (by omega) ?st
  case fr => unfold RrFrame; (repeat apply Exists.intro); exact rfl
  case st => exact h9
set_option maxHeartbeats 8000000 in
set_option maxRecDepth 100000 in
theorem rr_14l {A : Option Addr} {c : Nat} {code : List S40} {Al : Option Addr} {cl : Nat} {l : List S80} {An : Option Addr} {cn : Nat} {answers : List Int} {w wr : World} {g6 g7 g8 : Nat} {T : List Int} {vt : Value} {acts : List S47} {i used : Nat} {d a b loc len kk tt : Int} {u3 u4 u5 u18 u19 u20 u21 u22 : Value} {R : Exit → Act → World → Prop}
    (H : Rround A c code Al cl l An cn answers w wr g6 g7 g8 T vt acts i used ⟨14, d, a, b, loc, len, kk, tt⟩ u3 u4 u5 u18 u19 u20 u21 u22 R) (hr : rd T a < 0) (u11 u12 u13 u14 u15 u16 u17 u23 u24 u25 u26 u27 u28 u29 u30 u31 u32 u33 u34 u35 u36 u37 u38 u39 u40 u41 u42 u43 u44 u45 u46 u47 u48 u49 u50 u51 u52 u53 u54 u55 u56 u57 u58 u59 u60 u61 u62 u63 u64 u65 u66 u67 u68 u69 u70 u71 u72 u73 u74 u75 u76 u77 u78 u79 u80 u81 u82 u83 u84 u85 u86 u87 u88 u89 u90 u91 u92 u93 u94 u95 u96 u97 u98 u99 u100 u101 u102 u103 u104 u105 u106 u107 u108 u109 u110 u111 u112 u113 u114 u115 u116 u117 u118 u119 u120 u121 u122 u123 u124 u125 u126 u127 u128 u129 u130 u131 u132 u133 u134 u135 u136 u137 u138 u139 u140 u141 u142 u143 u144 u145 u146 u147 u148 u149 u150 u151 u152 u153 u154 u155 u156 u157 u158 u159 u160 u161 u162 u163 u164 u165 u166 u167 u168 u169 u170 u171 u172 u173 u174 u175 u176 u177 u178 u179 u180 u181 u182 u183 u184 u185 u186 u187 u188 u189 u190 u191 u192 u193 u194 u195 u196 u197 u198 u199 u200 u201 u202 u203 u204 u205 u206 u207 u208 u209 u210 u211 u212 u213 u214 u215 u216 u217 u218 u219 u220 u221 u222 u223 u224 u225 u226 u227 u228 u229 u230 u231 u232 u233 u234 u235 u236 u237 u238 u239 u240 u241 u242 u243 u244 u245 : Value) :
    rrunBody.wp Try.prog R { tmps := #[.slice A code.length c, .slice Al l.length cl, .slice An answers.length cn, u3, u4, u5, .pointer (some ⟨g6, 0, none⟩), .pointer (some ⟨g7, 0, none⟩), .pointer (some ⟨g8, 0, none⟩), .int .i64 (i : Int), .int .i64 (used : Int), u11, u12, u13, u14, u15, u16, u17, u18, u19, u20, u21, u22, u23, u24, u25, u26, u27, u28, u29, u30, u31, u32, u33, u34, u35, u36, u37, u38, u39, u40, u41, u42, u43, u44, u45, u46, u47, u48, u49, u50, u51, u52, u53, u54, u55, u56, u57, u58, u59, u60, u61, u62, u63, u64, u65, u66, u67, u68, u69, u70, u71, u72, u73, u74, u75, u76, u77, u78, u79, u80, u81, u82, u83, u84, u85, u86, u87, u88, u89, u90, u91, u92, u93, u94, u95, u96, u97, u98, u99, u100, u101, u102, u103, u104, u105, u106, u107, u108, u109, u110, u111, u112, u113, u114, u115, u116, u117, u118, u119, u120, u121, u122, u123, u124, u125, u126, u127, u128, u129, u130, u131, u132, u133, u134, u135, u136, u137, u138, u139, u140, u141, u142, u143, u144, u145, u146, u147, u148, u149, u150, u151, u152, u153, u154, u155, u156, u157, u158, u159, u160, u161, u162, u163, u164, u165, u166, u167, u168, u169, u170, u171, u172, u173, u174, u175, u176, u177, u178, u179, u180, u181, u182, u183, u184, u185, u186, u187, u188, u189, u190, u191, u192, u193, u194, u195, u196, u197, u198, u199, u200, u201, u202, u203, u204, u205, u206, u207, u208, u209, u210, u211, u212, u213, u214, u215, u216, u217, u218, u219, u220, u221, u222, u223, u224, u225, u226, u227, u228, u229, u230, u231, u232, u233, u234, u235, u236, u237, u238, u239, u240, u241, u242, u243, u244, u245], defers := [] } wr := by
  obtain ⟨S, hC, hA, hi, hn, hx, hu, hal, hac, ⟨hd0, hd1⟩, ⟨ha0, ha1⟩, ⟨hb0, hb1⟩, hgo, hret⟩ := H
  have HC := Aside0.mk hC
  have HA := Aside0.mk hA
  have GO := Aside0.mk hgo
  have RET := Aside0.mk hret
  have HAC := Aside0.mk hac
  obtain ⟨ad1, ea, k0, k1, k2, k3, k4, k5, k6, k7⟩ := at_T40 (Kd.C_below HC.out S.HB) (i : Int) (by omega) (by omega)
  cases ea
  simp only [Int.toNat_natCast] at k0 k1 k2 k3 k4 k5 k6 k7
  rw [hx] at k0 k1 k2 k3 k4 k5 k6 k7
  dsimp only at k0 k1 k2 k3 k4 k5 k6 k7 hd0 hd1 ha0 ha1 hb0 hb1
  have q1 : ((i : Int) < (code.length : Int)) = True := eq_true (by omega)
  have q0 : (0 ≤ (i : Int)) = True := eq_true (by omega)
  have S0 := Aside0.mk S
  clear S hC hA hgo hret hx hac
  have KX : Aside0 ((wr.alloc (.cells #[.int .i64 14, .int .i64 d, .int .i64 a, .int .i64 b, .int .i64 loc, .int .i64 len, .int .i64 kk, .int .i64 tt] 40)).heap[wr.heap.size]? = some (.cells #[.int .i64 14, .int .i64 d, .int .i64 a, .int .i64 b, .int .i64 loc, .int .i64 len, .int .i64 kk, .int .i64 tt] 40 (0, 0))) := ⟨blk_new _ _⟩
  have S1 := Aside0.mk (S0.out.alloc (.cells #[.int .i64 14, .int .i64 d, .int .i64 a, .int .i64 b, .int .i64 loc, .int .i64 len, .int .i64 kk, .int .i64 tt] 40))
  unfold rrunBody Try.f17
  dsimp only
  go_wp2_with fail
  generalize hW1 : (wr.alloc (.cells #[.int .i64 14, .int .i64 d, .int .i64 a, .int .i64 b, .int .i64 loc, .int .i64 len, .int .i64 kk, .int .i64 tt] 40)) = W1 at KX S1 ⊢
  clear hW1 k0 k1 k2 k3 k4 k5 k6 k7 S0
  generalize wr.heap.size = bx at KX ⊢
  have x2 := blk_cell KX.out 2
  have x3 := blk_cell KX.out 3
  have hta := S1.out.ctemp a ha0 ha1
  have htb := S1.out.ctemp b hb0 hb1
  go_quiet (fail)
  generalize hW2 : W1.drewN nq = W2
  have KY : Aside0 (W2.heap[bx]? = some (.cells #[.int .i64 14, .int .i64 d, .int .i64 a, .int .i64 b, .int .i64 loc, .int .i64 len, .int .i64 kk, .int .i64 tt] 40 (0, 0))) := ⟨by rw [← hW2]; exact blk_drewN KX.out _⟩
  have S2 : Aside0 (Rr w W2 g6 g7 g8 T vt acts) := ⟨by rw [← hW2]; exact S1.out.drewN _⟩
  clear hW2 KX S1 x2 x3 hta htb
  have hl7 := blk_lt S2.out.b7
  have hl8 := blk_lt S2.out.b8
  have hlx := blk_lt KY.out
  have hl6 := blk_lt S2.out.b6
  have n78 := S2.out.n78
  have n68 := S2.out.n68
  have n67 := S2.out.n67
  have nx8 : ¬ bx = g8 := blk_ne KY.out S2.out.b8 (by decide)
  have nx7 : ¬ bx = g7 := blk_ne KY.out S2.out.b7 (by decide)
  have nx6 : ¬ bx = g6 := blk_ne KY.out S2.out.b6 (by decide)
  have x0 := blk_cell KY.out 0
  have x1 := blk_cell KY.out 1
  have x4 := blk_cell KY.out 4
  have x5 := blk_cell KY.out 5
  have x6 := blk_cell KY.out 6
  have x7 := blk_cell KY.out 7
  have y0 := blk_cell S2.out.b7 0
  have y1 := blk_cell S2.out.b7 1
  have yf := blk_frozen S2.out.b7
  have v0 := blk_cell S2.out.b6 0
  have v1_ := blk_cell S2.out.b6 1
  have vf := blk_frozen S2.out.b6
  have td := S2.out.ctemp d hd0 hd1
  have tf := blk_frozen S2.out.b8
  obtain ⟨Av, cv, rfl⟩ := Kd.R_slice S2.out.RT
  have hst : stp ⟨14, d, a, b, loc, len, kk, tt⟩ i T (answers.drop used) = ⟨0, 3, T, answers.drop used, []⟩ := by show (if outb ⟨14, d, a, b, loc, len, kk, tt⟩ T then _ else _) = _; rw [if_pos (by simp [outb, hr])]; rfl
  have HS := Aside0.mk hst
  have c1 : decide (rd T a < 0) = true := decide_eq_true hr
  clear hst hr
  go_wp2
  have hfin := S2.out.fin 3 _ rfl
  exact RET.out ⟨0, 3, T, answers.drop used, []⟩ _ _ HS.out (show (3 : Int) ≠ 0 by decide) rfl rfl rfl hfin.2.2.1 hfin.2.2.2 hfin.1 hfin.2.1
set_option maxHeartbeats 8000000 in
set_option maxRecDepth 100000 in
theorem rr_17f {A : Option Addr} {c : Nat} {code : List S40} {Al : Option Addr} {cl : Nat} {l : List S80} {An : Option Addr} {cn : Nat} {answers : List Int} {w wr : World} {g6 g7 g8 : Nat} {T : List Int} {vt : Value} {acts : List S47} {i used : Nat} {d a b loc len kk tt : Int} {u3 u4 u5 u18 u19 u20 u21 u22 : Value} {R : Exit → Act → World → Prop}
    (H : Rround A c code Al cl l An cn answers w wr g6 g7 g8 T vt acts i used ⟨17, d, a, b, loc, len, kk, tt⟩ u3 u4 u5 u18 u19 u20 u21 u22 R) (hr : rd T a = rd T b) (u11 u12 u13 u14 u15 u16 u17 u23 u24 u25 u26 u27 u28 u29 u30 u31 u32 u33 u34 u35 u36 u37 u38 u39 u40 u41 u42 u43 u44 u45 u46 u47 u48 u49 u50 u51 u52 u53 u54 u55 u56 u57 u58 u59 u60 u61 u62 u63 u64 u65 u66 u67 u68 u69 u70 u71 u72 u73 u74 u75 u76 u77 u78 u79 u80 u81 u82 u83 u84 u85 u86 u87 u88 u89 u90 u91 u92 u93 u94 u95 u96 u97 u98 u99 u100 u101 u102 u103 u104 u105 u106 u107 u108 u109 u110 u111 u112 u113 u114 u115 u116 u117 u118 u119 u120 u121 u122 u123 u124 u125 u126 u127 u128 u129 u130 u131 u132 u133 u134 u135 u136 u137 u138 u139 u140 u141 u142 u143 u144 u145 u146 u147 u148 u149 u150 u151 u152 u153 u154 u155 u156 u157 u158 u159 u160 u161 u162 u163 u164 u165 u166 u167 u168 u169 u170 u171 u172 u173 u174 u175 u176 u177 u178 u179 u180 u181 u182 u183 u184 u185 u186 u187 u188 u189 u190 u191 u192 u193 u194 u195 u196 u197 u198 u199 u200 u201 u202 u203 u204 u205 u206 u207 u208 u209 u210 u211 u212 u213 u214 u215 u216 u217 u218 u219 u220 u221 u222 u223 u224 u225 u226 u227 u228 u229 u230 u231 u232 u233 u234 u235 u236 u237 u238 u239 u240 u241 u242 u243 u244 u245 : Value) :
    rrunBody.wp Try.prog R { tmps := #[.slice A code.length c, .slice Al l.length cl, .slice An answers.length cn, u3, u4, u5, .pointer (some ⟨g6, 0, none⟩), .pointer (some ⟨g7, 0, none⟩), .pointer (some ⟨g8, 0, none⟩), .int .i64 (i : Int), .int .i64 (used : Int), u11, u12, u13, u14, u15, u16, u17, u18, u19, u20, u21, u22, u23, u24, u25, u26, u27, u28, u29, u30, u31, u32, u33, u34, u35, u36, u37, u38, u39, u40, u41, u42, u43, u44, u45, u46, u47, u48, u49, u50, u51, u52, u53, u54, u55, u56, u57, u58, u59, u60, u61, u62, u63, u64, u65, u66, u67, u68, u69, u70, u71, u72, u73, u74, u75, u76, u77, u78, u79, u80, u81, u82, u83, u84, u85, u86, u87, u88, u89, u90, u91, u92, u93, u94, u95, u96, u97, u98, u99, u100, u101, u102, u103, u104, u105, u106, u107, u108, u109, u110, u111, u112, u113, u114, u115, u116, u117, u118, u119, u120, u121, u122, u123, u124, u125, u126, u127, u128, u129, u130, u131, u132, u133, u134, u135, u136, u137, u138, u139, u140, u141, u142, u143, u144, u145, u146, u147, u148, u149, u150, u151, u152, u153, u154, u155, u156, u157, u158, u159, u160, u161, u162, u163, u164, u165, u166, u167, u168, u169, u170, u171, u172, u173, u174, u175, u176, u177, u178, u179, u180, u181, u182, u183, u184, u185, u186, u187, u188, u189, u190, u191, u192, u193, u194, u195, u196, u197, u198, u199, u200, u201, u202, u203, u204, u205, u206, u207, u208, u209, u210, u211, u212, u213, u214, u215, u216, u217, u218, u219, u220, u221, u222, u223, u224, u225, u226, u227, u228, u229, u230, u231, u232, u233, u234, u235, u236, u237, u238, u239, u240, u241, u242, u243, u244, u245], defers := [] } wr := by
  obtain ⟨S, hC, hA, hi, hn, hx, hu, hal, hac, ⟨hd0, hd1⟩, ⟨ha0, ha1⟩, ⟨hb0, hb1⟩, hgo, hret⟩ := H
  have HC := Aside0.mk hC
  have HA := Aside0.mk hA
  have GO := Aside0.mk hgo
  have RET := Aside0.mk hret
  have HAC := Aside0.mk hac
  obtain ⟨ad1, ea, k0, k1, k2, k3, k4, k5, k6, k7⟩ := at_T40 (Kd.C_below HC.out S.HB) (i : Int) (by omega) (by omega)
  cases ea
  simp only [Int.toNat_natCast] at k0 k1 k2 k3 k4 k5 k6 k7
  rw [hx] at k0 k1 k2 k3 k4 k5 k6 k7
  dsimp only at k0 k1 k2 k3 k4 k5 k6 k7 hd0 hd1 ha0 ha1 hb0 hb1
  have q1 : ((i : Int) < (code.length : Int)) = True := eq_true (by omega)
  have q0 : (0 ≤ (i : Int)) = True := eq_true (by omega)
  have S0 := Aside0.mk S
  clear S hC hA hgo hret hx hac
  have KX : Aside0 ((wr.alloc (.cells #[.int .i64 17, .int .i64 d, .int .i64 a, .int .i64 b, .int .i64 loc, .int .i64 len, .int .i64 kk, .int .i64 tt] 40)).heap[wr.heap.size]? = some (.cells #[.int .i64 17, .int .i64 d, .int .i64 a, .int .i64 b, .int .i64 loc, .int .i64 len, .int .i64 kk, .int .i64 tt] 40 (0, 0))) := ⟨blk_new _ _⟩
  have S1 := Aside0.mk (S0.out.alloc (.cells #[.int .i64 17, .int .i64 d, .int .i64 a, .int .i64 b, .int .i64 loc, .int .i64 len, .int .i64 kk, .int .i64 tt] 40))
  unfold rrunBody Try.f17
  dsimp only
  go_wp2_with fail
  generalize hW1 : (wr.alloc (.cells #[.int .i64 17, .int .i64 d, .int .i64 a, .int .i64 b, .int .i64 loc, .int .i64 len, .int .i64 kk, .int .i64 tt] 40)) = W1 at KX S1 ⊢
  clear hW1 k0 k1 k2 k3 k4 k5 k6 k7 S0
  generalize wr.heap.size = bx at KX ⊢
  have x2 := blk_cell KX.out 2
  have x3 := blk_cell KX.out 3
  have hta := S1.out.ctemp a ha0 ha1
  have htb := S1.out.ctemp b hb0 hb1
  go_quiet (fail)
  generalize hW2 : W1.drewN nq = W2
  have KY : Aside0 (W2.heap[bx]? = some (.cells #[.int .i64 17, .int .i64 d, .int .i64 a, .int .i64 b, .int .i64 loc, .int .i64 len, .int .i64 kk, .int .i64 tt] 40 (0, 0))) := ⟨by rw [← hW2]; exact blk_drewN KX.out _⟩
  have S2 : Aside0 (Rr w W2 g6 g7 g8 T vt acts) := ⟨by rw [← hW2]; exact S1.out.drewN _⟩
  clear hW2 KX S1 x2 x3 hta htb
  have hl7 := blk_lt S2.out.b7
  have hl8 := blk_lt S2.out.b8
  have hlx := blk_lt KY.out
  have hl6 := blk_lt S2.out.b6
  have n78 := S2.out.n78
  have n68 := S2.out.n68
  have n67 := S2.out.n67
  have nx8 : ¬ bx = g8 := blk_ne KY.out S2.out.b8 (by decide)
  have nx7 : ¬ bx = g7 := blk_ne KY.out S2.out.b7 (by decide)
  have nx6 : ¬ bx = g6 := blk_ne KY.out S2.out.b6 (by decide)
  have x0 := blk_cell KY.out 0
  have x1 := blk_cell KY.out 1
  have x4 := blk_cell KY.out 4
  have x5 := blk_cell KY.out 5
  have x6 := blk_cell KY.out 6
  have x7 := blk_cell KY.out 7
  have y0 := blk_cell S2.out.b7 0
  have y1 := blk_cell S2.out.b7 1
  have yf := blk_frozen S2.out.b7
  have v0 := blk_cell S2.out.b6 0
  have v1_ := blk_cell S2.out.b6 1
  have vf := blk_frozen S2.out.b6
  have td := S2.out.ctemp d hd0 hd1
  have tf := blk_frozen S2.out.b8
  obtain ⟨Av, cv, rfl⟩ := Kd.R_slice S2.out.RT
  have hst : stp ⟨17, d, a, b, loc, len, kk, tt⟩ i T (answers.drop used) = ⟨i + 1, 0, T, answers.drop used, []⟩ := by show (if rd T a = rd T b then _ else _) = _; rw [if_pos (by first | exact hr | omega)]; rfl
  have HS := Aside0.mk hst
  have c1 : (rd T a != rd T b) = false := by simpa using hr
  clear hst hr
  go_wp2
  refine GO.out ⟨i + 1, 0, T, answers.drop used, []⟩ _ _ used (.slice Av acts.length cv) HS.out rfl ?fr rfl (by omega) ?st
  case fr => unfold RrFrame; (repeat apply Exists.intro); exact rfl
  case st => show Rr w _ g6 g7 g8 _ _ (acts ++ []); rw [List.append_nil]; exact S2.out.alloc _
set_option maxHeartbeats 8000000 in
set_option maxRecDepth 100000 in
theorem rr_5 {A : Option Addr} {c : Nat} {code : List S40} {Al : Option Addr} {cl : Nat} {l : List S80} {An : Option Addr} {cn : Nat} {answers : List Int} {w wr : World} {g6 g7 g8 : Nat} {T : List Int} {vt : Value} {acts : List S47} {i used : Nat} {d a b loc len kk tt : Int} {u3 u4 u5 u18 u19 u20 u21 u22 : Value} {R : Exit → Act → World → Prop}
    (H : Rround A c code Al cl l An cn answers w wr g6 g7 g8 T vt acts i used ⟨5, d, a, b, loc, len, kk, tt⟩ u3 u4 u5 u18 u19 u20 u21 u22 R) (hz : ¬ rd T b = 0) (u11 u12 u13 u14 u15 u16 u17 u23 u24 u25 u26 u27 u28 u29 u30 u31 u32 u33 u34 u35 u36 u37 u38 u39 u40 u41 u42 u43 u44 u45 u46 u47 u48 u49 u50 u51 u52 u53 u54 u55 u56 u57 u58 u59 u60 u61 u62 u63 u64 u65 u66 u67 u68 u69 u70 u71 u72 u73 u74 u75 u76 u77 u78 u79 u80 u81 u82 u83 u84 u85 u86 u87 u88 u89 u90 u91 u92 u93 u94 u95 u96 u97 u98 u99 u100 u101 u102 u103 u104 u105 u106 u107 u108 u109 u110 u111 u112 u113 u114 u115 u116 u117 u118 u119 u120 u121 u122 u123 u124 u125 u126 u127 u128 u129 u130 u131 u132 u133 u134 u135 u136 u137 u138 u139 u140 u141 u142 u143 u144 u145 u146 u147 u148 u149 u150 u151 u152 u153 u154 u155 u156 u157 u158 u159 u160 u161 u162 u163 u164 u165 u166 u167 u168 u169 u170 u171 u172 u173 u174 u175 u176 u177 u178 u179 u180 u181 u182 u183 u184 u185 u186 u187 u188 u189 u190 u191 u192 u193 u194 u195 u196 u197 u198 u199 u200 u201 u202 u203 u204 u205 u206 u207 u208 u209 u210 u211 u212 u213 u214 u215 u216 u217 u218 u219 u220 u221 u222 u223 u224 u225 u226 u227 u228 u229 u230 u231 u232 u233 u234 u235 u236 u237 u238 u239 u240 u241 u242 u243 u244 u245 : Value) :
    rrunBody.wp Try.prog R { tmps := #[.slice A code.length c, .slice Al l.length cl, .slice An answers.length cn, u3, u4, u5, .pointer (some ⟨g6, 0, none⟩), .pointer (some ⟨g7, 0, none⟩), .pointer (some ⟨g8, 0, none⟩), .int .i64 (i : Int), .int .i64 (used : Int), u11, u12, u13, u14, u15, u16, u17, u18, u19, u20, u21, u22, u23, u24, u25, u26, u27, u28, u29, u30, u31, u32, u33, u34, u35, u36, u37, u38, u39, u40, u41, u42, u43, u44, u45, u46, u47, u48, u49, u50, u51, u52, u53, u54, u55, u56, u57, u58, u59, u60, u61, u62, u63, u64, u65, u66, u67, u68, u69, u70, u71, u72, u73, u74, u75, u76, u77, u78, u79, u80, u81, u82, u83, u84, u85, u86, u87, u88, u89, u90, u91, u92, u93, u94, u95, u96, u97, u98, u99, u100, u101, u102, u103, u104, u105, u106, u107, u108, u109, u110, u111, u112, u113, u114, u115, u116, u117, u118, u119, u120, u121, u122, u123, u124, u125, u126, u127, u128, u129, u130, u131, u132, u133, u134, u135, u136, u137, u138, u139, u140, u141, u142, u143, u144, u145, u146, u147, u148, u149, u150, u151, u152, u153, u154, u155, u156, u157, u158, u159, u160, u161, u162, u163, u164, u165, u166, u167, u168, u169, u170, u171, u172, u173, u174, u175, u176, u177, u178, u179, u180, u181, u182, u183, u184, u185, u186, u187, u188, u189, u190, u191, u192, u193, u194, u195, u196, u197, u198, u199, u200, u201, u202, u203, u204, u205, u206, u207, u208, u209, u210, u211, u212, u213, u214, u215, u216, u217, u218, u219, u220, u221, u222, u223, u224, u225, u226, u227, u228, u229, u230, u231, u232, u233, u234, u235, u236, u237, u238, u239, u240, u241, u242, u243, u244, u245], defers := [] } wr := by
  obtain ⟨S, hC, hA, hi, hn, hx, hu, hal, hac, ⟨hd0, hd1⟩, ⟨ha0, ha1⟩, ⟨hb0, hb1⟩, hgo, hret⟩ := H
  have HC := Aside0.mk hC
  have HA := Aside0.mk hA
  have GO := Aside0.mk hgo
  have RET := Aside0.mk hret
  have HAC := Aside0.mk hac
  obtain ⟨ad1, ea, k0, k1, k2, k3, k4, k5, k6, k7⟩ := at_T40 (Kd.C_below HC.out S.HB) (i : Int) (by omega) (by omega)
  cases ea
  simp only [Int.toNat_natCast] at k0 k1 k2 k3 k4 k5 k6 k7
  rw [hx] at k0 k1 k2 k3 k4 k5 k6 k7
  dsimp only at k0 k1 k2 k3 k4 k5 k6 k7 hd0 hd1 ha0 ha1 hb0 hb1
  have q1 : ((i : Int) < (code.length : Int)) = True := eq_true (by omega)
  have q0 : (0 ≤ (i : Int)) = True := eq_true (by omega)
  have S0 := Aside0.mk S
  clear S hC hA hgo hret hx hac
  have KX : Aside0 ((wr.alloc (.cells #[.int .i64 5, .int .i64 d, .int .i64 a, .int .i64 b, .int .i64 loc, .int .i64 len, .int .i64 kk, .int .i64 tt] 40)).heap[wr.heap.size]? = some (.cells #[.int .i64 5, .int .i64 d, .int .i64 a, .int .i64 b, .int .i64 loc, .int .i64 len, .int .i64 kk, .int .i64 tt] 40 (0, 0))) := ⟨blk_new _ _⟩
  have S1 := Aside0.mk (S0.out.alloc (.cells #[.int .i64 5, .int .i64 d, .int .i64 a, .int .i64 b, .int .i64 loc, .int .i64 len, .int .i64 kk, .int .i64 tt] 40))
  unfold rrunBody Try.f17
  dsimp only
  go_wp2_with fail
  generalize hW1 : (wr.alloc (.cells #[.int .i64 5, .int .i64 d, .int .i64 a, .int .i64 b, .int .i64 loc, .int .i64 len, .int .i64 kk, .int .i64 tt] 40)) = W1 at KX S1 ⊢
  clear hW1 k0 k1 k2 k3 k4 k5 k6 k7 S0
  generalize wr.heap.size = bx at KX ⊢
  have x2 := blk_cell KX.out 2
  have x3 := blk_cell KX.out 3
  have hta := S1.out.ctemp a ha0 ha1
  have htb := S1.out.ctemp b hb0 hb1
  go_quiet (fail)
  generalize hW2 : W1.drewN nq = W2
  have KY : Aside0 (W2.heap[bx]? = some (.cells #[.int .i64 5, .int .i64 d, .int .i64 a, .int .i64 b, .int .i64 loc, .int .i64 len, .int .i64 kk, .int .i64 tt] 40 (0, 0))) := ⟨by rw [← hW2]; exact blk_drewN KX.out _⟩
  have S2 : Aside0 (Rr w W2 g6 g7 g8 T vt acts) := ⟨by rw [← hW2]; exact S1.out.drewN _⟩
  clear hW2 KX S1 x2 x3 hta htb
  have hl7 := blk_lt S2.out.b7
  have hl8 := blk_lt S2.out.b8
  have hlx := blk_lt KY.out
  have hl6 := blk_lt S2.out.b6
  have n78 := S2.out.n78
  have n68 := S2.out.n68
  have n67 := S2.out.n67
  have nx8 : ¬ bx = g8 := blk_ne KY.out S2.out.b8 (by decide)
  have nx7 : ¬ bx = g7 := blk_ne KY.out S2.out.b7 (by decide)
  have nx6 : ¬ bx = g6 := blk_ne KY.out S2.out.b6 (by decide)
  have x0 := blk_cell KY.out 0
  have x1 := blk_cell KY.out 1
  have x4 := blk_cell KY.out 4
  have x5 := blk_cell KY.out 5
  have x6 := blk_cell KY.out 6
  have x7 := blk_cell KY.out 7
  have y0 := blk_cell S2.out.b7 0
  have y1 := blk_cell S2.out.b7 1
  have yf := blk_frozen S2.out.b7
  have v0 := blk_cell S2.out.b6 0
  have v1_ := blk_cell S2.out.b6 1
  have vf := blk_frozen S2.out.b6
  have td := S2.out.ctemp d hd0 hd1
  have tf := blk_frozen S2.out.b8
  obtain ⟨Av, cv, rfl⟩ := Kd.R_slice S2.out.RT
  have hst : stp ⟨5, d, a, b, loc, len, kk, tt⟩ i T (answers.drop used) = ⟨i + 1, 0, T.set d.toNat (wrap64 ((rd T a).tdiv (rd T b))), answers.drop used, []⟩ := by show (if rd T b = 0 then _ else _) = _; rw [if_neg hz]; rfl
  have HS := Aside0.mk hst
  have c1 : (rd T b == 0) = false := beq_eq_false_iff_ne.2 hz
  clear hst
  have x1k : ∀ v cs t, ((W2.setCell ⟨g8, d.toNat, none⟩ v).alloc (.cells cs t)).drew.cell? ⟨bx, 1, none⟩ = some (.int .i64 d) := fun v cs t => pw_cell_below (below_drew1 (below_alloc (Below.refl _ _) _)) ((cell_far (W := W2) (a := ⟨bx, 1, none⟩) (p := ⟨g8, d.toNat, none⟩) nx8 _).trans x1)
  go_wp2
  go_region_held3 (fun w' => w'.cell? ⟨bx, 1, none⟩ = some (.int .i64 d)) (first | go_keep | exact (cell_far nx8 _).trans x1 | exact x1k _ _ _) (fail)
  go_wp2
  refine GO.out ⟨i + 1, 0, T.set d.toNat (wrap64 ((rd T a).tdiv (rd T b))), answers.drop used, []⟩ _ _ used (.slice Av acts.length cv) HS.out rfl ?fr rfl (by omega) ?st
  case fr => unfold RrFrame; (repeat apply Exists.intro); exact rfl
  case st => show Rr w _ g6 g7 g8 _ _ (acts ++ []); rw [List.append_nil, ← IntWalk.i64_left]; exact ((S2.out.put_temp d _).alloc _).drew
end Go.Proofs.Ytdmbnlpcfgphpaa.Q
namespace Go.Proofs.Ytdmbnlpcfgphpaa.Q
open Go.RowKit Go.Proofs.YtdmbnlpcfgphpaaW.PrintWords Go.Proofs.YtdmbnlpcfgphpaaW.PrintLast Go.Proofs.YtdmbnlpcfgphpaaW.PrintMore
set_option linter.unusedVariables false
set_option linter.unusedSimpArgs false
set_option maxHeartbeats 8000000 in
set_option maxRecDepth 100000 in
theorem rr_any {A : Option Addr} {c : Nat} {code : List S40} {Al : Option Addr} {cl : Nat} {l : List S80} {An : Option Addr} {cn : Nat} {answers : List Int} {w wr : World} {g6 g7 g8 : Nat} {T : List Int} {vt : Value} {acts : List S47} {i used : Nat} {x : S40} {u3 u4 u5 u18 u19 u20 u21 u22 : Value} {R : Exit → Act → World → Prop}
    (H : Rround A c code Al cl l An cn answers w wr g6 g7 g8 T vt acts i used x u3 u4 u5 u18 u19 u20 u21 u22 R) (hok : okO x.f0 = true) (u11 u12 u13 u14 u15 u16 u17 u23 u24 u25 u26 u27 u28 u29 u30 u31 u32 u33 u34 u35 u36 u37 u38 u39 u40 u41 u42 u43 u44 u45 u46 u47 u48 u49 u50 u51 u52 u53 u54 u55 u56 u57 u58 u59 u60 u61 u62 u63 u64 u65 u66 u67 u68 u69 u70 u71 u72 u73 u74 u75 u76 u77 u78 u79 u80 u81 u82 u83 u84 u85 u86 u87 u88 u89 u90 u91 u92 u93 u94 u95 u96 u97 u98 u99 u100 u101 u102 u103 u104 u105 u106 u107 u108 u109 u110 u111 u112 u113 u114 u115 u116 u117 u118 u119 u120 u121 u122 u123 u124 u125 u126 u127 u128 u129 u130 u131 u132 u133 u134 u135 u136 u137 u138 u139 u140 u141 u142 u143 u144 u145 u146 u147 u148 u149 u150 u151 u152 u153 u154 u155 u156 u157 u158 u159 u160 u161 u162 u163 u164 u165 u166 u167 u168 u169 u170 u171 u172 u173 u174 u175 u176 u177 u178 u179 u180 u181 u182 u183 u184 u185 u186 u187 u188 u189 u190 u191 u192 u193 u194 u195 u196 u197 u198 u199 u200 u201 u202 u203 u204 u205 u206 u207 u208 u209 u210 u211 u212 u213 u214 u215 u216 u217 u218 u219 u220 u221 u222 u223 u224 u225 u226 u227 u228 u229 u230 u231 u232 u233 u234 u235 u236 u237 u238 u239 u240 u241 u242 u243 u244 u245 : Value) :
    rrunBody.wp Try.prog R { tmps := #[.slice A code.length c, .slice Al l.length cl, .slice An answers.length cn, u3, u4, u5, .pointer (some ⟨g6, 0, none⟩), .pointer (some ⟨g7, 0, none⟩), .pointer (some ⟨g8, 0, none⟩), .int .i64 (i : Int), .int .i64 (used : Int), u11, u12, u13, u14, u15, u16, u17, u18, u19, u20, u21, u22, u23, u24, u25, u26, u27, u28, u29, u30, u31, u32, u33, u34, u35, u36, u37, u38, u39, u40, u41, u42, u43, u44, u45, u46, u47, u48, u49, u50, u51, u52, u53, u54, u55, u56, u57, u58, u59, u60, u61, u62, u63, u64, u65, u66, u67, u68, u69, u70, u71, u72, u73, u74, u75, u76, u77, u78, u79, u80, u81, u82, u83, u84, u85, u86, u87, u88, u89, u90, u91, u92, u93, u94, u95, u96, u97, u98, u99, u100, u101, u102, u103, u104, u105, u106, u107, u108, u109, u110, u111, u112, u113, u114, u115, u116, u117, u118, u119, u120, u121, u122, u123, u124, u125, u126, u127, u128, u129, u130, u131, u132, u133, u134, u135, u136, u137, u138, u139, u140, u141, u142, u143, u144, u145, u146, u147, u148, u149, u150, u151, u152, u153, u154, u155, u156, u157, u158, u159, u160, u161, u162, u163, u164, u165, u166, u167, u168, u169, u170, u171, u172, u173, u174, u175, u176, u177, u178, u179, u180, u181, u182, u183, u184, u185, u186, u187, u188, u189, u190, u191, u192, u193, u194, u195, u196, u197, u198, u199, u200, u201, u202, u203, u204, u205, u206, u207, u208, u209, u210, u211, u212, u213, u214, u215, u216, u217, u218, u219, u220, u221, u222, u223, u224, u225, u226, u227, u228, u229, u230, u231, u232, u233, u234, u235, u236, u237, u238, u239, u240, u241, u242, u243, u244, u245], defers := [] } wr := by
  obtain ⟨o, d, a, b, loc, len, kk, tt⟩ := x
  dsimp only at hok
  rcases op_cases hok with rfl | rfl | rfl | rfl | rfl | rfl | rfl | rfl | rfl | rfl | rfl | rfl | rfl | rfl | rfl | rfl | rfl | rfl
  · exact rr_1 H u11 u12 u13 u14 u15 u16 u17 u23 u24 u25 u26 u27 u28 u29 u30 u31 u32 u33 u34 u35 u36 u37 u38 u39 u40 u41 u42 u43 u44 u45 u46 u47 u48 u49 u50 u51 u52 u53 u54 u55 u56 u57 u58 u59 u60 u61 u62 u63 u64 u65 u66 u67 u68 u69 u70 u71 u72 u73 u74 u75 u76 u77 u78 u79 u80 u81 u82 u83 u84 u85 u86 u87 u88 u89 u90 u91 u92 u93 u94 u95 u96 u97 u98 u99 u100 u101 u102 u103 u104 u105 u106 u107 u108 u109 u110 u111 u112 u113 u114 u115 u116 u117 u118 u119 u120 u121 u122 u123 u124 u125 u126 u127 u128 u129 u130 u131 u132 u133 u134 u135 u136 u137 u138 u139 u140 u141 u142 u143 u144 u145 u146 u147 u148 u149 u150 u151 u152 u153 u154 u155 u156 u157 u158 u159 u160 u161 u162 u163 u164 u165 u166 u167 u168 u169 u170 u171 u172 u173 u174 u175 u176 u177 u178 u179 u180 u181 u182 u183 u184 u185 u186 u187 u188 u189 u190 u191 u192 u193 u194 u195 u196 u197 u198 u199 u200 u201 u202 u203 u204 u205 u206 u207 u208 u209 u210 u211 u212 u213 u214 u215 u216 u217 u218 u219 u220 u221 u222 u223 u224 u225 u226 u227 u228 u229 u230 u231 u232 u233 u234 u235 u236 u237 u238 u239 u240 u241 u242 u243 u244 u245
  · exact rr_2 H u11 u12 u13 u14 u15 u16 u17 u23 u24 u25 u26 u27 u28 u29 u30 u31 u32 u33 u34 u35 u36 u37 u38 u39 u40 u41 u42 u43 u44 u45 u46 u47 u48 u49 u50 u51 u52 u53 u54 u55 u56 u57 u58 u59 u60 u61 u62 u63 u64 u65 u66 u67 u68 u69 u70 u71 u72 u73 u74 u75 u76 u77 u78 u79 u80 u81 u82 u83 u84 u85 u86 u87 u88 u89 u90 u91 u92 u93 u94 u95 u96 u97 u98 u99 u100 u101 u102 u103 u104 u105 u106 u107 u108 u109 u110 u111 u112 u113 u114 u115 u116 u117 u118 u119 u120 u121 u122 u123 u124 u125 u126 u127 u128 u129 u130 u131 u132 u133 u134 u135 u136 u137 u138 u139 u140 u141 u142 u143 u144 u145 u146 u147 u148 u149 u150 u151 u152 u153 u154 u155 u156 u157 u158 u159 u160 u161 u162 u163 u164 u165 u166 u167 u168 u169 u170 u171 u172 u173 u174 u175 u176 u177 u178 u179 u180 u181 u182 u183 u184 u185 u186 u187 u188 u189 u190 u191 u192 u193 u194 u195 u196 u197 u198 u199 u200 u201 u202 u203 u204 u205 u206 u207 u208 u209 u210 u211 u212 u213 u214 u215 u216 u217 u218 u219 u220 u221 u222 u223 u224 u225 u226 u227 u228 u229 u230 u231 u232 u233 u234 u235 u236 u237 u238 u239 u240 u241 u242 u243 u244 u245
  · exact rr_3 H u11 u12 u13 u14 u15 u16 u17 u23 u24 u25 u26 u27 u28 u29 u30 u31 u32 u33 u34 u35 u36 u37 u38 u39 u40 u41 u42 u43 u44 u45 u46 u47 u48 u49 u50 u51 u52 u53 u54 u55 u56 u57 u58 u59 u60 u61 u62 u63 u64 u65 u66 u67 u68 u69 u70 u71 u72 u73 u74 u75 u76 u77 u78 u79 u80 u81 u82 u83 u84 u85 u86 u87 u88 u89 u90 u91 u92 u93 u94 u95 u96 u97 u98 u99 u100 u101 u102 u103 u104 u105 u106 u107 u108 u109 u110 u111 u112 u113 u114 u115 u116 u117 u118 u119 u120 u121 u122 u123 u124 u125 u126 u127 u128 u129 u130 u131 u132 u133 u134 u135 u136 u137 u138 u139 u140 u141 u142 u143 u144 u145 u146 u147 u148 u149 u150 u151 u152 u153 u154 u155 u156 u157 u158 u159 u160 u161 u162 u163 u164 u165 u166 u167 u168 u169 u170 u171 u172 u173 u174 u175 u176 u177 u178 u179 u180 u181 u182 u183 u184 u185 u186 u187 u188 u189 u190 u191 u192 u193 u194 u195 u196 u197 u198 u199 u200 u201 u202 u203 u204 u205 u206 u207 u208 u209 u210 u211 u212 u213 u214 u215 u216 u217 u218 u219 u220 u221 u222 u223 u224 u225 u226 u227 u228 u229 u230 u231 u232 u233 u234 u235 u236 u237 u238 u239 u240 u241 u242 u243 u244 u245
  · exact rr_4 H u11 u12 u13 u14 u15 u16 u17 u23 u24 u25 u26 u27 u28 u29 u30 u31 u32 u33 u34 u35 u36 u37 u38 u39 u40 u41 u42 u43 u44 u45 u46 u47 u48 u49 u50 u51 u52 u53 u54 u55 u56 u57 u58 u59 u60 u61 u62 u63 u64 u65 u66 u67 u68 u69 u70 u71 u72 u73 u74 u75 u76 u77 u78 u79 u80 u81 u82 u83 u84 u85 u86 u87 u88 u89 u90 u91 u92 u93 u94 u95 u96 u97 u98 u99 u100 u101 u102 u103 u104 u105 u106 u107 u108 u109 u110 u111 u112 u113 u114 u115 u116 u117 u118 u119 u120 u121 u122 u123 u124 u125 u126 u127 u128 u129 u130 u131 u132 u133 u134 u135 u136 u137 u138 u139 u140 u141 u142 u143 u144 u145 u146 u147 u148 u149 u150 u151 u152 u153 u154 u155 u156 u157 u158 u159 u160 u161 u162 u163 u164 u165 u166 u167 u168 u169 u170 u171 u172 u173 u174 u175 u176 u177 u178 u179 u180 u181 u182 u183 u184 u185 u186 u187 u188 u189 u190 u191 u192 u193 u194 u195 u196 u197 u198 u199 u200 u201 u202 u203 u204 u205 u206 u207 u208 u209 u210 u211 u212 u213 u214 u215 u216 u217 u218 u219 u220 u221 u222 u223 u224 u225 u226 u227 u228 u229 u230 u231 u232 u233 u234 u235 u236 u237 u238 u239 u240 u241 u242 u243 u244 u245
  · by_cases hz : rd T b = 0
    · exact rr_5z H hz u11 u12 u13 u14 u15 u16 u17 u23 u24 u25 u26 u27 u28 u29 u30 u31 u32 u33 u34 u35 u36 u37 u38 u39 u40 u41 u42 u43 u44 u45 u46 u47 u48 u49 u50 u51 u52 u53 u54 u55 u56 u57 u58 u59 u60 u61 u62 u63 u64 u65 u66 u67 u68 u69 u70 u71 u72 u73 u74 u75 u76 u77 u78 u79 u80 u81 u82 u83 u84 u85 u86 u87 u88 u89 u90 u91 u92 u93 u94 u95 u96 u97 u98 u99 u100 u101 u102 u103 u104 u105 u106 u107 u108 u109 u110 u111 u112 u113 u114 u115 u116 u117 u118 u119 u120 u121 u122 u123 u124 u125 u126 u127 u128 u129 u130 u131 u132 u133 u134 u135 u136 u137 u138 u139 u140 u141 u142 u143 u144 u145 u146 u147 u148 u149 u150 u151 u152 u153 u154 u155 u156 u157 u158 u159 u160 u161 u162 u163 u164 u165 u166 u167 u168 u169 u170 u171 u172 u173 u174 u175 u176 u177 u178 u179 u180 u181 u182 u183 u184 u185 u186 u187 u188 u189 u190 u191 u192 u193 u194 u195 u196 u197 u198 u199 u200 u201 u202 u203 u204 u205 u206 u207 u208 u209 u210 u211 u212 u213 u214 u215 u216 u217 u218 u219 u220 u221 u222 u223 u224 u225 u226 u227 u228 u229 u230 u231 u232 u233 u234 u235 u236 u237 u238 u239 u240 u241 u242 u243 u244 u245
    · exact rr_5 H hz u11 u12 u13 u14 u15 u16 u17 u23 u24 u25 u26 u27 u28 u29 u30 u31 u32 u33 u34 u35 u36 u37 u38 u39 u40 u41 u42 u43 u44 u45 u46 u47 u48 u49 u50 u51 u52 u53 u54 u55 u56 u57 u58 u59 u60 u61 u62 u63 u64 u65 u66 u67 u68 u69 u70 u71 u72 u73 u74 u75 u76 u77 u78 u79 u80 u81 u82 u83 u84 u85 u86 u87 u88 u89 u90 u91 u92 u93 u94 u95 u96 u97 u98 u99 u100 u101 u102 u103 u104 u105 u106 u107 u108 u109 u110 u111 u112 u113 u114 u115 u116 u117 u118 u119 u120 u121 u122 u123 u124 u125 u126 u127 u128 u129 u130 u131 u132 u133 u134 u135 u136 u137 u138 u139 u140 u141 u142 u143 u144 u145 u146 u147 u148 u149 u150 u151 u152 u153 u154 u155 u156 u157 u158 u159 u160 u161 u162 u163 u164 u165 u166 u167 u168 u169 u170 u171 u172 u173 u174 u175 u176 u177 u178 u179 u180 u181 u182 u183 u184 u185 u186 u187 u188 u189 u190 u191 u192 u193 u194 u195 u196 u197 u198 u199 u200 u201 u202 u203 u204 u205 u206 u207 u208 u209 u210 u211 u212 u213 u214 u215 u216 u217 u218 u219 u220 u221 u222 u223 u224 u225 u226 u227 u228 u229 u230 u231 u232 u233 u234 u235 u236 u237 u238 u239 u240 u241 u242 u243 u244 u245
  · rcases Nat.lt_or_ge used answers.length with hz | hz
    · exact rr_6 H hz u11 u12 u13 u14 u15 u16 u17 u23 u24 u25 u26 u27 u28 u29 u30 u31 u32 u33 u34 u35 u36 u37 u38 u39 u40 u41 u42 u43 u44 u45 u46 u47 u48 u49 u50 u51 u52 u53 u54 u55 u56 u57 u58 u59 u60 u61 u62 u63 u64 u65 u66 u67 u68 u69 u70 u71 u72 u73 u74 u75 u76 u77 u78 u79 u80 u81 u82 u83 u84 u85 u86 u87 u88 u89 u90 u91 u92 u93 u94 u95 u96 u97 u98 u99 u100 u101 u102 u103 u104 u105 u106 u107 u108 u109 u110 u111 u112 u113 u114 u115 u116 u117 u118 u119 u120 u121 u122 u123 u124 u125 u126 u127 u128 u129 u130 u131 u132 u133 u134 u135 u136 u137 u138 u139 u140 u141 u142 u143 u144 u145 u146 u147 u148 u149 u150 u151 u152 u153 u154 u155 u156 u157 u158 u159 u160 u161 u162 u163 u164 u165 u166 u167 u168 u169 u170 u171 u172 u173 u174 u175 u176 u177 u178 u179 u180 u181 u182 u183 u184 u185 u186 u187 u188 u189 u190 u191 u192 u193 u194 u195 u196 u197 u198 u199 u200 u201 u202 u203 u204 u205 u206 u207 u208 u209 u210 u211 u212 u213 u214 u215 u216 u217 u218 u219 u220 u221 u222 u223 u224 u225 u226 u227 u228 u229 u230 u231 u232 u233 u234 u235 u236 u237 u238 u239 u240 u241 u242 u243 u244 u245
    · exact rr_6n H (Nat.le_antisymm H.hu hz) u11 u12 u13 u14 u15 u16 u17 u23 u24 u25 u26 u27 u28 u29 u30 u31 u32 u33 u34 u35 u36 u37 u38 u39 u40 u41 u42 u43 u44 u45 u46 u47 u48 u49 u50 u51 u52 u53 u54 u55 u56 u57 u58 u59 u60 u61 u62 u63 u64 u65 u66 u67 u68 u69 u70 u71 u72 u73 u74 u75 u76 u77 u78 u79 u80 u81 u82 u83 u84 u85 u86 u87 u88 u89 u90 u91 u92 u93 u94 u95 u96 u97 u98 u99 u100 u101 u102 u103 u104 u105 u106 u107 u108 u109 u110 u111 u112 u113 u114 u115 u116 u117 u118 u119 u120 u121 u122 u123 u124 u125 u126 u127 u128 u129 u130 u131 u132 u133 u134 u135 u136 u137 u138 u139 u140 u141 u142 u143 u144 u145 u146 u147 u148 u149 u150 u151 u152 u153 u154 u155 u156 u157 u158 u159 u160 u161 u162 u163 u164 u165 u166 u167 u168 u169 u170 u171 u172 u173 u174 u175 u176 u177 u178 u179 u180 u181 u182 u183 u184 u185 u186 u187 u188 u189 u190 u191 u192 u193 u194 u195 u196 u197 u198 u199 u200 u201 u202 u203 u204 u205 u206 u207 u208 u209 u210 u211 u212 u213 u214 u215 u216 u217 u218 u219 u220 u221 u222 u223 u224 u225 u226 u227 u228 u229 u230 u231 u232 u233 u234 u235 u236 u237 u238 u239 u240 u241 u242 u243 u244 u245
  · exact rr_7 H u11 u12 u13 u14 u15 u16 u17 u23 u24 u25 u26 u27 u28 u29 u30 u31 u32 u33 u34 u35 u36 u37 u38 u39 u40 u41 u42 u43 u44 u45 u46 u47 u48 u49 u50 u51 u52 u53 u54 u55 u56 u57 u58 u59 u60 u61 u62 u63 u64 u65 u66 u67 u68 u69 u70 u71 u72 u73 u74 u75 u76 u77 u78 u79 u80 u81 u82 u83 u84 u85 u86 u87 u88 u89 u90 u91 u92 u93 u94 u95 u96 u97 u98 u99 u100 u101 u102 u103 u104 u105 u106 u107 u108 u109 u110 u111 u112 u113 u114 u115 u116 u117 u118 u119 u120 u121 u122 u123 u124 u125 u126 u127 u128 u129 u130 u131 u132 u133 u134 u135 u136 u137 u138 u139 u140 u141 u142 u143 u144 u145 u146 u147 u148 u149 u150 u151 u152 u153 u154 u155 u156 u157 u158 u159 u160 u161 u162 u163 u164 u165 u166 u167 u168 u169 u170 u171 u172 u173 u174 u175 u176 u177 u178 u179 u180 u181 u182 u183 u184 u185 u186 u187 u188 u189 u190 u191 u192 u193 u194 u195 u196 u197 u198 u199 u200 u201 u202 u203 u204 u205 u206 u207 u208 u209 u210 u211 u212 u213 u214 u215 u216 u217 u218 u219 u220 u221 u222 u223 u224 u225 u226 u227 u228 u229 u230 u231 u232 u233 u234 u235 u236 u237 u238 u239 u240 u241 u242 u243 u244 u245
  · rcases Nat.lt_or_ge used answers.length with hz | hz
    · exact rr_8 H hz u11 u12 u13 u14 u15 u16 u17 u23 u24 u25 u26 u27 u28 u29 u30 u31 u32 u33 u34 u35 u36 u37 u38 u39 u40 u41 u42 u43 u44 u45 u46 u47 u48 u49 u50 u51 u52 u53 u54 u55 u56 u57 u58 u59 u60 u61 u62 u63 u64 u65 u66 u67 u68 u69 u70 u71 u72 u73 u74 u75 u76 u77 u78 u79 u80 u81 u82 u83 u84 u85 u86 u87 u88 u89 u90 u91 u92 u93 u94 u95 u96 u97 u98 u99 u100 u101 u102 u103 u104 u105 u106 u107 u108 u109 u110 u111 u112 u113 u114 u115 u116 u117 u118 u119 u120 u121 u122 u123 u124 u125 u126 u127 u128 u129 u130 u131 u132 u133 u134 u135 u136 u137 u138 u139 u140 u141 u142 u143 u144 u145 u146 u147 u148 u149 u150 u151 u152 u153 u154 u155 u156 u157 u158 u159 u160 u161 u162 u163 u164 u165 u166 u167 u168 u169 u170 u171 u172 u173 u174 u175 u176 u177 u178 u179 u180 u181 u182 u183 u184 u185 u186 u187 u188 u189 u190 u191 u192 u193 u194 u195 u196 u197 u198 u199 u200 u201 u202 u203 u204 u205 u206 u207 u208 u209 u210 u211 u212 u213 u214 u215 u216 u217 u218 u219 u220 u221 u222 u223 u224 u225 u226 u227 u228 u229 u230 u231 u232 u233 u234 u235 u236 u237 u238 u239 u240 u241 u242 u243 u244 u245
    · exact rr_8n H (Nat.le_antisymm H.hu hz) u11 u12 u13 u14 u15 u16 u17 u23 u24 u25 u26 u27 u28 u29 u30 u31 u32 u33 u34 u35 u36 u37 u38 u39 u40 u41 u42 u43 u44 u45 u46 u47 u48 u49 u50 u51 u52 u53 u54 u55 u56 u57 u58 u59 u60 u61 u62 u63 u64 u65 u66 u67 u68 u69 u70 u71 u72 u73 u74 u75 u76 u77 u78 u79 u80 u81 u82 u83 u84 u85 u86 u87 u88 u89 u90 u91 u92 u93 u94 u95 u96 u97 u98 u99 u100 u101 u102 u103 u104 u105 u106 u107 u108 u109 u110 u111 u112 u113 u114 u115 u116 u117 u118 u119 u120 u121 u122 u123 u124 u125 u126 u127 u128 u129 u130 u131 u132 u133 u134 u135 u136 u137 u138 u139 u140 u141 u142 u143 u144 u145 u146 u147 u148 u149 u150 u151 u152 u153 u154 u155 u156 u157 u158 u159 u160 u161 u162 u163 u164 u165 u166 u167 u168 u169 u170 u171 u172 u173 u174 u175 u176 u177 u178 u179 u180 u181 u182 u183 u184 u185 u186 u187 u188 u189 u190 u191 u192 u193 u194 u195 u196 u197 u198 u199 u200 u201 u202 u203 u204 u205 u206 u207 u208 u209 u210 u211 u212 u213 u214 u215 u216 u217 u218 u219 u220 u221 u222 u223 u224 u225 u226 u227 u228 u229 u230 u231 u232 u233 u234 u235 u236 u237 u238 u239 u240 u241 u242 u243 u244 u245
  · exact rr_9 H u11 u12 u13 u14 u15 u16 u17 u23 u24 u25 u26 u27 u28 u29 u30 u31 u32 u33 u34 u35 u36 u37 u38 u39 u40 u41 u42 u43 u44 u45 u46 u47 u48 u49 u50 u51 u52 u53 u54 u55 u56 u57 u58 u59 u60 u61 u62 u63 u64 u65 u66 u67 u68 u69 u70 u71 u72 u73 u74 u75 u76 u77 u78 u79 u80 u81 u82 u83 u84 u85 u86 u87 u88 u89 u90 u91 u92 u93 u94 u95 u96 u97 u98 u99 u100 u101 u102 u103 u104 u105 u106 u107 u108 u109 u110 u111 u112 u113 u114 u115 u116 u117 u118 u119 u120 u121 u122 u123 u124 u125 u126 u127 u128 u129 u130 u131 u132 u133 u134 u135 u136 u137 u138 u139 u140 u141 u142 u143 u144 u145 u146 u147 u148 u149 u150 u151 u152 u153 u154 u155 u156 u157 u158 u159 u160 u161 u162 u163 u164 u165 u166 u167 u168 u169 u170 u171 u172 u173 u174 u175 u176 u177 u178 u179 u180 u181 u182 u183 u184 u185 u186 u187 u188 u189 u190 u191 u192 u193 u194 u195 u196 u197 u198 u199 u200 u201 u202 u203 u204 u205 u206 u207 u208 u209 u210 u211 u212 u213 u214 u215 u216 u217 u218 u219 u220 u221 u222 u223 u224 u225 u226 u227 u228 u229 u230 u231 u232 u233 u234 u235 u236 u237 u238 u239 u240 u241 u242 u243 u244 u245
  · rcases Nat.lt_or_ge used answers.length with hz | hz
    · exact rr_10 H hz u11 u12 u13 u14 u15 u16 u17 u23 u24 u25 u26 u27 u28 u29 u30 u31 u32 u33 u34 u35 u36 u37 u38 u39 u40 u41 u42 u43 u44 u45 u46 u47 u48 u49 u50 u51 u52 u53 u54 u55 u56 u57 u58 u59 u60 u61 u62 u63 u64 u65 u66 u67 u68 u69 u70 u71 u72 u73 u74 u75 u76 u77 u78 u79 u80 u81 u82 u83 u84 u85 u86 u87 u88 u89 u90 u91 u92 u93 u94 u95 u96 u97 u98 u99 u100 u101 u102 u103 u104 u105 u106 u107 u108 u109 u110 u111 u112 u113 u114 u115 u116 u117 u118 u119 u120 u121 u122 u123 u124 u125 u126 u127 u128 u129 u130 u131 u132 u133 u134 u135 u136 u137 u138 u139 u140 u141 u142 u143 u144 u145 u146 u147 u148 u149 u150 u151 u152 u153 u154 u155 u156 u157 u158 u159 u160 u161 u162 u163 u164 u165 u166 u167 u168 u169 u170 u171 u172 u173 u174 u175 u176 u177 u178 u179 u180 u181 u182 u183 u184 u185 u186 u187 u188 u189 u190 u191 u192 u193 u194 u195 u196 u197 u198 u199 u200 u201 u202 u203 u204 u205 u206 u207 u208 u209 u210 u211 u212 u213 u214 u215 u216 u217 u218 u219 u220 u221 u222 u223 u224 u225 u226 u227 u228 u229 u230 u231 u232 u233 u234 u235 u236 u237 u238 u239 u240 u241 u242 u243 u244 u245
    · exact rr_10n H (Nat.le_antisymm H.hu hz) u11 u12 u13 u14 u15 u16 u17 u23 u24 u25 u26 u27 u28 u29 u30 u31 u32 u33 u34 u35 u36 u37 u38 u39 u40 u41 u42 u43 u44 u45 u46 u47 u48 u49 u50 u51 u52 u53 u54 u55 u56 u57 u58 u59 u60 u61 u62 u63 u64 u65 u66 u67 u68 u69 u70 u71 u72 u73 u74 u75 u76 u77 u78 u79 u80 u81 u82 u83 u84 u85 u86 u87 u88 u89 u90 u91 u92 u93 u94 u95 u96 u97 u98 u99 u100 u101 u102 u103 u104 u105 u106 u107 u108 u109 u110 u111 u112 u113 u114 u115 u116 u117 u118 u119 u120 u121 u122 u123 u124 u125 u126 u127 u128 u129 u130 u131 u132 u133 u134 u135 u136 u137 u138 u139 u140 u141 u142 u143 u144 u145 u146 u147 u148 u149 u150 u151 u152 u153 u154 u155 u156 u157 u158 u159 u160 u161 u162 u163 u164 u165 u166 u167 u168 u169 u170 u171 u172 u173 u174 u175 u176 u177 u178 u179 u180 u181 u182 u183 u184 u185 u186 u187 u188 u189 u190 u191 u192 u193 u194 u195 u196 u197 u198 u199 u200 u201 u202 u203 u204 u205 u206 u207 u208 u209 u210 u211 u212 u213 u214 u215 u216 u217 u218 u219 u220 u221 u222 u223 u224 u225 u226 u227 u228 u229 u230 u231 u232 u233 u234 u235 u236 u237 u238 u239 u240 u241 u242 u243 u244 u245
  · rcases Nat.lt_or_ge used answers.length with hz | hz
    · exact rr_11 H hz u11 u12 u13 u14 u15 u16 u17 u23 u24 u25 u26 u27 u28 u29 u30 u31 u32 u33 u34 u35 u36 u37 u38 u39 u40 u41 u42 u43 u44 u45 u46 u47 u48 u49 u50 u51 u52 u53 u54 u55 u56 u57 u58 u59 u60 u61 u62 u63 u64 u65 u66 u67 u68 u69 u70 u71 u72 u73 u74 u75 u76 u77 u78 u79 u80 u81 u82 u83 u84 u85 u86 u87 u88 u89 u90 u91 u92 u93 u94 u95 u96 u97 u98 u99 u100 u101 u102 u103 u104 u105 u106 u107 u108 u109 u110 u111 u112 u113 u114 u115 u116 u117 u118 u119 u120 u121 u122 u123 u124 u125 u126 u127 u128 u129 u130 u131 u132 u133 u134 u135 u136 u137 u138 u139 u140 u141 u142 u143 u144 u145 u146 u147 u148 u149 u150 u151 u152 u153 u154 u155 u156 u157 u158 u159 u160 u161 u162 u163 u164 u165 u166 u167 u168 u169 u170 u171 u172 u173 u174 u175 u176 u177 u178 u179 u180 u181 u182 u183 u184 u185 u186 u187 u188 u189 u190 u191 u192 u193 u194 u195 u196 u197 u198 u199 u200 u201 u202 u203 u204 u205 u206 u207 u208 u209 u210 u211 u212 u213 u214 u215 u216 u217 u218 u219 u220 u221 u222 u223 u224 u225 u226 u227 u228 u229 u230 u231 u232 u233 u234 u235 u236 u237 u238 u239 u240 u241 u242 u243 u244 u245
    · exact rr_11n H (Nat.le_antisymm H.hu hz) u11 u12 u13 u14 u15 u16 u17 u23 u24 u25 u26 u27 u28 u29 u30 u31 u32 u33 u34 u35 u36 u37 u38 u39 u40 u41 u42 u43 u44 u45 u46 u47 u48 u49 u50 u51 u52 u53 u54 u55 u56 u57 u58 u59 u60 u61 u62 u63 u64 u65 u66 u67 u68 u69 u70 u71 u72 u73 u74 u75 u76 u77 u78 u79 u80 u81 u82 u83 u84 u85 u86 u87 u88 u89 u90 u91 u92 u93 u94 u95 u96 u97 u98 u99 u100 u101 u102 u103 u104 u105 u106 u107 u108 u109 u110 u111 u112 u113 u114 u115 u116 u117 u118 u119 u120 u121 u122 u123 u124 u125 u126 u127 u128 u129 u130 u131 u132 u133 u134 u135 u136 u137 u138 u139 u140 u141 u142 u143 u144 u145 u146 u147 u148 u149 u150 u151 u152 u153 u154 u155 u156 u157 u158 u159 u160 u161 u162 u163 u164 u165 u166 u167 u168 u169 u170 u171 u172 u173 u174 u175 u176 u177 u178 u179 u180 u181 u182 u183 u184 u185 u186 u187 u188 u189 u190 u191 u192 u193 u194 u195 u196 u197 u198 u199 u200 u201 u202 u203 u204 u205 u206 u207 u208 u209 u210 u211 u212 u213 u214 u215 u216 u217 u218 u219 u220 u221 u222 u223 u224 u225 u226 u227 u228 u229 u230 u231 u232 u233 u234 u235 u236 u237 u238 u239 u240 u241 u242 u243 u244 u245
  · rcases Nat.lt_or_ge used answers.length with hz | hz
    · by_cases hr : rd answers (used : Int) = rd T a
      · exact rr_12s H hz hr u11 u12 u13 u14 u15 u16 u17 u23 u24 u25 u26 u27 u28 u29 u30 u31 u32 u33 u34 u35 u36 u37 u38 u39 u40 u41 u42 u43 u44 u45 u46 u47 u48 u49 u50 u51 u52 u53 u54 u55 u56 u57 u58 u59 u60 u61 u62 u63 u64 u65 u66 u67 u68 u69 u70 u71 u72 u73 u74 u75 u76 u77 u78 u79 u80 u81 u82 u83 u84 u85 u86 u87 u88 u89 u90 u91 u92 u93 u94 u95 u96 u97 u98 u99 u100 u101 u102 u103 u104 u105 u106 u107 u108 u109 u110 u111 u112 u113 u114 u115 u116 u117 u118 u119 u120 u121 u122 u123 u124 u125 u126 u127 u128 u129 u130 u131 u132 u133 u134 u135 u136 u137 u138 u139 u140 u141 u142 u143 u144 u145 u146 u147 u148 u149 u150 u151 u152 u153 u154 u155 u156 u157 u158 u159 u160 u161 u162 u163 u164 u165 u166 u167 u168 u169 u170 u171 u172 u173 u174 u175 u176 u177 u178 u179 u180 u181 u182 u183 u184 u185 u186 u187 u188 u189 u190 u191 u192 u193 u194 u195 u196 u197 u198 u199 u200 u201 u202 u203 u204 u205 u206 u207 u208 u209 u210 u211 u212 u213 u214 u215 u216 u217 u218 u219 u220 u221 u222 u223 u224 u225 u226 u227 u228 u229 u230 u231 u232 u233 u234 u235 u236 u237 u238 u239 u240 u241 u242 u243 u244 u245
      · exact rr_12d H hz hr u11 u12 u13 u14 u15 u16 u17 u23 u24 u25 u26 u27 u28 u29 u30 u31 u32 u33 u34 u35 u36 u37 u38 u39 u40 u41 u42 u43 u44 u45 u46 u47 u48 u49 u50 u51 u52 u53 u54 u55 u56 u57 u58 u59 u60 u61 u62 u63 u64 u65 u66 u67 u68 u69 u70 u71 u72 u73 u74 u75 u76 u77 u78 u79 u80 u81 u82 u83 u84 u85 u86 u87 u88 u89 u90 u91 u92 u93 u94 u95 u96 u97 u98 u99 u100 u101 u102 u103 u104 u105 u106 u107 u108 u109 u110 u111 u112 u113 u114 u115 u116 u117 u118 u119 u120 u121 u122 u123 u124 u125 u126 u127 u128 u129 u130 u131 u132 u133 u134 u135 u136 u137 u138 u139 u140 u141 u142 u143 u144 u145 u146 u147 u148 u149 u150 u151 u152 u153 u154 u155 u156 u157 u158 u159 u160 u161 u162 u163 u164 u165 u166 u167 u168 u169 u170 u171 u172 u173 u174 u175 u176 u177 u178 u179 u180 u181 u182 u183 u184 u185 u186 u187 u188 u189 u190 u191 u192 u193 u194 u195 u196 u197 u198 u199 u200 u201 u202 u203 u204 u205 u206 u207 u208 u209 u210 u211 u212 u213 u214 u215 u216 u217 u218 u219 u220 u221 u222 u223 u224 u225 u226 u227 u228 u229 u230 u231 u232 u233 u234 u235 u236 u237 u238 u239 u240 u241 u242 u243 u244 u245
    · exact rr_12n H (Nat.le_antisymm H.hu hz) u11 u12 u13 u14 u15 u16 u17 u23 u24 u25 u26 u27 u28 u29 u30 u31 u32 u33 u34 u35 u36 u37 u38 u39 u40 u41 u42 u43 u44 u45 u46 u47 u48 u49 u50 u51 u52 u53 u54 u55 u56 u57 u58 u59 u60 u61 u62 u63 u64 u65 u66 u67 u68 u69 u70 u71 u72 u73 u74 u75 u76 u77 u78 u79 u80 u81 u82 u83 u84 u85 u86 u87 u88 u89 u90 u91 u92 u93 u94 u95 u96 u97 u98 u99 u100 u101 u102 u103 u104 u105 u106 u107 u108 u109 u110 u111 u112 u113 u114 u115 u116 u117 u118 u119 u120 u121 u122 u123 u124 u125 u126 u127 u128 u129 u130 u131 u132 u133 u134 u135 u136 u137 u138 u139 u140 u141 u142 u143 u144 u145 u146 u147 u148 u149 u150 u151 u152 u153 u154 u155 u156 u157 u158 u159 u160 u161 u162 u163 u164 u165 u166 u167 u168 u169 u170 u171 u172 u173 u174 u175 u176 u177 u178 u179 u180 u181 u182 u183 u184 u185 u186 u187 u188 u189 u190 u191 u192 u193 u194 u195 u196 u197 u198 u199 u200 u201 u202 u203 u204 u205 u206 u207 u208 u209 u210 u211 u212 u213 u214 u215 u216 u217 u218 u219 u220 u221 u222 u223 u224 u225 u226 u227 u228 u229 u230 u231 u232 u233 u234 u235 u236 u237 u238 u239 u240 u241 u242 u243 u244 u245
  · rcases Int.lt_or_le (rd T a) 0 with h0 | h0
    · exact rr_13l H h0 u11 u12 u13 u14 u15 u16 u17 u23 u24 u25 u26 u27 u28 u29 u30 u31 u32 u33 u34 u35 u36 u37 u38 u39 u40 u41 u42 u43 u44 u45 u46 u47 u48 u49 u50 u51 u52 u53 u54 u55 u56 u57 u58 u59 u60 u61 u62 u63 u64 u65 u66 u67 u68 u69 u70 u71 u72 u73 u74 u75 u76 u77 u78 u79 u80 u81 u82 u83 u84 u85 u86 u87 u88 u89 u90 u91 u92 u93 u94 u95 u96 u97 u98 u99 u100 u101 u102 u103 u104 u105 u106 u107 u108 u109 u110 u111 u112 u113 u114 u115 u116 u117 u118 u119 u120 u121 u122 u123 u124 u125 u126 u127 u128 u129 u130 u131 u132 u133 u134 u135 u136 u137 u138 u139 u140 u141 u142 u143 u144 u145 u146 u147 u148 u149 u150 u151 u152 u153 u154 u155 u156 u157 u158 u159 u160 u161 u162 u163 u164 u165 u166 u167 u168 u169 u170 u171 u172 u173 u174 u175 u176 u177 u178 u179 u180 u181 u182 u183 u184 u185 u186 u187 u188 u189 u190 u191 u192 u193 u194 u195 u196 u197 u198 u199 u200 u201 u202 u203 u204 u205 u206 u207 u208 u209 u210 u211 u212 u213 u214 u215 u216 u217 u218 u219 u220 u221 u222 u223 u224 u225 u226 u227 u228 u229 u230 u231 u232 u233 u234 u235 u236 u237 u238 u239 u240 u241 u242 u243 u244 u245
    · rcases Int.lt_or_le (rd T a) len with h1 | h1
      · rcases Nat.lt_or_ge used answers.length with hz | hz
        · exact rr_13 H h0 h1 hz u11 u12 u13 u14 u15 u16 u17 u23 u24 u25 u26 u27 u28 u29 u30 u31 u32 u33 u34 u35 u36 u37 u38 u39 u40 u41 u42 u43 u44 u45 u46 u47 u48 u49 u50 u51 u52 u53 u54 u55 u56 u57 u58 u59 u60 u61 u62 u63 u64 u65 u66 u67 u68 u69 u70 u71 u72 u73 u74 u75 u76 u77 u78 u79 u80 u81 u82 u83 u84 u85 u86 u87 u88 u89 u90 u91 u92 u93 u94 u95 u96 u97 u98 u99 u100 u101 u102 u103 u104 u105 u106 u107 u108 u109 u110 u111 u112 u113 u114 u115 u116 u117 u118 u119 u120 u121 u122 u123 u124 u125 u126 u127 u128 u129 u130 u131 u132 u133 u134 u135 u136 u137 u138 u139 u140 u141 u142 u143 u144 u145 u146 u147 u148 u149 u150 u151 u152 u153 u154 u155 u156 u157 u158 u159 u160 u161 u162 u163 u164 u165 u166 u167 u168 u169 u170 u171 u172 u173 u174 u175 u176 u177 u178 u179 u180 u181 u182 u183 u184 u185 u186 u187 u188 u189 u190 u191 u192 u193 u194 u195 u196 u197 u198 u199 u200 u201 u202 u203 u204 u205 u206 u207 u208 u209 u210 u211 u212 u213 u214 u215 u216 u217 u218 u219 u220 u221 u222 u223 u224 u225 u226 u227 u228 u229 u230 u231 u232 u233 u234 u235 u236 u237 u238 u239 u240 u241 u242 u243 u244 u245
        · exact rr_13n H h0 h1 (Nat.le_antisymm H.hu hz) u11 u12 u13 u14 u15 u16 u17 u23 u24 u25 u26 u27 u28 u29 u30 u31 u32 u33 u34 u35 u36 u37 u38 u39 u40 u41 u42 u43 u44 u45 u46 u47 u48 u49 u50 u51 u52 u53 u54 u55 u56 u57 u58 u59 u60 u61 u62 u63 u64 u65 u66 u67 u68 u69 u70 u71 u72 u73 u74 u75 u76 u77 u78 u79 u80 u81 u82 u83 u84 u85 u86 u87 u88 u89 u90 u91 u92 u93 u94 u95 u96 u97 u98 u99 u100 u101 u102 u103 u104 u105 u106 u107 u108 u109 u110 u111 u112 u113 u114 u115 u116 u117 u118 u119 u120 u121 u122 u123 u124 u125 u126 u127 u128 u129 u130 u131 u132 u133 u134 u135 u136 u137 u138 u139 u140 u141 u142 u143 u144 u145 u146 u147 u148 u149 u150 u151 u152 u153 u154 u155 u156 u157 u158 u159 u160 u161 u162 u163 u164 u165 u166 u167 u168 u169 u170 u171 u172 u173 u174 u175 u176 u177 u178 u179 u180 u181 u182 u183 u184 u185 u186 u187 u188 u189 u190 u191 u192 u193 u194 u195 u196 u197 u198 u199 u200 u201 u202 u203 u204 u205 u206 u207 u208 u209 u210 u211 u212 u213 u214 u215 u216 u217 u218 u219 u220 u221 u222 u223 u224 u225 u226 u227 u228 u229 u230 u231 u232 u233 u234 u235 u236 u237 u238 u239 u240 u241 u242 u243 u244 u245
      · exact rr_13h H h0 h1 u11 u12 u13 u14 u15 u16 u17 u23 u24 u25 u26 u27 u28 u29 u30 u31 u32 u33 u34 u35 u36 u37 u38 u39 u40 u41 u42 u43 u44 u45 u46 u47 u48 u49 u50 u51 u52 u53 u54 u55 u56 u57 u58 u59 u60 u61 u62 u63 u64 u65 u66 u67 u68 u69 u70 u71 u72 u73 u74 u75 u76 u77 u78 u79 u80 u81 u82 u83 u84 u85 u86 u87 u88 u89 u90 u91 u92 u93 u94 u95 u96 u97 u98 u99 u100 u101 u102 u103 u104 u105 u106 u107 u108 u109 u110 u111 u112 u113 u114 u115 u116 u117 u118 u119 u120 u121 u122 u123 u124 u125 u126 u127 u128 u129 u130 u131 u132 u133 u134 u135 u136 u137 u138 u139 u140 u141 u142 u143 u144 u145 u146 u147 u148 u149 u150 u151 u152 u153 u154 u155 u156 u157 u158 u159 u160 u161 u162 u163 u164 u165 u166 u167 u168 u169 u170 u171 u172 u173 u174 u175 u176 u177 u178 u179 u180 u181 u182 u183 u184 u185 u186 u187 u188 u189 u190 u191 u192 u193 u194 u195 u196 u197 u198 u199 u200 u201 u202 u203 u204 u205 u206 u207 u208 u209 u210 u211 u212 u213 u214 u215 u216 u217 u218 u219 u220 u221 u222 u223 u224 u225 u226 u227 u228 u229 u230 u231 u232 u233 u234 u235 u236 u237 u238 u239 u240 u241 u242 u243 u244 u245
  · rcases Int.lt_or_le (rd T a) 0 with h0 | h0
    · exact rr_14l H h0 u11 u12 u13 u14 u15 u16 u17 u23 u24 u25 u26 u27 u28 u29 u30 u31 u32 u33 u34 u35 u36 u37 u38 u39 u40 u41 u42 u43 u44 u45 u46 u47 u48 u49 u50 u51 u52 u53 u54 u55 u56 u57 u58 u59 u60 u61 u62 u63 u64 u65 u66 u67 u68 u69 u70 u71 u72 u73 u74 u75 u76 u77 u78 u79 u80 u81 u82 u83 u84 u85 u86 u87 u88 u89 u90 u91 u92 u93 u94 u95 u96 u97 u98 u99 u100 u101 u102 u103 u104 u105 u106 u107 u108 u109 u110 u111 u112 u113 u114 u115 u116 u117 u118 u119 u120 u121 u122 u123 u124 u125 u126 u127 u128 u129 u130 u131 u132 u133 u134 u135 u136 u137 u138 u139 u140 u141 u142 u143 u144 u145 u146 u147 u148 u149 u150 u151 u152 u153 u154 u155 u156 u157 u158 u159 u160 u161 u162 u163 u164 u165 u166 u167 u168 u169 u170 u171 u172 u173 u174 u175 u176 u177 u178 u179 u180 u181 u182 u183 u184 u185 u186 u187 u188 u189 u190 u191 u192 u193 u194 u195 u196 u197 u198 u199 u200 u201 u202 u203 u204 u205 u206 u207 u208 u209 u210 u211 u212 u213 u214 u215 u216 u217 u218 u219 u220 u221 u222 u223 u224 u225 u226 u227 u228 u229 u230 u231 u232 u233 u234 u235 u236 u237 u238 u239 u240 u241 u242 u243 u244 u245
    · rcases Int.lt_or_le (rd T a) len with h1 | h1
      · exact rr_14 H h0 h1 u11 u12 u13 u14 u15 u16 u17 u23 u24 u25 u26 u27 u28 u29 u30 u31 u32 u33 u34 u35 u36 u37 u38 u39 u40 u41 u42 u43 u44 u45 u46 u47 u48 u49 u50 u51 u52 u53 u54 u55 u56 u57 u58 u59 u60 u61 u62 u63 u64 u65 u66 u67 u68 u69 u70 u71 u72 u73 u74 u75 u76 u77 u78 u79 u80 u81 u82 u83 u84 u85 u86 u87 u88 u89 u90 u91 u92 u93 u94 u95 u96 u97 u98 u99 u100 u101 u102 u103 u104 u105 u106 u107 u108 u109 u110 u111 u112 u113 u114 u115 u116 u117 u118 u119 u120 u121 u122 u123 u124 u125 u126 u127 u128 u129 u130 u131 u132 u133 u134 u135 u136 u137 u138 u139 u140 u141 u142 u143 u144 u145 u146 u147 u148 u149 u150 u151 u152 u153 u154 u155 u156 u157 u158 u159 u160 u161 u162 u163 u164 u165 u166 u167 u168 u169 u170 u171 u172 u173 u174 u175 u176 u177 u178 u179 u180 u181 u182 u183 u184 u185 u186 u187 u188 u189 u190 u191 u192 u193 u194 u195 u196 u197 u198 u199 u200 u201 u202 u203 u204 u205 u206 u207 u208 u209 u210 u211 u212 u213 u214 u215 u216 u217 u218 u219 u220 u221 u222 u223 u224 u225 u226 u227 u228 u229 u230 u231 u232 u233 u234 u235 u236 u237 u238 u239 u240 u241 u242 u243 u244 u245
      · exact rr_14h H h0 h1 u11 u12 u13 u14 u15 u16 u17 u23 u24 u25 u26 u27 u28 u29 u30 u31 u32 u33 u34 u35 u36 u37 u38 u39 u40 u41 u42 u43 u44 u45 u46 u47 u48 u49 u50 u51 u52 u53 u54 u55 u56 u57 u58 u59 u60 u61 u62 u63 u64 u65 u66 u67 u68 u69 u70 u71 u72 u73 u74 u75 u76 u77 u78 u79 u80 u81 u82 u83 u84 u85 u86 u87 u88 u89 u90 u91 u92 u93 u94 u95 u96 u97 u98 u99 u100 u101 u102 u103 u104 u105 u106 u107 u108 u109 u110 u111 u112 u113 u114 u115 u116 u117 u118 u119 u120 u121 u122 u123 u124 u125 u126 u127 u128 u129 u130 u131 u132 u133 u134 u135 u136 u137 u138 u139 u140 u141 u142 u143 u144 u145 u146 u147 u148 u149 u150 u151 u152 u153 u154 u155 u156 u157 u158 u159 u160 u161 u162 u163 u164 u165 u166 u167 u168 u169 u170 u171 u172 u173 u174 u175 u176 u177 u178 u179 u180 u181 u182 u183 u184 u185 u186 u187 u188 u189 u190 u191 u192 u193 u194 u195 u196 u197 u198 u199 u200 u201 u202 u203 u204 u205 u206 u207 u208 u209 u210 u211 u212 u213 u214 u215 u216 u217 u218 u219 u220 u221 u222 u223 u224 u225 u226 u227 u228 u229 u230 u231 u232 u233 u234 u235 u236 u237 u238 u239 u240 u241 u242 u243 u244 u245
  · exact rr_15 H u11 u12 u13 u14 u15 u16 u17 u23 u24 u25 u26 u27 u28 u29 u30 u31 u32 u33 u34 u35 u36 u37 u38 u39 u40 u41 u42 u43 u44 u45 u46 u47 u48 u49 u50 u51 u52 u53 u54 u55 u56 u57 u58 u59 u60 u61 u62 u63 u64 u65 u66 u67 u68 u69 u70 u71 u72 u73 u74 u75 u76 u77 u78 u79 u80 u81 u82 u83 u84 u85 u86 u87 u88 u89 u90 u91 u92 u93 u94 u95 u96 u97 u98 u99 u100 u101 u102 u103 u104 u105 u106 u107 u108 u109 u110 u111 u112 u113 u114 u115 u116 u117 u118 u119 u120 u121 u122 u123 u124 u125 u126 u127 u128 u129 u130 u131 u132 u133 u134 u135 u136 u137 u138 u139 u140 u141 u142 u143 u144 u145 u146 u147 u148 u149 u150 u151 u152 u153 u154 u155 u156 u157 u158 u159 u160 u161 u162 u163 u164 u165 u166 u167 u168 u169 u170 u171 u172 u173 u174 u175 u176 u177 u178 u179 u180 u181 u182 u183 u184 u185 u186 u187 u188 u189 u190 u191 u192 u193 u194 u195 u196 u197 u198 u199 u200 u201 u202 u203 u204 u205 u206 u207 u208 u209 u210 u211 u212 u213 u214 u215 u216 u217 u218 u219 u220 u221 u222 u223 u224 u225 u226 u227 u228 u229 u230 u231 u232 u233 u234 u235 u236 u237 u238 u239 u240 u241 u242 u243 u244 u245
  · rcases Int.lt_or_le (rd T a) (rd T b) with hr | hr
    · exact rr_16f H hr u11 u12 u13 u14 u15 u16 u17 u23 u24 u25 u26 u27 u28 u29 u30 u31 u32 u33 u34 u35 u36 u37 u38 u39 u40 u41 u42 u43 u44 u45 u46 u47 u48 u49 u50 u51 u52 u53 u54 u55 u56 u57 u58 u59 u60 u61 u62 u63 u64 u65 u66 u67 u68 u69 u70 u71 u72 u73 u74 u75 u76 u77 u78 u79 u80 u81 u82 u83 u84 u85 u86 u87 u88 u89 u90 u91 u92 u93 u94 u95 u96 u97 u98 u99 u100 u101 u102 u103 u104 u105 u106 u107 u108 u109 u110 u111 u112 u113 u114 u115 u116 u117 u118 u119 u120 u121 u122 u123 u124 u125 u126 u127 u128 u129 u130 u131 u132 u133 u134 u135 u136 u137 u138 u139 u140 u141 u142 u143 u144 u145 u146 u147 u148 u149 u150 u151 u152 u153 u154 u155 u156 u157 u158 u159 u160 u161 u162 u163 u164 u165 u166 u167 u168 u169 u170 u171 u172 u173 u174 u175 u176 u177 u178 u179 u180 u181 u182 u183 u184 u185 u186 u187 u188 u189 u190 u191 u192 u193 u194 u195 u196 u197 u198 u199 u200 u201 u202 u203 u204 u205 u206 u207 u208 u209 u210 u211 u212 u213 u214 u215 u216 u217 u218 u219 u220 u221 u222 u223 u224 u225 u226 u227 u228 u229 u230 u231 u232 u233 u234 u235 u236 u237 u238 u239 u240 u241 u242 u243 u244 u245
    · exact rr_16t H hr u11 u12 u13 u14 u15 u16 u17 u23 u24 u25 u26 u27 u28 u29 u30 u31 u32 u33 u34 u35 u36 u37 u38 u39 u40 u41 u42 u43 u44 u45 u46 u47 u48 u49 u50 u51 u52 u53 u54 u55 u56 u57 u58 u59 u60 u61 u62 u63 u64 u65 u66 u67 u68 u69 u70 u71 u72 u73 u74 u75 u76 u77 u78 u79 u80 u81 u82 u83 u84 u85 u86 u87 u88 u89 u90 u91 u92 u93 u94 u95 u96 u97 u98 u99 u100 u101 u102 u103 u104 u105 u106 u107 u108 u109 u110 u111 u112 u113 u114 u115 u116 u117 u118 u119 u120 u121 u122 u123 u124 u125 u126 u127 u128 u129 u130 u131 u132 u133 u134 u135 u136 u137 u138 u139 u140 u141 u142 u143 u144 u145 u146 u147 u148 u149 u150 u151 u152 u153 u154 u155 u156 u157 u158 u159 u160 u161 u162 u163 u164 u165 u166 u167 u168 u169 u170 u171 u172 u173 u174 u175 u176 u177 u178 u179 u180 u181 u182 u183 u184 u185 u186 u187 u188 u189 u190 u191 u192 u193 u194 u195 u196 u197 u198 u199 u200 u201 u202 u203 u204 u205 u206 u207 u208 u209 u210 u211 u212 u213 u214 u215 u216 u217 u218 u219 u220 u221 u222 u223 u224 u225 u226 u227 u228 u229 u230 u231 u232 u233 u234 u235 u236 u237 u238 u239 u240 u241 u242 u243 u244 u245
  · by_cases hr : rd T a = rd T b
    · exact rr_17f H hr u11 u12 u13 u14 u15 u16 u17 u23 u24 u25 u26 u27 u28 u29 u30 u31 u32 u33 u34 u35 u36 u37 u38 u39 u40 u41 u42 u43 u44 u45 u46 u47 u48 u49 u50 u51 u52 u53 u54 u55 u56 u57 u58 u59 u60 u61 u62 u63 u64 u65 u66 u67 u68 u69 u70 u71 u72 u73 u74 u75 u76 u77 u78 u79 u80 u81 u82 u83 u84 u85 u86 u87 u88 u89 u90 u91 u92 u93 u94 u95 u96 u97 u98 u99 u100 u101 u102 u103 u104 u105 u106 u107 u108 u109 u110 u111 u112 u113 u114 u115 u116 u117 u118 u119 u120 u121 u122 u123 u124 u125 u126 u127 u128 u129 u130 u131 u132 u133 u134 u135 u136 u137 u138 u139 u140 u141 u142 u143 u144 u145 u146 u147 u148 u149 u150 u151 u152 u153 u154 u155 u156 u157 u158 u159 u160 u161 u162 u163 u164 u165 u166 u167 u168 u169 u170 u171 u172 u173 u174 u175 u176 u177 u178 u179 u180 u181 u182 u183 u184 u185 u186 u187 u188 u189 u190 u191 u192 u193 u194 u195 u196 u197 u198 u199 u200 u201 u202 u203 u204 u205 u206 u207 u208 u209 u210 u211 u212 u213 u214 u215 u216 u217 u218 u219 u220 u221 u222 u223 u224 u225 u226 u227 u228 u229 u230 u231 u232 u233 u234 u235 u236 u237 u238 u239 u240 u241 u242 u243 u244 u245
    · exact rr_17t H hr u11 u12 u13 u14 u15 u16 u17 u23 u24 u25 u26 u27 u28 u29 u30 u31 u32 u33 u34 u35 u36 u37 u38 u39 u40 u41 u42 u43 u44 u45 u46 u47 u48 u49 u50 u51 u52 u53 u54 u55 u56 u57 u58 u59 u60 u61 u62 u63 u64 u65 u66 u67 u68 u69 u70 u71 u72 u73 u74 u75 u76 u77 u78 u79 u80 u81 u82 u83 u84 u85 u86 u87 u88 u89 u90 u91 u92 u93 u94 u95 u96 u97 u98 u99 u100 u101 u102 u103 u104 u105 u106 u107 u108 u109 u110 u111 u112 u113 u114 u115 u116 u117 u118 u119 u120 u121 u122 u123 u124 u125 u126 u127 u128 u129 u130 u131 u132 u133 u134 u135 u136 u137 u138 u139 u140 u141 u142 u143 u144 u145 u146 u147 u148 u149 u150 u151 u152 u153 u154 u155 u156 u157 u158 u159 u160 u161 u162 u163 u164 u165 u166 u167 u168 u169 u170 u171 u172 u173 u174 u175 u176 u177 u178 u179 u180 u181 u182 u183 u184 u185 u186 u187 u188 u189 u190 u191 u192 u193 u194 u195 u196 u197 u198 u199 u200 u201 u202 u203 u204 u205 u206 u207 u208 u209 u210 u211 u212 u213 u214 u215 u216 u217 u218 u219 u220 u221 u222 u223 u224 u225 u226 u227 u228 u229 u230 u231 u232 u233 u234 u235 u236 u237 u238 u239 u240 u241 u242 u243 u244 u245
  · exact rr_18 H u11 u12 u13 u14 u15 u16 u17 u23 u24 u25 u26 u27 u28 u29 u30 u31 u32 u33 u34 u35 u36 u37 u38 u39 u40 u41 u42 u43 u44 u45 u46 u47 u48 u49 u50 u51 u52 u53 u54 u55 u56 u57 u58 u59 u60 u61 u62 u63 u64 u65 u66 u67 u68 u69 u70 u71 u72 u73 u74 u75 u76 u77 u78 u79 u80 u81 u82 u83 u84 u85 u86 u87 u88 u89 u90 u91 u92 u93 u94 u95 u96 u97 u98 u99 u100 u101 u102 u103 u104 u105 u106 u107 u108 u109 u110 u111 u112 u113 u114 u115 u116 u117 u118 u119 u120 u121 u122 u123 u124 u125 u126 u127 u128 u129 u130 u131 u132 u133 u134 u135 u136 u137 u138 u139 u140 u141 u142 u143 u144 u145 u146 u147 u148 u149 u150 u151 u152 u153 u154 u155 u156 u157 u158 u159 u160 u161 u162 u163 u164 u165 u166 u167 u168 u169 u170 u171 u172 u173 u174 u175 u176 u177 u178 u179 u180 u181 u182 u183 u184 u185 u186 u187 u188 u189 u190 u191 u192 u193 u194 u195 u196 u197 u198 u199 u200 u201 u202 u203 u204 u205 u206 u207 u208 u209 u210 u211 u212 u213 u214 u215 u216 u217 u218 u219 u220 u221 u222 u223 u224 u225 u226 u227 u228 u229 u230 u231 u232 u233 u234 u235 u236 u237 u238 u239 u240 u241 u242 u243 u244 u245
section
variable {A : Option Addr} {c : Nat} {code : List S40} {Al : Option Addr} {cl : Nat} {l : List S80} {An : Option Addr} {cn : Nat} {answers : List Int} {w wr : World} {g6 g7 g8 : Nat} {T : List Int} {vt : Value} {acts : List S47} {used : Nat} {u3 u4 u5 u18 u19 u20 u21 u22 : Value}
set_option maxRecDepth 100000 in
set_option maxHeartbeats 4000000 in
theorem RrFrame.at9 {i : Int} {a : Act} (h : RrFrame A c code Al cl l An cn answers g6 g7 g8 u3 u4 u5 u18 u19 u20 u21 u22 i used a) : a.tmps.getD 9 undef = .int .i64 i := by
  unfold RrFrame at h
  iterate 230 (obtain ⟨_, h⟩ := h)
  rw [h]
  rfl
set_option maxRecDepth 100000 in
set_option maxHeartbeats 8000000 in
theorem rr_frame {i : Nat} {x : S40} {R : Exit → Act → World → Prop} {a : Act} (h : RrFrame A c code Al cl l An cn answers g6 g7 g8 u3 u4 u5 u18 u19 u20 u21 u22 (i : Int) used a) (H : Rround A c code Al cl l An cn answers w wr g6 g7 g8 T vt acts i used x u3 u4 u5 u18 u19 u20 u21 u22 R) (hok : okO x.f0 = true) : rrunBody.wp Try.prog R a wr := by
  unfold RrFrame at h
  iterate 230 (obtain ⟨_, h⟩ := h)
  rw [h]
  exact rr_any H hok _ _ _ _ _ _ _ _ _ _ _ _ _ _ _ _ _ _ _ _ _ _ _ _ _ _ _ _ _ _ _ _ _ _ _ _ _ _ _ _ _ _ _ _ _ _ _ _ _ _ _ _ _ _ _ _ _ _ _ _ _ _ _ _ _ _ _ _ _ _ _ _ _ _ _ _ _ _ _ _ _ _ _ _ _ _ _ _ _ _ _ _ _ _ _ _ _ _ _ _ _ _ _ _ _ _ _ _ _ _ _ _ _ _ _ _ _ _ _ _ _ _ _ _ _ _ _ _ _ _ _ _ _ _ _ _ _ _ _ _ _ _ _ _ _ _ _ _ _ _ _ _ _ _ _ _ _ _ _ _ _ _ _ _ _ _ _ _ _ _ _ _ _ _ _ _ _ _ _ _ _ _ _ _ _ _ _ _ _ _ _ _ _ _ _ _ _ _ _ _ _ _ _ _ _ _ _ _ _ _ _ _ _ _ _ _ _ _ _ _ _ _ _ _ _ _ _ _ _ _
end
end Go.Proofs.Ytdmbnlpcfgphpaa.Q
namespace Go.Proofs.Ytdmbnlpcfgphpaa.Q
open Go.RowKit Go.Proofs.YtdmbnlpcfgphpaaW.PrintWords Go.Proofs.YtdmbnlpcfgphpaaW.PrintLast Go.Proofs.YtdmbnlpcfgphpaaW.PrintMore
set_option linter.unusedVariables false
set_option linter.unusedSimpArgs false
set_option maxHeartbeats 40000000 in
set_option maxRecDepth 100000 in
theorem rrun_right (A : Option Addr) (c : Nat) (code : List S40) (Al : Option Addr) (cl : Nat) (l : List S80) (An : Option Addr) (cn : Nat) (answers : List Int) (w : World) (hr : Kd.C k40 w A code.length code) (hc : code.length ≤ c) (hrl : Kd.C k80 w Al l.length l) (hcl : l.length ≤ cl) (hra : (Kd.int .i64).C w An answers.length answers) (hca : answers.length ≤ cn) (hal : answers.length ≤ 100000) (hR : right code l = true)
    (HRt : ∀ W, Below w.heap.size w W → Calls Try.prog 14 #[.slice A code.length c, .slice Al l.length cl] W fun e w' => e = .returned (.bool (right code l)) ∧ Below W.heap.size W w') :
    Calls Try.prog 17 #[.slice A code.length c, .slice Al l.length cl, .slice An answers.length cn] w (RunEnd (runAll code l answers) w) := by
  have e0 : runAll code l answers = runF code code.length 0 zT answers [] := by unfold runAll; rw [hR]; rfl
  rw [e0]
  obtain ⟨hn1, hn2, h18, hchk, -⟩ := right_parts hR
  have HC := Aside0.mk hr
  have HA := Aside0.mk hra
  have HCA := Aside0.mk hca
  have H18 := Aside0.mk h18
  have HK := Aside0.mk hchk
  have HG := Aside0.mk HRt
  clear hr hrl hc hcl e0 hra hca h18 hchk HRt
  go_enter Try.func17, Try.ntmps17
  go_wp2_with (first
    | (go_at_call 14; refine (HG.out _ (below_alloc (Below.refl _ _) _)).mono ?_; rintro e w2 ⟨rfl, hb⟩; rw [hR]; have K6 := Aside0.mk (blk_below (blk_new w (.cells #[.slice none 0 0, .int .i64 0] 31)) hb); have HB := Aside0.mk (below_step (below_alloc (Below.refl _ _) _) hb); have hlt6 := blk_lt K6.out; clear hb)
    | ((with_reducible refine gate_ (.alloc 73) rfl ?_); refine box_event (cs := tcells zT) (t := 73) rfl (N := 8) rfl ?hb76 ?_; (case hb76 => kernel_rfl); intro g8 hg8 w3 hb3 hB3; have S0 := Aside0.mk (Rr.born (below_alloc HB.out _) (blk_alloc K6.out _) (blk_new w2 _) (Nat.le_refl _) HB.out.size (Nat.ne_of_lt hlt6) hg8 hb3 hB3); clear hg8 hb3 hB3))
  generalize w2.heap.size = g7 at S0 ⊢
  obtain ⟨RR, hRR⟩ : ∃ RR, runF code code.length 0 zT answers [] = RR := ⟨_, rfl⟩
  rw [hRR]
  have HI := Aside0.mk hRR
  clear hRR
  refine Go.wp_loop (fun a' wr => ∃ (i used f : Nat) (T : List Int) (acts : List S47) (vt : Value), RrFrame A c code Al cl l An cn answers w.heap.size g7 g8 undef undef undef (.slice A code.length c) (.slice Al l.length cl) (.bool true) (.bool false) undef (i : Int) used a' ∧ i < code.length ∧ code.length - i ≤ f ∧ used ≤ answers.length ∧ acts.length ≤ i ∧ runF code f i T (answers.drop used) acts = RR ∧ Rr w wr w.heap.size g7 g8 T vt acts) (fun a' _ => code.length - (intOf (a'.tmps.getD 9 undef)).toNat) ?_ ?_
  · refine ⟨0, 0, code.length, zT, [], _, ?_, by omega, by omega, by omega, Nat.le_refl _, HI.out, S0.out⟩
    unfold RrFrame
    (repeat apply Exists.intro)
    exact rfl
  · clear S0 HI hlt6 K6 HB
    rintro a0 wr ⟨i, used, f, T, acts, vt, hfr, hi, hf, hu, hLn, hI, hS0⟩
    obtain ⟨f, rfl⟩ : ∃ f', f = f' + 1 := ⟨f - 1, by omega⟩
    obtain ⟨hok, hd, ha, hb⟩ := chk_bd (HK.out i hi)
    have hN := next_in hn2 H18.out hi (HK.out i hi) T (answers.drop used)
    have hW := stp_new (ins code i) i T (answers.drop used)
    have hE := runF_succ code f i T (answers.drop used) acts
    have h9 := hfr.at9
    refine rr_frame hfr ⟨hS0, HC.out, HA.out, hi, hn2, ins_at _ _, hu, hal, by omega, hd, ha, hb, ?go, ?ret⟩ hok
    case go =>
      intro s a' w' used' vt' hs hfin hfr2 hans hu' hS
      rw [hs] at hN hW hE
      obtain ⟨hn3, hn4⟩ := hN hfin
      obtain ⟨j, hj⟩ : ∃ j : Nat, s.next = (j : Int) := ⟨s.next.toNat, by omega⟩
      have h92 := hfr2.at9
      rw [hj] at hfr2 h92
      show (_ ∧ _)
      rw [h9, h92]
      refine ⟨⟨j, used', f, s.T, acts ++ s.new, vt', hfr2, by omega, by omega, hu', by rw [List.length_append]; omega, by rw [← hI, hE, if_pos hfin, hj, hans], hS⟩, ?_⟩
      show code.length - ((j : Int)).toNat < code.length - ((i : Int)).toNat
      omega
    case ret =>
      intro s a' w' hs hfin hnew hdf h6 hc0 hc1 hR9 hB
      rw [hs] at hE
      have hrr : RR = (acts, s.fin) := by rw [← hI, hE, if_neg hfin, hnew, List.append_nil]
      obtain ⟨tm, df⟩ := a'
      dsimp only at hdf h6
      subst hdf
      refine bodyPost_ret (v := .agg #[vt, .int .i64 s.fin]) ?_ rfl ⟨_, by rw [hrr], by rw [hrr]; exact hR9, hB⟩
      have h6b : tm[6]?.getD undef = Value.pointer (some { block := w.heap.size, off := 0 }) := by simpa using h6
      simp [results, Try.results17, go_sem, h6b, hc0, hc1]
end Go.Proofs.Ytdmbnlpcfgphpaa.Q
namespace Go.Proofs.Ytdmbnlpcfgphpaa.Q
open Go.RowKit Go.Proofs.YtdmbnlpcfgphpaaW.PrintWords Go.Proofs.YtdmbnlpcfgphpaaW.PrintLast Go.Proofs.YtdmbnlpcfgphpaaW.PrintMore
set_option linter.unusedVariables false
set_option linter.unusedSimpArgs false
set_option maxHeartbeats 4000000 in
set_option maxRecDepth 100000 in
theorem rrun_wrong (A : Option Addr) (c : Nat) (code : List S40) (Al : Option Addr) (cl : Nat) (l : List S80) (An : Option Addr) (cn : Nat) (answers : List Int) (w : World) (hr : Kd.C k40 w A code.length code) (hc : code.length ≤ c) (hrl : Kd.C k80 w Al l.length l) (hcl : l.length ≤ cl) (hl : l.length ≤ 16) (hR : right code l = false) :
    Calls Try.prog 17 #[.slice A code.length c, .slice Al l.length cl, .slice An answers.length cn] w (RunEnd (runAll code l answers) w) := by
  have e0 : runAll code l answers = ([], 0) := by unfold runAll; rw [hR]; rfl
  rw [e0]
  have HC := Aside0.mk hr
  have HL := Aside0.mk hrl
  have HCc := Aside0.mk hc
  have HCl := Aside0.mk hcl
  have HLl := Aside0.mk hl
  clear hr hrl hc hcl hl e0
  go_enter Try.func17, Try.ntmps17
  go_wp2_with (go_at_call 14; refine (rref_any A c code Al cl l _ (Kd.C_alloc HC.out _) HCc.out (Kd.C_alloc HL.out _) HCl.out HLl.out).mono ?_; rintro e w2 ⟨rfl, hb⟩; rw [hR]; have K6 := Aside0.mk (blk_below (blk_new w (.cells #[.slice none 0 0, .int .i64 0] 31)) hb); have HB := Aside0.mk (below_step (below_alloc (Below.refl _ _) _) hb); clear hb; have y0 := blk_cell K6.out 0; have y1 := blk_cell K6.out 1; have f0 := blk_frozen K6.out)
  refine bodyPost_ret (v := .agg #[.slice none 0 0, .int .i64 0]) ?_ rfl ⟨_, rfl, Kd.R_nil _ _ _ _ _, ?_⟩
  · simp [results, Try.results17, go_sem, y0, y1]
  · repeat (first | exact HB.out | (refine below_set ?_ (Nat.le_refl _)))
theorem rrun_any (A : Option Addr) (c : Nat) (code : List S40) (Al : Option Addr) (cl : Nat) (l : List S80) (An : Option Addr) (cn : Nat) (answers : List Int) (w : World) (hr : Kd.C k40 w A code.length code) (hc : code.length ≤ c) (hrl : Kd.C k80 w Al l.length l) (hcl : l.length ≤ cl) (hl : l.length ≤ 16) (hra : (Kd.int .i64).C w An answers.length answers) (hca : answers.length ≤ cn) (hal : answers.length ≤ 100000) :
    Calls Try.prog 17 #[.slice A code.length c, .slice Al l.length cl, .slice An answers.length cn] w (RunEnd (runAll code l answers) w) := by
  cases hR : right code l
  · exact rrun_wrong A c code Al cl l An cn answers w hr hc hrl hcl hl hR
  · exact rrun_right A c code Al cl l An cn answers w hr hc hrl hcl hra hca hal hR (fun W hB => rref_any A c code Al cl l W (Kd.C_below hr hB) hc (Kd.C_below hrl hB) hcl hl)
end Go.Proofs.Ytdmbnlpcfgphpaa.Q
