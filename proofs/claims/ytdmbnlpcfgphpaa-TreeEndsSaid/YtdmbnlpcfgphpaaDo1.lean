/- The contract of runner.do, part 1: printed by gen_do.py, a program of mine. -/
import Derived.Test.YtdmbnlpcfgphpaaDoP
namespace Go.Proofs.Ytdmbnlpcfgphpaa.Q
open Go.RowKit Go.Proofs.YtdmbnlpcfgphpaaW.PrintWords Go.Proofs.YtdmbnlpcfgphpaaW.PrintLast Go.Proofs.YtdmbnlpcfgphpaaW.PrintMore
set_option linter.unusedVariables false
set_option linter.unusedSimpArgs false
set_option maxHeartbeats 4000000 in
set_option maxRecDepth 100000 in
theorem do_1 {w W : World} {g : Nat} {T : List Int} {Aa : Option Addr} {ca : Nat} {ans : List Int} {vt : Value} {acts : List S47} (S : Rn w W g T Aa ca ans vt acts) (i d a b loc len kk tt : Int) (hi : 0 ≤ i) (hi' : i ≤ 1000) (hl : acts.length ≤ 1000)
    (hd0 : 0 ≤ d) (hd1 : d < 400) (ha0 : 0 ≤ a) (ha1 : a < 400) (hb0 : 0 ≤ b) (hb1 : b < 400) :
    Calls Try.prog 39 #[.pointer (some ⟨g, 0, none⟩), .int .i64 i, aIns ⟨1, d, a, b, loc, len, kk, tt⟩] W (DoPost w W g vt (i + 1) 0 (T.set d.toNat kk) ans acts) := by
  have e1 : wrap64 (i + 1) = i + 1 := wrap_of (by omega) (by omega)
  have KB : Aside0 (((W.alloc (.cells #[.pointer (some ⟨g, 0, none⟩)] 72)).alloc (.cells #[.int .i64 1, .int .i64 d, .int .i64 a, .int .i64 b, .int .i64 loc, .int .i64 len, .int .i64 kk, .int .i64 tt] 40)).heap[W.heap.size]? = some (.cells #[.pointer (some ⟨g, 0, none⟩)] 72 (0, 0))) := ⟨blk_alloc (blk_new _ _) _⟩
  have KX : Aside0 (((W.alloc (.cells #[.pointer (some ⟨g, 0, none⟩)] 72)).alloc (.cells #[.int .i64 1, .int .i64 d, .int .i64 a, .int .i64 b, .int .i64 loc, .int .i64 len, .int .i64 kk, .int .i64 tt] 40)).heap[W.heap.size + 1]? = some (.cells #[.int .i64 1, .int .i64 d, .int .i64 a, .int .i64 b, .int .i64 loc, .int .i64 len, .int .i64 kk, .int .i64 tt] 40 (0, 0))) := ⟨by have h_ := blk_new (W.alloc (.cells #[.pointer (some ⟨g, 0, none⟩)] 72)) (.cells #[.int .i64 1, .int .i64 d, .int .i64 a, .int .i64 b, .int .i64 loc, .int .i64 len, .int .i64 kk, .int .i64 tt] 40); simpa using h_⟩
  have S1 := Aside0.mk ((S.alloc (.cells #[.pointer (some ⟨g, 0, none⟩)] 72)).alloc (.cells #[.int .i64 1, .int .i64 d, .int .i64 a, .int .i64 b, .int .i64 loc, .int .i64 len, .int .i64 kk, .int .i64 tt] 40))
  have HK : Aside0 (KeepBut W ((W.alloc (.cells #[.pointer (some ⟨g, 0, none⟩)] 72)).alloc (.cells #[.int .i64 1, .int .i64 d, .int .i64 a, .int .i64 b, .int .i64 loc, .int .i64 len, .int .i64 kk, .int .i64 tt] 40)) g none) := ⟨keep_alloc (keep_alloc (KeepBut.refl _ _ _) _) _⟩
  have hgb : ¬ W.heap.size = g := by have := S.lt; omega
  have hgx : ¬ W.heap.size + 1 = g := by have := S.lt; omega
  clear S
  unfold aIns
  dsimp only
  go_enter Try.func39, Try.ntmps39
  go_wp2_with fail
  generalize hW1 : ((W.alloc (.cells #[.pointer (some ⟨g, 0, none⟩)] 72)).alloc (.cells #[.int .i64 1, .int .i64 d, .int .i64 a, .int .i64 b, .int .i64 loc, .int .i64 len, .int .i64 kk, .int .i64 tt] 40)) = W1 at KB KX S1 HK ⊢
  clear hW1
  generalize W.heap.size + 1 = bx at KX hgx ⊢
  generalize W.heap.size = bb at KB hgb ⊢
  have hcr := blk_cell KB.out 0
  have x0 := blk_cell KX.out 0
  have x1 := blk_cell KX.out 1
  have x2 := blk_cell KX.out 2
  have x3 := blk_cell KX.out 3
  have x4 := blk_cell KX.out 4
  have x5 := blk_cell KX.out 5
  have x6 := blk_cell KX.out 6
  have x7 := blk_cell KX.out 7
  have hta := S1.out.ctemp a ha0 ha1
  have htb := S1.out.ctemp b hb0 hb1
  go_quiet (fail)
  go_wp2
  go_quiet (fail)
  have hcd := S1.out.ctemp d hd0 hd1
  have hfd := S1.out.frozen d.toNat
  go_wp2
  go_region_held3 (fun w' => w'.cell? ⟨bb, 0, none⟩ = some (.pointer (some ⟨g, 0, none⟩)) ∧ w'.cell? ⟨bx, 1, none⟩ = some (.int .i64 d) ∧ w'.cell? ⟨bx, 6, none⟩ = some (.int .i64 kk))
    (first | go_keep | exact ⟨(cell_far hgb _).trans hcr, (cell_far hgx _).trans x1, (cell_far hgx _).trans x6⟩)
    (fail)
  go_wp2
  go_ret2
  exact ⟨rfl, ⟨_, _, _, by exact (S1.out.drewN _).put_temp d hd0 hd1 _⟩, kb_none (kb_then HK.out (KeepBut.set_ (keep_drewN (KeepBut.refl _ _ _) _) _ _))⟩
set_option maxHeartbeats 4000000 in
set_option maxRecDepth 100000 in
theorem do_4 {w W : World} {g : Nat} {T : List Int} {Aa : Option Addr} {ca : Nat} {ans : List Int} {vt : Value} {acts : List S47} (S : Rn w W g T Aa ca ans vt acts) (i d a b loc len kk tt : Int) (hi : 0 ≤ i) (hi' : i ≤ 1000) (hl : acts.length ≤ 1000)
    (hd0 : 0 ≤ d) (hd1 : d < 400) (ha0 : 0 ≤ a) (ha1 : a < 400) (hb0 : 0 ≤ b) (hb1 : b < 400) :
    Calls Try.prog 39 #[.pointer (some ⟨g, 0, none⟩), .int .i64 i, aIns ⟨4, d, a, b, loc, len, kk, tt⟩] W (DoPost w W g vt (i + 1) 0 (T.set d.toNat (wrap64 (rd T a * rd T b))) ans acts) := by
  have e1 : wrap64 (i + 1) = i + 1 := wrap_of (by omega) (by omega)
  have KB : Aside0 (((W.alloc (.cells #[.pointer (some ⟨g, 0, none⟩)] 72)).alloc (.cells #[.int .i64 4, .int .i64 d, .int .i64 a, .int .i64 b, .int .i64 loc, .int .i64 len, .int .i64 kk, .int .i64 tt] 40)).heap[W.heap.size]? = some (.cells #[.pointer (some ⟨g, 0, none⟩)] 72 (0, 0))) := ⟨blk_alloc (blk_new _ _) _⟩
  have KX : Aside0 (((W.alloc (.cells #[.pointer (some ⟨g, 0, none⟩)] 72)).alloc (.cells #[.int .i64 4, .int .i64 d, .int .i64 a, .int .i64 b, .int .i64 loc, .int .i64 len, .int .i64 kk, .int .i64 tt] 40)).heap[W.heap.size + 1]? = some (.cells #[.int .i64 4, .int .i64 d, .int .i64 a, .int .i64 b, .int .i64 loc, .int .i64 len, .int .i64 kk, .int .i64 tt] 40 (0, 0))) := ⟨by have h_ := blk_new (W.alloc (.cells #[.pointer (some ⟨g, 0, none⟩)] 72)) (.cells #[.int .i64 4, .int .i64 d, .int .i64 a, .int .i64 b, .int .i64 loc, .int .i64 len, .int .i64 kk, .int .i64 tt] 40); simpa using h_⟩
  have S1 := Aside0.mk ((S.alloc (.cells #[.pointer (some ⟨g, 0, none⟩)] 72)).alloc (.cells #[.int .i64 4, .int .i64 d, .int .i64 a, .int .i64 b, .int .i64 loc, .int .i64 len, .int .i64 kk, .int .i64 tt] 40))
  have HK : Aside0 (KeepBut W ((W.alloc (.cells #[.pointer (some ⟨g, 0, none⟩)] 72)).alloc (.cells #[.int .i64 4, .int .i64 d, .int .i64 a, .int .i64 b, .int .i64 loc, .int .i64 len, .int .i64 kk, .int .i64 tt] 40)) g none) := ⟨keep_alloc (keep_alloc (KeepBut.refl _ _ _) _) _⟩
  have hgb : ¬ W.heap.size = g := by have := S.lt; omega
  have hgx : ¬ W.heap.size + 1 = g := by have := S.lt; omega
  clear S
  unfold aIns
  dsimp only
  go_enter Try.func39, Try.ntmps39
  go_wp2_with fail
  generalize hW1 : ((W.alloc (.cells #[.pointer (some ⟨g, 0, none⟩)] 72)).alloc (.cells #[.int .i64 4, .int .i64 d, .int .i64 a, .int .i64 b, .int .i64 loc, .int .i64 len, .int .i64 kk, .int .i64 tt] 40)) = W1 at KB KX S1 HK ⊢
  clear hW1
  generalize W.heap.size + 1 = bx at KX hgx ⊢
  generalize W.heap.size = bb at KB hgb ⊢
  have hcr := blk_cell KB.out 0
  have x0 := blk_cell KX.out 0
  have x1 := blk_cell KX.out 1
  have x2 := blk_cell KX.out 2
  have x3 := blk_cell KX.out 3
  have x4 := blk_cell KX.out 4
  have x5 := blk_cell KX.out 5
  have x6 := blk_cell KX.out 6
  have x7 := blk_cell KX.out 7
  have hta := S1.out.ctemp a ha0 ha1
  have htb := S1.out.ctemp b hb0 hb1
  go_quiet (fail)
  go_wp2
  go_quiet (fail)
  have hcd := S1.out.ctemp d hd0 hd1
  have hfd := S1.out.frozen d.toNat
  go_wp2
  go_region_held3 (fun w' => w'.cell? ⟨bb, 0, none⟩ = some (.pointer (some ⟨g, 0, none⟩)) ∧ w'.cell? ⟨bx, 1, none⟩ = some (.int .i64 d))
    (first | go_keep | exact ⟨(cell_far hgb _).trans hcr, (cell_far hgx _).trans x1⟩)
    (fail)
  go_wp2
  go_ret2
  exact ⟨rfl, ⟨_, _, _, by rw [← IntWalk.i64_left]; exact (S1.out.drewN _).put_temp d hd0 hd1 _⟩, kb_none (kb_then HK.out (KeepBut.set_ (keep_drewN (KeepBut.refl _ _ _) _) _ _))⟩
set_option maxHeartbeats 4000000 in
set_option maxRecDepth 100000 in
theorem do_6n {w W : World} {g : Nat} {T : List Int} {Aa : Option Addr} {ca : Nat} {vt : Value} {acts : List S47} (S : Rn w W g T Aa ca [] vt acts) (i d a b loc len kk tt : Int) (hi : 0 ≤ i) (hi' : i ≤ 1000) (hl : acts.length ≤ 1000)
    (hd0 : 0 ≤ d) (hd1 : d < 400) (ha0 : 0 ≤ a) (ha1 : a < 400) (hb0 : 0 ≤ b) (hb1 : b < 400) :
    Calls Try.prog 39 #[.pointer (some ⟨g, 0, none⟩), .int .i64 i, aIns ⟨6, d, a, b, loc, len, kk, tt⟩] W (DoPost w W g vt 0 4 T [] acts) := by
  have e1 : wrap64 (i + 1) = i + 1 := wrap_of (by omega) (by omega)
  have KB : Aside0 (((W.alloc (.cells #[.pointer (some ⟨g, 0, none⟩)] 72)).alloc (.cells #[.int .i64 6, .int .i64 d, .int .i64 a, .int .i64 b, .int .i64 loc, .int .i64 len, .int .i64 kk, .int .i64 tt] 40)).heap[W.heap.size]? = some (.cells #[.pointer (some ⟨g, 0, none⟩)] 72 (0, 0))) := ⟨blk_alloc (blk_new _ _) _⟩
  have KX : Aside0 (((W.alloc (.cells #[.pointer (some ⟨g, 0, none⟩)] 72)).alloc (.cells #[.int .i64 6, .int .i64 d, .int .i64 a, .int .i64 b, .int .i64 loc, .int .i64 len, .int .i64 kk, .int .i64 tt] 40)).heap[W.heap.size + 1]? = some (.cells #[.int .i64 6, .int .i64 d, .int .i64 a, .int .i64 b, .int .i64 loc, .int .i64 len, .int .i64 kk, .int .i64 tt] 40 (0, 0))) := ⟨by have h_ := blk_new (W.alloc (.cells #[.pointer (some ⟨g, 0, none⟩)] 72)) (.cells #[.int .i64 6, .int .i64 d, .int .i64 a, .int .i64 b, .int .i64 loc, .int .i64 len, .int .i64 kk, .int .i64 tt] 40); simpa using h_⟩
  have S1 := Aside0.mk ((S.alloc (.cells #[.pointer (some ⟨g, 0, none⟩)] 72)).alloc (.cells #[.int .i64 6, .int .i64 d, .int .i64 a, .int .i64 b, .int .i64 loc, .int .i64 len, .int .i64 kk, .int .i64 tt] 40))
  have HK : Aside0 (KeepBut W ((W.alloc (.cells #[.pointer (some ⟨g, 0, none⟩)] 72)).alloc (.cells #[.int .i64 6, .int .i64 d, .int .i64 a, .int .i64 b, .int .i64 loc, .int .i64 len, .int .i64 kk, .int .i64 tt] 40)) g none) := ⟨keep_alloc (keep_alloc (KeepBut.refl _ _ _) _) _⟩
  have hgb : ¬ W.heap.size = g := by have := S.lt; omega
  have hgx : ¬ W.heap.size + 1 = g := by have := S.lt; omega
  clear S
  unfold aIns
  dsimp only
  go_enter Try.func39, Try.ntmps39
  go_wp2_with fail
  generalize hW1 : ((W.alloc (.cells #[.pointer (some ⟨g, 0, none⟩)] 72)).alloc (.cells #[.int .i64 6, .int .i64 d, .int .i64 a, .int .i64 b, .int .i64 loc, .int .i64 len, .int .i64 kk, .int .i64 tt] 40)) = W1 at KB KX S1 HK ⊢
  clear hW1
  generalize W.heap.size + 1 = bx at KX hgx ⊢
  generalize W.heap.size = bb at KB hgb ⊢
  have hcr := blk_cell KB.out 0
  have x0 := blk_cell KX.out 0
  have x1 := blk_cell KX.out 1
  have x2 := blk_cell KX.out 2
  have x3 := blk_cell KX.out 3
  have x4 := blk_cell KX.out 4
  have x5 := blk_cell KX.out 5
  have x6 := blk_cell KX.out 6
  have x7 := blk_cell KX.out 7
  have hta := S1.out.ctemp a ha0 ha1
  have htb := S1.out.ctemp b hb0 hb1
  go_quiet (fail)
  go_wp2
  go_quiet (fail)
  go_wp2_with (go_at_call 49; refine (ask_nil (S1.out.drewN _) ⟨6, d, a, b, loc, len, kk, tt⟩ 1 loc).mono ?_; rintro e w2 ⟨rfl, hs, hk⟩; have S2 := Aside0.mk hs; have HK2 := Aside0.mk hk; clear hs hk)
  go_ret2
  exact ⟨rfl, ⟨_, _, _, S2.out⟩, kb_none (kb_then HK.out (kb_then (keep_drewN (KeepBut.refl _ _ _) _) HK2.out))⟩
set_option maxHeartbeats 4000000 in
set_option maxRecDepth 100000 in
theorem do_8 {w W : World} {g : Nat} {T : List Int} {Aa : Option Addr} {ca : Nat} {n : Int} {ans : List Int} {vt : Value} {acts : List S47} (S : Rn w W g T Aa ca (n :: ans) vt acts) (i d a b loc len kk tt : Int) (hi : 0 ≤ i) (hi' : i ≤ 1000) (hl : acts.length ≤ 1000)
    (hd0 : 0 ≤ d) (hd1 : d < 400) (ha0 : 0 ≤ a) (ha1 : a < 400) (hb0 : 0 ≤ b) (hb1 : b < 400) :
    Calls Try.prog 39 #[.pointer (some ⟨g, 0, none⟩), .int .i64 i, aIns ⟨8, d, a, b, loc, len, kk, tt⟩] W (DoPost w W g vt (i + 1) 0 (T.set d.toNat n) ans (acts ++ [⟨3, loc, n, 0⟩])) := by
  have e1 : wrap64 (i + 1) = i + 1 := wrap_of (by omega) (by omega)
  have KB : Aside0 (((W.alloc (.cells #[.pointer (some ⟨g, 0, none⟩)] 72)).alloc (.cells #[.int .i64 8, .int .i64 d, .int .i64 a, .int .i64 b, .int .i64 loc, .int .i64 len, .int .i64 kk, .int .i64 tt] 40)).heap[W.heap.size]? = some (.cells #[.pointer (some ⟨g, 0, none⟩)] 72 (0, 0))) := ⟨blk_alloc (blk_new _ _) _⟩
  have KX : Aside0 (((W.alloc (.cells #[.pointer (some ⟨g, 0, none⟩)] 72)).alloc (.cells #[.int .i64 8, .int .i64 d, .int .i64 a, .int .i64 b, .int .i64 loc, .int .i64 len, .int .i64 kk, .int .i64 tt] 40)).heap[W.heap.size + 1]? = some (.cells #[.int .i64 8, .int .i64 d, .int .i64 a, .int .i64 b, .int .i64 loc, .int .i64 len, .int .i64 kk, .int .i64 tt] 40 (0, 0))) := ⟨by have h_ := blk_new (W.alloc (.cells #[.pointer (some ⟨g, 0, none⟩)] 72)) (.cells #[.int .i64 8, .int .i64 d, .int .i64 a, .int .i64 b, .int .i64 loc, .int .i64 len, .int .i64 kk, .int .i64 tt] 40); simpa using h_⟩
  have S1 := Aside0.mk ((S.alloc (.cells #[.pointer (some ⟨g, 0, none⟩)] 72)).alloc (.cells #[.int .i64 8, .int .i64 d, .int .i64 a, .int .i64 b, .int .i64 loc, .int .i64 len, .int .i64 kk, .int .i64 tt] 40))
  have HK : Aside0 (KeepBut W ((W.alloc (.cells #[.pointer (some ⟨g, 0, none⟩)] 72)).alloc (.cells #[.int .i64 8, .int .i64 d, .int .i64 a, .int .i64 b, .int .i64 loc, .int .i64 len, .int .i64 kk, .int .i64 tt] 40)) g none) := ⟨keep_alloc (keep_alloc (KeepBut.refl _ _ _) _) _⟩
  have hgb : ¬ W.heap.size = g := by have := S.lt; omega
  have hgx : ¬ W.heap.size + 1 = g := by have := S.lt; omega
  clear S
  unfold aIns
  dsimp only
  go_enter Try.func39, Try.ntmps39
  go_wp2_with fail
  generalize hW1 : ((W.alloc (.cells #[.pointer (some ⟨g, 0, none⟩)] 72)).alloc (.cells #[.int .i64 8, .int .i64 d, .int .i64 a, .int .i64 b, .int .i64 loc, .int .i64 len, .int .i64 kk, .int .i64 tt] 40)) = W1 at KB KX S1 HK ⊢
  clear hW1
  generalize W.heap.size + 1 = bx at KX hgx ⊢
  generalize W.heap.size = bb at KB hgb ⊢
  have hcr := blk_cell KB.out 0
  have x0 := blk_cell KX.out 0
  have x1 := blk_cell KX.out 1
  have x2 := blk_cell KX.out 2
  have x3 := blk_cell KX.out 3
  have x4 := blk_cell KX.out 4
  have x5 := blk_cell KX.out 5
  have x6 := blk_cell KX.out 6
  have x7 := blk_cell KX.out 7
  have hta := S1.out.ctemp a ha0 ha1
  have htb := S1.out.ctemp b hb0 hb1
  go_quiet (fail)
  go_wp2
  go_quiet (fail)
  go_wp2_with (go_at_call 49; refine (ask_plain (S1.out.drewN _) ⟨8, d, a, b, loc, len, kk, tt⟩ 3 loc (show (8 : Int) ≠ 10 by decide) (show (8 : Int) ≠ 11 by decide) hd0 hd1 hl).mono ?_; rintro e w2 ⟨rfl, hs, hk⟩; have S2 := Aside0.mk hs; have HK2 := Aside0.mk hk; clear hs hk)
  go_ret2
  obtain ⟨Ab, v1, hs⟩ := S2.out
  exact ⟨rfl, ⟨_, _, _, hs⟩, kb_then HK.out (kb_then (keep_drewN (KeepBut.refl _ _ _) _) HK2.out)⟩
set_option maxHeartbeats 4000000 in
set_option maxRecDepth 100000 in
theorem do_11n {w W : World} {g : Nat} {T : List Int} {Aa : Option Addr} {ca : Nat} {vt : Value} {acts : List S47} (S : Rn w W g T Aa ca [] vt acts) (i d a b loc len kk tt : Int) (hi : 0 ≤ i) (hi' : i ≤ 1000) (hl : acts.length ≤ 1000)
    (hd0 : 0 ≤ d) (hd1 : d < 400) (ha0 : 0 ≤ a) (ha1 : a < 400) (hb0 : 0 ≤ b) (hb1 : b < 400) :
    Calls Try.prog 39 #[.pointer (some ⟨g, 0, none⟩), .int .i64 i, aIns ⟨11, d, a, b, loc, len, kk, tt⟩] W (DoPost w W g vt 0 4 T [] acts) := by
  have e1 : wrap64 (i + 1) = i + 1 := wrap_of (by omega) (by omega)
  have KB : Aside0 (((W.alloc (.cells #[.pointer (some ⟨g, 0, none⟩)] 72)).alloc (.cells #[.int .i64 11, .int .i64 d, .int .i64 a, .int .i64 b, .int .i64 loc, .int .i64 len, .int .i64 kk, .int .i64 tt] 40)).heap[W.heap.size]? = some (.cells #[.pointer (some ⟨g, 0, none⟩)] 72 (0, 0))) := ⟨blk_alloc (blk_new _ _) _⟩
  have KX : Aside0 (((W.alloc (.cells #[.pointer (some ⟨g, 0, none⟩)] 72)).alloc (.cells #[.int .i64 11, .int .i64 d, .int .i64 a, .int .i64 b, .int .i64 loc, .int .i64 len, .int .i64 kk, .int .i64 tt] 40)).heap[W.heap.size + 1]? = some (.cells #[.int .i64 11, .int .i64 d, .int .i64 a, .int .i64 b, .int .i64 loc, .int .i64 len, .int .i64 kk, .int .i64 tt] 40 (0, 0))) := ⟨by have h_ := blk_new (W.alloc (.cells #[.pointer (some ⟨g, 0, none⟩)] 72)) (.cells #[.int .i64 11, .int .i64 d, .int .i64 a, .int .i64 b, .int .i64 loc, .int .i64 len, .int .i64 kk, .int .i64 tt] 40); simpa using h_⟩
  have S1 := Aside0.mk ((S.alloc (.cells #[.pointer (some ⟨g, 0, none⟩)] 72)).alloc (.cells #[.int .i64 11, .int .i64 d, .int .i64 a, .int .i64 b, .int .i64 loc, .int .i64 len, .int .i64 kk, .int .i64 tt] 40))
  have HK : Aside0 (KeepBut W ((W.alloc (.cells #[.pointer (some ⟨g, 0, none⟩)] 72)).alloc (.cells #[.int .i64 11, .int .i64 d, .int .i64 a, .int .i64 b, .int .i64 loc, .int .i64 len, .int .i64 kk, .int .i64 tt] 40)) g none) := ⟨keep_alloc (keep_alloc (KeepBut.refl _ _ _) _) _⟩
  have hgb : ¬ W.heap.size = g := by have := S.lt; omega
  have hgx : ¬ W.heap.size + 1 = g := by have := S.lt; omega
  clear S
  unfold aIns
  dsimp only
  go_enter Try.func39, Try.ntmps39
  go_wp2_with fail
  generalize hW1 : ((W.alloc (.cells #[.pointer (some ⟨g, 0, none⟩)] 72)).alloc (.cells #[.int .i64 11, .int .i64 d, .int .i64 a, .int .i64 b, .int .i64 loc, .int .i64 len, .int .i64 kk, .int .i64 tt] 40)) = W1 at KB KX S1 HK ⊢
  clear hW1
  generalize W.heap.size + 1 = bx at KX hgx ⊢
  generalize W.heap.size = bb at KB hgb ⊢
  have hcr := blk_cell KB.out 0
  have x0 := blk_cell KX.out 0
  have x1 := blk_cell KX.out 1
  have x2 := blk_cell KX.out 2
  have x3 := blk_cell KX.out 3
  have x4 := blk_cell KX.out 4
  have x5 := blk_cell KX.out 5
  have x6 := blk_cell KX.out 6
  have x7 := blk_cell KX.out 7
  have hta := S1.out.ctemp a ha0 ha1
  have htb := S1.out.ctemp b hb0 hb1
  go_quiet (fail)
  go_wp2
  go_quiet (fail)
  go_wp2_with (go_at_call 49; refine (ask_nil (S1.out.drewN _) ⟨11, d, a, b, loc, len, kk, tt⟩ 5 loc).mono ?_; rintro e w2 ⟨rfl, hs, hk⟩; have S2 := Aside0.mk hs; have HK2 := Aside0.mk hk; clear hs hk)
  go_ret2
  exact ⟨rfl, ⟨_, _, _, S2.out⟩, kb_none (kb_then HK.out (kb_then (keep_drewN (KeepBut.refl _ _ _) _) HK2.out))⟩
set_option maxHeartbeats 4000000 in
set_option maxRecDepth 100000 in
theorem do_9 {w W : World} {g : Nat} {T : List Int} {Aa : Option Addr} {ca : Nat} {ans : List Int} {vt : Value} {acts : List S47} (S : Rn w W g T Aa ca ans vt acts) (i d a b loc len kk tt : Int) (hi : 0 ≤ i) (hi' : i ≤ 1000) (hl : acts.length ≤ 1000)
    (hd0 : 0 ≤ d) (hd1 : d < 400) (ha0 : 0 ≤ a) (ha1 : a < 400) (hb0 : 0 ≤ b) (hb1 : b < 400) :
    Calls Try.prog 39 #[.pointer (some ⟨g, 0, none⟩), .int .i64 i, aIns ⟨9, d, a, b, loc, len, kk, tt⟩] W (DoPost w W g vt (i + 1) 0 T ans (acts ++ [⟨4, loc, 0, rd T a⟩])) := by
  have e1 : wrap64 (i + 1) = i + 1 := wrap_of (by omega) (by omega)
  have KB : Aside0 (((W.alloc (.cells #[.pointer (some ⟨g, 0, none⟩)] 72)).alloc (.cells #[.int .i64 9, .int .i64 d, .int .i64 a, .int .i64 b, .int .i64 loc, .int .i64 len, .int .i64 kk, .int .i64 tt] 40)).heap[W.heap.size]? = some (.cells #[.pointer (some ⟨g, 0, none⟩)] 72 (0, 0))) := ⟨blk_alloc (blk_new _ _) _⟩
  have KX : Aside0 (((W.alloc (.cells #[.pointer (some ⟨g, 0, none⟩)] 72)).alloc (.cells #[.int .i64 9, .int .i64 d, .int .i64 a, .int .i64 b, .int .i64 loc, .int .i64 len, .int .i64 kk, .int .i64 tt] 40)).heap[W.heap.size + 1]? = some (.cells #[.int .i64 9, .int .i64 d, .int .i64 a, .int .i64 b, .int .i64 loc, .int .i64 len, .int .i64 kk, .int .i64 tt] 40 (0, 0))) := ⟨by have h_ := blk_new (W.alloc (.cells #[.pointer (some ⟨g, 0, none⟩)] 72)) (.cells #[.int .i64 9, .int .i64 d, .int .i64 a, .int .i64 b, .int .i64 loc, .int .i64 len, .int .i64 kk, .int .i64 tt] 40); simpa using h_⟩
  have S1 := Aside0.mk ((S.alloc (.cells #[.pointer (some ⟨g, 0, none⟩)] 72)).alloc (.cells #[.int .i64 9, .int .i64 d, .int .i64 a, .int .i64 b, .int .i64 loc, .int .i64 len, .int .i64 kk, .int .i64 tt] 40))
  have HK : Aside0 (KeepBut W ((W.alloc (.cells #[.pointer (some ⟨g, 0, none⟩)] 72)).alloc (.cells #[.int .i64 9, .int .i64 d, .int .i64 a, .int .i64 b, .int .i64 loc, .int .i64 len, .int .i64 kk, .int .i64 tt] 40)) g none) := ⟨keep_alloc (keep_alloc (KeepBut.refl _ _ _) _) _⟩
  have hgb : ¬ W.heap.size = g := by have := S.lt; omega
  have hgx : ¬ W.heap.size + 1 = g := by have := S.lt; omega
  clear S
  unfold aIns
  dsimp only
  go_enter Try.func39, Try.ntmps39
  go_wp2_with fail
  generalize hW1 : ((W.alloc (.cells #[.pointer (some ⟨g, 0, none⟩)] 72)).alloc (.cells #[.int .i64 9, .int .i64 d, .int .i64 a, .int .i64 b, .int .i64 loc, .int .i64 len, .int .i64 kk, .int .i64 tt] 40)) = W1 at KB KX S1 HK ⊢
  clear hW1
  generalize W.heap.size + 1 = bx at KX hgx ⊢
  generalize W.heap.size = bb at KB hgb ⊢
  have hcr := blk_cell KB.out 0
  have x0 := blk_cell KX.out 0
  have x1 := blk_cell KX.out 1
  have x2 := blk_cell KX.out 2
  have x3 := blk_cell KX.out 3
  have x4 := blk_cell KX.out 4
  have x5 := blk_cell KX.out 5
  have x6 := blk_cell KX.out 6
  have x7 := blk_cell KX.out 7
  have hta := S1.out.ctemp a ha0 ha1
  have htb := S1.out.ctemp b hb0 hb1
  go_quiet (fail)
  go_wp2
  go_quiet (fail)
  go_wp2_with (go_at_call 47; refine (write_any (S1.out.drewN _) (blk_drewN KB.out _) 4 (loc) (rd T a) hl).mono ?_; rintro e w2 ⟨rfl, v1, hs, hk⟩; have S2 := Aside0.mk hs; have HK2 := Aside0.mk hk; clear hs hk)
  go_ret2
  exact ⟨rfl, ⟨_, _, _, S2.out⟩, kb_then HK.out (kb_then (keep_drewN (KeepBut.refl _ _ _) _) HK2.out)⟩
set_option maxHeartbeats 4000000 in
set_option maxRecDepth 100000 in
theorem do_13n {w W : World} {g : Nat} {T : List Int} {Aa : Option Addr} {ca : Nat} {vt : Value} {acts : List S47} (S : Rn w W g T Aa ca [] vt acts) (i d a b loc len kk tt : Int) (hi : 0 ≤ i) (hi' : i ≤ 1000) (hl : acts.length ≤ 1000)
    (hd0 : 0 ≤ d) (hd1 : d < 400) (ha0 : 0 ≤ a) (ha1 : a < 400) (hb0 : 0 ≤ b) (hb1 : b < 400) (hr0 : 0 ≤ rd T a) (hr1 : rd T a < len) :
    Calls Try.prog 39 #[.pointer (some ⟨g, 0, none⟩), .int .i64 i, aIns ⟨13, d, a, b, loc, len, kk, tt⟩] W (DoPost w W g vt 0 4 T [] acts) := by
  have e1 : wrap64 (i + 1) = i + 1 := wrap_of (by omega) (by omega)
  have c1 : decide (rd T a < 0) = false := decide_eq_false (by omega)
  have c2 : decide (len ≤ rd T a) = false := decide_eq_false (by omega)
  have KB : Aside0 (((W.alloc (.cells #[.pointer (some ⟨g, 0, none⟩)] 72)).alloc (.cells #[.int .i64 13, .int .i64 d, .int .i64 a, .int .i64 b, .int .i64 loc, .int .i64 len, .int .i64 kk, .int .i64 tt] 40)).heap[W.heap.size]? = some (.cells #[.pointer (some ⟨g, 0, none⟩)] 72 (0, 0))) := ⟨blk_alloc (blk_new _ _) _⟩
  have KX : Aside0 (((W.alloc (.cells #[.pointer (some ⟨g, 0, none⟩)] 72)).alloc (.cells #[.int .i64 13, .int .i64 d, .int .i64 a, .int .i64 b, .int .i64 loc, .int .i64 len, .int .i64 kk, .int .i64 tt] 40)).heap[W.heap.size + 1]? = some (.cells #[.int .i64 13, .int .i64 d, .int .i64 a, .int .i64 b, .int .i64 loc, .int .i64 len, .int .i64 kk, .int .i64 tt] 40 (0, 0))) := ⟨by have h_ := blk_new (W.alloc (.cells #[.pointer (some ⟨g, 0, none⟩)] 72)) (.cells #[.int .i64 13, .int .i64 d, .int .i64 a, .int .i64 b, .int .i64 loc, .int .i64 len, .int .i64 kk, .int .i64 tt] 40); simpa using h_⟩
  have S1 := Aside0.mk ((S.alloc (.cells #[.pointer (some ⟨g, 0, none⟩)] 72)).alloc (.cells #[.int .i64 13, .int .i64 d, .int .i64 a, .int .i64 b, .int .i64 loc, .int .i64 len, .int .i64 kk, .int .i64 tt] 40))
  have HK : Aside0 (KeepBut W ((W.alloc (.cells #[.pointer (some ⟨g, 0, none⟩)] 72)).alloc (.cells #[.int .i64 13, .int .i64 d, .int .i64 a, .int .i64 b, .int .i64 loc, .int .i64 len, .int .i64 kk, .int .i64 tt] 40)) g none) := ⟨keep_alloc (keep_alloc (KeepBut.refl _ _ _) _) _⟩
  have hgb : ¬ W.heap.size = g := by have := S.lt; omega
  have hgx : ¬ W.heap.size + 1 = g := by have := S.lt; omega
  clear S
  unfold aIns
  dsimp only
  go_enter Try.func39, Try.ntmps39
  go_wp2_with fail
  generalize hW1 : ((W.alloc (.cells #[.pointer (some ⟨g, 0, none⟩)] 72)).alloc (.cells #[.int .i64 13, .int .i64 d, .int .i64 a, .int .i64 b, .int .i64 loc, .int .i64 len, .int .i64 kk, .int .i64 tt] 40)) = W1 at KB KX S1 HK ⊢
  clear hW1
  generalize W.heap.size + 1 = bx at KX hgx ⊢
  generalize W.heap.size = bb at KB hgb ⊢
  have hcr := blk_cell KB.out 0
  have x0 := blk_cell KX.out 0
  have x1 := blk_cell KX.out 1
  have x2 := blk_cell KX.out 2
  have x3 := blk_cell KX.out 3
  have x4 := blk_cell KX.out 4
  have x5 := blk_cell KX.out 5
  have x6 := blk_cell KX.out 6
  have x7 := blk_cell KX.out 7
  have hta := S1.out.ctemp a ha0 ha1
  have htb := S1.out.ctemp b hb0 hb1
  go_quiet (fail)
  go_wp2
  go_quiet (fail)
  go_wp2_with (go_at_call 49; refine (ask_nil (S1.out.drewN _) ⟨13, d, a, b, loc, len, kk, tt⟩ 1 (wrap64 (loc + rd T a))).mono ?_; rintro e w2 ⟨rfl, hs, hk⟩; have S2 := Aside0.mk hs; have HK2 := Aside0.mk hk; clear hs hk)
  go_ret2
  exact ⟨rfl, ⟨_, _, _, S2.out⟩, kb_none (kb_then HK.out (kb_then (keep_drewN (KeepBut.refl _ _ _) _) HK2.out))⟩
set_option maxHeartbeats 4000000 in
set_option maxRecDepth 100000 in
theorem do_13h {w W : World} {g : Nat} {T : List Int} {Aa : Option Addr} {ca : Nat} {ans : List Int} {vt : Value} {acts : List S47} (S : Rn w W g T Aa ca ans vt acts) (i d a b loc len kk tt : Int) (hi : 0 ≤ i) (hi' : i ≤ 1000) (hl : acts.length ≤ 1000)
    (hd0 : 0 ≤ d) (hd1 : d < 400) (ha0 : 0 ≤ a) (ha1 : a < 400) (hb0 : 0 ≤ b) (hb1 : b < 400) (hr0 : 0 ≤ rd T a) (hr1 : len ≤ rd T a) :
    Calls Try.prog 39 #[.pointer (some ⟨g, 0, none⟩), .int .i64 i, aIns ⟨13, d, a, b, loc, len, kk, tt⟩] W (DoPost w W g vt 0 3 T ans acts) := by
  have e1 : wrap64 (i + 1) = i + 1 := wrap_of (by omega) (by omega)
  have c1 : decide (rd T a < 0) = false := decide_eq_false (by omega)
  have c2 : decide (len ≤ rd T a) = true := decide_eq_true hr1
  have KB : Aside0 (((W.alloc (.cells #[.pointer (some ⟨g, 0, none⟩)] 72)).alloc (.cells #[.int .i64 13, .int .i64 d, .int .i64 a, .int .i64 b, .int .i64 loc, .int .i64 len, .int .i64 kk, .int .i64 tt] 40)).heap[W.heap.size]? = some (.cells #[.pointer (some ⟨g, 0, none⟩)] 72 (0, 0))) := ⟨blk_alloc (blk_new _ _) _⟩
  have KX : Aside0 (((W.alloc (.cells #[.pointer (some ⟨g, 0, none⟩)] 72)).alloc (.cells #[.int .i64 13, .int .i64 d, .int .i64 a, .int .i64 b, .int .i64 loc, .int .i64 len, .int .i64 kk, .int .i64 tt] 40)).heap[W.heap.size + 1]? = some (.cells #[.int .i64 13, .int .i64 d, .int .i64 a, .int .i64 b, .int .i64 loc, .int .i64 len, .int .i64 kk, .int .i64 tt] 40 (0, 0))) := ⟨by have h_ := blk_new (W.alloc (.cells #[.pointer (some ⟨g, 0, none⟩)] 72)) (.cells #[.int .i64 13, .int .i64 d, .int .i64 a, .int .i64 b, .int .i64 loc, .int .i64 len, .int .i64 kk, .int .i64 tt] 40); simpa using h_⟩
  have S1 := Aside0.mk ((S.alloc (.cells #[.pointer (some ⟨g, 0, none⟩)] 72)).alloc (.cells #[.int .i64 13, .int .i64 d, .int .i64 a, .int .i64 b, .int .i64 loc, .int .i64 len, .int .i64 kk, .int .i64 tt] 40))
  have HK : Aside0 (KeepBut W ((W.alloc (.cells #[.pointer (some ⟨g, 0, none⟩)] 72)).alloc (.cells #[.int .i64 13, .int .i64 d, .int .i64 a, .int .i64 b, .int .i64 loc, .int .i64 len, .int .i64 kk, .int .i64 tt] 40)) g none) := ⟨keep_alloc (keep_alloc (KeepBut.refl _ _ _) _) _⟩
  have hgb : ¬ W.heap.size = g := by have := S.lt; omega
  have hgx : ¬ W.heap.size + 1 = g := by have := S.lt; omega
  clear S
  unfold aIns
  dsimp only
  go_enter Try.func39, Try.ntmps39
  go_wp2_with fail
  generalize hW1 : ((W.alloc (.cells #[.pointer (some ⟨g, 0, none⟩)] 72)).alloc (.cells #[.int .i64 13, .int .i64 d, .int .i64 a, .int .i64 b, .int .i64 loc, .int .i64 len, .int .i64 kk, .int .i64 tt] 40)) = W1 at KB KX S1 HK ⊢
  clear hW1
  generalize W.heap.size + 1 = bx at KX hgx ⊢
  generalize W.heap.size = bb at KB hgb ⊢
  have hcr := blk_cell KB.out 0
  have x0 := blk_cell KX.out 0
  have x1 := blk_cell KX.out 1
  have x2 := blk_cell KX.out 2
  have x3 := blk_cell KX.out 3
  have x4 := blk_cell KX.out 4
  have x5 := blk_cell KX.out 5
  have x6 := blk_cell KX.out 6
  have x7 := blk_cell KX.out 7
  have hta := S1.out.ctemp a ha0 ha1
  have htb := S1.out.ctemp b hb0 hb1
  go_quiet (fail)
  go_wp2
  go_quiet (fail)
  go_wp2
  go_ret2
  exact ⟨rfl, ⟨_, _, _, S1.out.drewN _⟩, kb_none (kb_then HK.out (keep_drewN (KeepBut.refl _ _ _) _))⟩
set_option maxHeartbeats 4000000 in
set_option maxRecDepth 100000 in
theorem do_16t {w W : World} {g : Nat} {T : List Int} {Aa : Option Addr} {ca : Nat} {ans : List Int} {vt : Value} {acts : List S47} (S : Rn w W g T Aa ca ans vt acts) (i d a b loc len kk tt : Int) (hi : 0 ≤ i) (hi' : i ≤ 1000) (hl : acts.length ≤ 1000)
    (hd0 : 0 ≤ d) (hd1 : d < 400) (ha0 : 0 ≤ a) (ha1 : a < 400) (hb0 : 0 ≤ b) (hb1 : b < 400) (hr : rd T b ≤ rd T a) :
    Calls Try.prog 39 #[.pointer (some ⟨g, 0, none⟩), .int .i64 i, aIns ⟨16, d, a, b, loc, len, kk, tt⟩] W (DoPost w W g vt tt 0 T ans acts) := by
  have e1 : wrap64 (i + 1) = i + 1 := wrap_of (by omega) (by omega)
  have c1 : decide (rd T b ≤ rd T a) = true := decide_eq_true hr
  clear hr
  have KB : Aside0 (((W.alloc (.cells #[.pointer (some ⟨g, 0, none⟩)] 72)).alloc (.cells #[.int .i64 16, .int .i64 d, .int .i64 a, .int .i64 b, .int .i64 loc, .int .i64 len, .int .i64 kk, .int .i64 tt] 40)).heap[W.heap.size]? = some (.cells #[.pointer (some ⟨g, 0, none⟩)] 72 (0, 0))) := ⟨blk_alloc (blk_new _ _) _⟩
  have KX : Aside0 (((W.alloc (.cells #[.pointer (some ⟨g, 0, none⟩)] 72)).alloc (.cells #[.int .i64 16, .int .i64 d, .int .i64 a, .int .i64 b, .int .i64 loc, .int .i64 len, .int .i64 kk, .int .i64 tt] 40)).heap[W.heap.size + 1]? = some (.cells #[.int .i64 16, .int .i64 d, .int .i64 a, .int .i64 b, .int .i64 loc, .int .i64 len, .int .i64 kk, .int .i64 tt] 40 (0, 0))) := ⟨by have h_ := blk_new (W.alloc (.cells #[.pointer (some ⟨g, 0, none⟩)] 72)) (.cells #[.int .i64 16, .int .i64 d, .int .i64 a, .int .i64 b, .int .i64 loc, .int .i64 len, .int .i64 kk, .int .i64 tt] 40); simpa using h_⟩
  have S1 := Aside0.mk ((S.alloc (.cells #[.pointer (some ⟨g, 0, none⟩)] 72)).alloc (.cells #[.int .i64 16, .int .i64 d, .int .i64 a, .int .i64 b, .int .i64 loc, .int .i64 len, .int .i64 kk, .int .i64 tt] 40))
  have HK : Aside0 (KeepBut W ((W.alloc (.cells #[.pointer (some ⟨g, 0, none⟩)] 72)).alloc (.cells #[.int .i64 16, .int .i64 d, .int .i64 a, .int .i64 b, .int .i64 loc, .int .i64 len, .int .i64 kk, .int .i64 tt] 40)) g none) := ⟨keep_alloc (keep_alloc (KeepBut.refl _ _ _) _) _⟩
  have hgb : ¬ W.heap.size = g := by have := S.lt; omega
  have hgx : ¬ W.heap.size + 1 = g := by have := S.lt; omega
  clear S
  unfold aIns
  dsimp only
  go_enter Try.func39, Try.ntmps39
  go_wp2_with fail
  generalize hW1 : ((W.alloc (.cells #[.pointer (some ⟨g, 0, none⟩)] 72)).alloc (.cells #[.int .i64 16, .int .i64 d, .int .i64 a, .int .i64 b, .int .i64 loc, .int .i64 len, .int .i64 kk, .int .i64 tt] 40)) = W1 at KB KX S1 HK ⊢
  clear hW1
  generalize W.heap.size + 1 = bx at KX hgx ⊢
  generalize W.heap.size = bb at KB hgb ⊢
  have hcr := blk_cell KB.out 0
  have x0 := blk_cell KX.out 0
  have x1 := blk_cell KX.out 1
  have x2 := blk_cell KX.out 2
  have x3 := blk_cell KX.out 3
  have x4 := blk_cell KX.out 4
  have x5 := blk_cell KX.out 5
  have x6 := blk_cell KX.out 6
  have x7 := blk_cell KX.out 7
  have hta := S1.out.ctemp a ha0 ha1
  have htb := S1.out.ctemp b hb0 hb1
  go_quiet (fail)
  go_wp2
  go_quiet (fail)
  go_wp2
  go_ret2
  exact ⟨rfl, ⟨_, _, _, S1.out.drewN _⟩, kb_none (kb_then HK.out (keep_drewN (KeepBut.refl _ _ _) _))⟩
set_option maxHeartbeats 4000000 in
set_option maxRecDepth 100000 in
theorem do_17f {w W : World} {g : Nat} {T : List Int} {Aa : Option Addr} {ca : Nat} {ans : List Int} {vt : Value} {acts : List S47} (S : Rn w W g T Aa ca ans vt acts) (i d a b loc len kk tt : Int) (hi : 0 ≤ i) (hi' : i ≤ 1000) (hl : acts.length ≤ 1000)
    (hd0 : 0 ≤ d) (hd1 : d < 400) (ha0 : 0 ≤ a) (ha1 : a < 400) (hb0 : 0 ≤ b) (hb1 : b < 400) (hr : rd T a = rd T b) :
    Calls Try.prog 39 #[.pointer (some ⟨g, 0, none⟩), .int .i64 i, aIns ⟨17, d, a, b, loc, len, kk, tt⟩] W (DoPost w W g vt (i + 1) 0 T ans acts) := by
  have e1 : wrap64 (i + 1) = i + 1 := wrap_of (by omega) (by omega)
  have c1 : (rd T a != rd T b) = false := by simpa using hr
  clear hr
  have KB : Aside0 (((W.alloc (.cells #[.pointer (some ⟨g, 0, none⟩)] 72)).alloc (.cells #[.int .i64 17, .int .i64 d, .int .i64 a, .int .i64 b, .int .i64 loc, .int .i64 len, .int .i64 kk, .int .i64 tt] 40)).heap[W.heap.size]? = some (.cells #[.pointer (some ⟨g, 0, none⟩)] 72 (0, 0))) := ⟨blk_alloc (blk_new _ _) _⟩
  have KX : Aside0 (((W.alloc (.cells #[.pointer (some ⟨g, 0, none⟩)] 72)).alloc (.cells #[.int .i64 17, .int .i64 d, .int .i64 a, .int .i64 b, .int .i64 loc, .int .i64 len, .int .i64 kk, .int .i64 tt] 40)).heap[W.heap.size + 1]? = some (.cells #[.int .i64 17, .int .i64 d, .int .i64 a, .int .i64 b, .int .i64 loc, .int .i64 len, .int .i64 kk, .int .i64 tt] 40 (0, 0))) := ⟨by have h_ := blk_new (W.alloc (.cells #[.pointer (some ⟨g, 0, none⟩)] 72)) (.cells #[.int .i64 17, .int .i64 d, .int .i64 a, .int .i64 b, .int .i64 loc, .int .i64 len, .int .i64 kk, .int .i64 tt] 40); simpa using h_⟩
  have S1 := Aside0.mk ((S.alloc (.cells #[.pointer (some ⟨g, 0, none⟩)] 72)).alloc (.cells #[.int .i64 17, .int .i64 d, .int .i64 a, .int .i64 b, .int .i64 loc, .int .i64 len, .int .i64 kk, .int .i64 tt] 40))
  have HK : Aside0 (KeepBut W ((W.alloc (.cells #[.pointer (some ⟨g, 0, none⟩)] 72)).alloc (.cells #[.int .i64 17, .int .i64 d, .int .i64 a, .int .i64 b, .int .i64 loc, .int .i64 len, .int .i64 kk, .int .i64 tt] 40)) g none) := ⟨keep_alloc (keep_alloc (KeepBut.refl _ _ _) _) _⟩
  have hgb : ¬ W.heap.size = g := by have := S.lt; omega
  have hgx : ¬ W.heap.size + 1 = g := by have := S.lt; omega
  clear S
  unfold aIns
  dsimp only
  go_enter Try.func39, Try.ntmps39
  go_wp2_with fail
  generalize hW1 : ((W.alloc (.cells #[.pointer (some ⟨g, 0, none⟩)] 72)).alloc (.cells #[.int .i64 17, .int .i64 d, .int .i64 a, .int .i64 b, .int .i64 loc, .int .i64 len, .int .i64 kk, .int .i64 tt] 40)) = W1 at KB KX S1 HK ⊢
  clear hW1
  generalize W.heap.size + 1 = bx at KX hgx ⊢
  generalize W.heap.size = bb at KB hgb ⊢
  have hcr := blk_cell KB.out 0
  have x0 := blk_cell KX.out 0
  have x1 := blk_cell KX.out 1
  have x2 := blk_cell KX.out 2
  have x3 := blk_cell KX.out 3
  have x4 := blk_cell KX.out 4
  have x5 := blk_cell KX.out 5
  have x6 := blk_cell KX.out 6
  have x7 := blk_cell KX.out 7
  have hta := S1.out.ctemp a ha0 ha1
  have htb := S1.out.ctemp b hb0 hb1
  go_quiet (fail)
  go_wp2
  go_quiet (fail)
  go_wp2
  go_ret2
  exact ⟨rfl, ⟨_, _, _, S1.out.drewN _⟩, kb_none (kb_then HK.out (keep_drewN (KeepBut.refl _ _ _) _))⟩
set_option maxHeartbeats 4000000 in
set_option maxRecDepth 100000 in
theorem do_12d {w W : World} {g : Nat} {T : List Int} {Aa : Option Addr} {ca : Nat} {n : Int} {ans : List Int} {vt : Value} {acts : List S47} (S : Rn w W g T Aa ca (n :: ans) vt acts) (i d a b loc len kk tt : Int) (hi : 0 ≤ i) (hi' : i ≤ 1000) (hl : acts.length ≤ 1000)
    (hd0 : 0 ≤ d) (hd1 : d < 400) (ha0 : 0 ≤ a) (ha1 : a < 400) (hb0 : 0 ≤ b) (hb1 : b < 400) (hr : n ≠ rd T a) :
    Calls Try.prog 39 #[.pointer (some ⟨g, 0, none⟩), .int .i64 i, aIns ⟨12, d, a, b, loc, len, kk, tt⟩] W (DoPost w W g vt tt 0 T ans (acts ++ [⟨3, loc, n, 0⟩])) := by
  have e1 : wrap64 (i + 1) = i + 1 := wrap_of (by omega) (by omega)
  have KB : Aside0 (((W.alloc (.cells #[.pointer (some ⟨g, 0, none⟩)] 72)).alloc (.cells #[.int .i64 12, .int .i64 d, .int .i64 a, .int .i64 b, .int .i64 loc, .int .i64 len, .int .i64 kk, .int .i64 tt] 40)).heap[W.heap.size]? = some (.cells #[.pointer (some ⟨g, 0, none⟩)] 72 (0, 0))) := ⟨blk_alloc (blk_new _ _) _⟩
  have KX : Aside0 (((W.alloc (.cells #[.pointer (some ⟨g, 0, none⟩)] 72)).alloc (.cells #[.int .i64 12, .int .i64 d, .int .i64 a, .int .i64 b, .int .i64 loc, .int .i64 len, .int .i64 kk, .int .i64 tt] 40)).heap[W.heap.size + 1]? = some (.cells #[.int .i64 12, .int .i64 d, .int .i64 a, .int .i64 b, .int .i64 loc, .int .i64 len, .int .i64 kk, .int .i64 tt] 40 (0, 0))) := ⟨by have h_ := blk_new (W.alloc (.cells #[.pointer (some ⟨g, 0, none⟩)] 72)) (.cells #[.int .i64 12, .int .i64 d, .int .i64 a, .int .i64 b, .int .i64 loc, .int .i64 len, .int .i64 kk, .int .i64 tt] 40); simpa using h_⟩
  have S1 := Aside0.mk ((S.alloc (.cells #[.pointer (some ⟨g, 0, none⟩)] 72)).alloc (.cells #[.int .i64 12, .int .i64 d, .int .i64 a, .int .i64 b, .int .i64 loc, .int .i64 len, .int .i64 kk, .int .i64 tt] 40))
  have HK : Aside0 (KeepBut W ((W.alloc (.cells #[.pointer (some ⟨g, 0, none⟩)] 72)).alloc (.cells #[.int .i64 12, .int .i64 d, .int .i64 a, .int .i64 b, .int .i64 loc, .int .i64 len, .int .i64 kk, .int .i64 tt] 40)) g none) := ⟨keep_alloc (keep_alloc (KeepBut.refl _ _ _) _) _⟩
  have hgb : ¬ W.heap.size = g := by have := S.lt; omega
  have hgx : ¬ W.heap.size + 1 = g := by have := S.lt; omega
  clear S
  unfold aIns
  dsimp only
  go_enter Try.func39, Try.ntmps39
  go_wp2_with fail
  generalize hW1 : ((W.alloc (.cells #[.pointer (some ⟨g, 0, none⟩)] 72)).alloc (.cells #[.int .i64 12, .int .i64 d, .int .i64 a, .int .i64 b, .int .i64 loc, .int .i64 len, .int .i64 kk, .int .i64 tt] 40)) = W1 at KB KX S1 HK ⊢
  clear hW1
  generalize W.heap.size + 1 = bx at KX hgx ⊢
  generalize W.heap.size = bb at KB hgb ⊢
  have hcr := blk_cell KB.out 0
  have x0 := blk_cell KX.out 0
  have x1 := blk_cell KX.out 1
  have x2 := blk_cell KX.out 2
  have x3 := blk_cell KX.out 3
  have x4 := blk_cell KX.out 4
  have x5 := blk_cell KX.out 5
  have x6 := blk_cell KX.out 6
  have x7 := blk_cell KX.out 7
  have hta := S1.out.ctemp a ha0 ha1
  have htb := S1.out.ctemp b hb0 hb1
  go_quiet (fail)
  go_wp2
  go_quiet (fail)
  go_wp2_with (go_at_call 48; refine (cases_ne (S1.out.drewN _) i ⟨12, d, a, b, loc, len, kk, tt⟩ (rd T a) (rd T b) hr hl).mono ?_; rintro e w2 ⟨rfl, hs, hk⟩; have S2 := Aside0.mk hs; have HK2 := Aside0.mk hk; clear hs hk)
  go_ret2
  obtain ⟨Ab, v1, hs⟩ := S2.out
  exact ⟨rfl, ⟨_, _, _, hs⟩, kb_then HK.out (kb_then (keep_drewN (KeepBut.refl _ _ _) _) HK2.out)⟩
end Go.Proofs.Ytdmbnlpcfgphpaa.Q
