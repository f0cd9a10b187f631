/- The contract of runner.do, part 3: printed by gen_do.py, a program of mine. -/
import Derived.Test.YtdmbnlpcfgphpaaDoP
namespace Go.Proofs.Ytdmbnlpcfgphpaa.Q
open Go.RowKit Go.Proofs.YtdmbnlpcfgphpaaW.PrintWords Go.Proofs.YtdmbnlpcfgphpaaW.PrintLast Go.Proofs.YtdmbnlpcfgphpaaW.PrintMore
set_option linter.unusedVariables false
set_option linter.unusedSimpArgs false
set_option maxHeartbeats 4000000 in
set_option maxRecDepth 100000 in
theorem do_3 {w W : World} {g : Nat} {T : List Int} {Aa : Option Addr} {ca : Nat} {ans : List Int} {vt : Value} {acts : List S47} (S : Rn w W g T Aa ca ans vt acts) (i d a b loc len kk tt : Int) (hi : 0 ≤ i) (hi' : i ≤ 1000) (hl : acts.length ≤ 1000)
    (hd0 : 0 ≤ d) (hd1 : d < 400) (ha0 : 0 ≤ a) (ha1 : a < 400) (hb0 : 0 ≤ b) (hb1 : b < 400) :
    Calls Try.prog 39 #[.pointer (some ⟨g, 0, none⟩), .int .i64 i, aIns ⟨3, d, a, b, loc, len, kk, tt⟩] W (DoPost w W g vt (i + 1) 0 (T.set d.toNat (wrap64 (rd T a - rd T b))) ans acts) := by
  have e1 : wrap64 (i + 1) = i + 1 := wrap_of (by omega) (by omega)
  have KB : Aside0 (((W.alloc (.cells #[.pointer (some ⟨g, 0, none⟩)] 72)).alloc (.cells #[.int .i64 3, .int .i64 d, .int .i64 a, .int .i64 b, .int .i64 loc, .int .i64 len, .int .i64 kk, .int .i64 tt] 40)).heap[W.heap.size]? = some (.cells #[.pointer (some ⟨g, 0, none⟩)] 72 (0, 0))) := ⟨blk_alloc (blk_new _ _) _⟩
  have KX : Aside0 (((W.alloc (.cells #[.pointer (some ⟨g, 0, none⟩)] 72)).alloc (.cells #[.int .i64 3, .int .i64 d, .int .i64 a, .int .i64 b, .int .i64 loc, .int .i64 len, .int .i64 kk, .int .i64 tt] 40)).heap[W.heap.size + 1]? = some (.cells #[.int .i64 3, .int .i64 d, .int .i64 a, .int .i64 b, .int .i64 loc, .int .i64 len, .int .i64 kk, .int .i64 tt] 40 (0, 0))) := ⟨by have h_ := blk_new (W.alloc (.cells #[.pointer (some ⟨g, 0, none⟩)] 72)) (.cells #[.int .i64 3, .int .i64 d, .int .i64 a, .int .i64 b, .int .i64 loc, .int .i64 len, .int .i64 kk, .int .i64 tt] 40); simpa using h_⟩
  have S1 := Aside0.mk ((S.alloc (.cells #[.pointer (some ⟨g, 0, none⟩)] 72)).alloc (.cells #[.int .i64 3, .int .i64 d, .int .i64 a, .int .i64 b, .int .i64 loc, .int .i64 len, .int .i64 kk, .int .i64 tt] 40))
  have HK : Aside0 (KeepBut W ((W.alloc (.cells #[.pointer (some ⟨g, 0, none⟩)] 72)).alloc (.cells #[.int .i64 3, .int .i64 d, .int .i64 a, .int .i64 b, .int .i64 loc, .int .i64 len, .int .i64 kk, .int .i64 tt] 40)) g none) := ⟨keep_alloc (keep_alloc (KeepBut.refl _ _ _) _) _⟩
  have hgb : ¬ W.heap.size = g := by have := S.lt; omega
  have hgx : ¬ W.heap.size + 1 = g := by have := S.lt; omega
  clear S
  unfold aIns
  dsimp only
  go_enter Try.func39, Try.ntmps39
  go_wp2_with fail
  generalize hW1 : ((W.alloc (.cells #[.pointer (some ⟨g, 0, none⟩)] 72)).alloc (.cells #[.int .i64 3, .int .i64 d, .int .i64 a, .int .i64 b, .int .i64 loc, .int .i64 len, .int .i64 kk, .int .i64 tt] 40)) = W1 at KB KX S1 HK ⊢
  clear hW1
  generalize W.heap.size + 1 = bx at KX hgx ⊢
  generalize W.heap.size = bb at KB hgb ⊢
  have hcr := blk_cell KB.out 0
  have x0 := blk_cell KX.out 0
  have x1 := blk_cell KX.out 1
  have x2 := blk_cell KX.out 2
  have x3 := blk_cell KX.out 3
  have x4 := blk_cell KX.out 4
  have x5 := blk_cell KX.out 5
  have x6 := blk_cell KX.out 6
  have x7 := blk_cell KX.out 7
  have hta := S1.out.ctemp a ha0 ha1
  have htb := S1.out.ctemp b hb0 hb1
  go_quiet (fail)
  go_wp2
  go_quiet (fail)
  have hcd := S1.out.ctemp d hd0 hd1
  have hfd := S1.out.frozen d.toNat
  go_wp2
  go_region_held3 (fun w' => w'.cell? ⟨bb, 0, none⟩ = some (.pointer (some ⟨g, 0, none⟩)) ∧ w'.cell? ⟨bx, 1, none⟩ = some (.int .i64 d))
    (first | go_keep | exact ⟨(cell_far hgb _).trans hcr, (cell_far hgx _).trans x1⟩)
    (fail)
  go_wp2
  go_ret2
  exact ⟨rfl, ⟨_, _, _, by rw [← IntWalk.i64_left]; exact (S1.out.drewN _).put_temp d hd0 hd1 _⟩, kb_none (kb_then HK.out (KeepBut.set_ (keep_drewN (KeepBut.refl _ _ _) _) _ _))⟩
set_option maxHeartbeats 4000000 in
set_option maxRecDepth 100000 in
theorem do_5 {w W : World} {g : Nat} {T : List Int} {Aa : Option Addr} {ca : Nat} {ans : List Int} {vt : Value} {acts : List S47} (S : Rn w W g T Aa ca ans vt acts) (i d a b loc len kk tt : Int) (hi : 0 ≤ i) (hi' : i ≤ 1000) (hl : acts.length ≤ 1000)
    (hd0 : 0 ≤ d) (hd1 : d < 400) (ha0 : 0 ≤ a) (ha1 : a < 400) (hb0 : 0 ≤ b) (hb1 : b < 400) (hz : rd T b ≠ 0) :
    Calls Try.prog 39 #[.pointer (some ⟨g, 0, none⟩), .int .i64 i, aIns ⟨5, d, a, b, loc, len, kk, tt⟩] W (DoPost w W g vt (i + 1) 0 (T.set d.toNat (wrap64 ((rd T a).tdiv (rd T b)))) ans acts) := by
  have e1 : wrap64 (i + 1) = i + 1 := wrap_of (by omega) (by omega)
  have c1 : (rd T b == 0) = false := beq_eq_false_iff_ne.2 hz
  have KB : Aside0 (((W.alloc (.cells #[.pointer (some ⟨g, 0, none⟩)] 72)).alloc (.cells #[.int .i64 5, .int .i64 d, .int .i64 a, .int .i64 b, .int .i64 loc, .int .i64 len, .int .i64 kk, .int .i64 tt] 40)).heap[W.heap.size]? = some (.cells #[.pointer (some ⟨g, 0, none⟩)] 72 (0, 0))) := ⟨blk_alloc (blk_new _ _) _⟩
  have KX : Aside0 (((W.alloc (.cells #[.pointer (some ⟨g, 0, none⟩)] 72)).alloc (.cells #[.int .i64 5, .int .i64 d, .int .i64 a, .int .i64 b, .int .i64 loc, .int .i64 len, .int .i64 kk, .int .i64 tt] 40)).heap[W.heap.size + 1]? = some (.cells #[.int .i64 5, .int .i64 d, .int .i64 a, .int .i64 b, .int .i64 loc, .int .i64 len, .int .i64 kk, .int .i64 tt] 40 (0, 0))) := ⟨by have h_ := blk_new (W.alloc (.cells #[.pointer (some ⟨g, 0, none⟩)] 72)) (.cells #[.int .i64 5, .int .i64 d, .int .i64 a, .int .i64 b, .int .i64 loc, .int .i64 len, .int .i64 kk, .int .i64 tt] 40); simpa using h_⟩
  have S1 := Aside0.mk ((S.alloc (.cells #[.pointer (some ⟨g, 0, none⟩)] 72)).alloc (.cells #[.int .i64 5, .int .i64 d, .int .i64 a, .int .i64 b, .int .i64 loc, .int .i64 len, .int .i64 kk, .int .i64 tt] 40))
  have HK : Aside0 (KeepBut W ((W.alloc (.cells #[.pointer (some ⟨g, 0, none⟩)] 72)).alloc (.cells #[.int .i64 5, .int .i64 d, .int .i64 a, .int .i64 b, .int .i64 loc, .int .i64 len, .int .i64 kk, .int .i64 tt] 40)) g none) := ⟨keep_alloc (keep_alloc (KeepBut.refl _ _ _) _) _⟩
  have hgb : ¬ W.heap.size = g := by have := S.lt; omega
  have hgx : ¬ W.heap.size + 1 = g := by have := S.lt; omega
  clear S
  unfold aIns
  dsimp only
  go_enter Try.func39, Try.ntmps39
  go_wp2_with fail
  generalize hW1 : ((W.alloc (.cells #[.pointer (some ⟨g, 0, none⟩)] 72)).alloc (.cells #[.int .i64 5, .int .i64 d, .int .i64 a, .int .i64 b, .int .i64 loc, .int .i64 len, .int .i64 kk, .int .i64 tt] 40)) = W1 at KB KX S1 HK ⊢
  clear hW1
  generalize W.heap.size + 1 = bx at KX hgx ⊢
  generalize W.heap.size = bb at KB hgb ⊢
  have hcr := blk_cell KB.out 0
  have x0 := blk_cell KX.out 0
  have x1 := blk_cell KX.out 1
  have x2 := blk_cell KX.out 2
  have x3 := blk_cell KX.out 3
  have x4 := blk_cell KX.out 4
  have x5 := blk_cell KX.out 5
  have x6 := blk_cell KX.out 6
  have x7 := blk_cell KX.out 7
  have hta := S1.out.ctemp a ha0 ha1
  have htb := S1.out.ctemp b hb0 hb1
  go_quiet (fail)
  go_wp2
  go_quiet (fail)
  have hcd := S1.out.ctemp d hd0 hd1
  have hfd := S1.out.frozen d.toNat
  go_wp2
  go_region_held3 (fun w' => w'.cell? ⟨bb, 0, none⟩ = some (.pointer (some ⟨g, 0, none⟩)) ∧ w'.cell? ⟨bx, 1, none⟩ = some (.int .i64 d))
    (first | go_keep | exact ⟨(cell_far hgb _).trans hcr, (cell_far hgx _).trans x1⟩)
    (fail)
  go_wp2
  go_ret2
  exact ⟨rfl, ⟨_, _, _, by rw [← IntWalk.i64_left]; exact (S1.out.drewN _).put_temp d hd0 hd1 _⟩, kb_none (kb_then HK.out (KeepBut.set_ (keep_drewN (KeepBut.refl _ _ _) _) _ _))⟩
set_option maxHeartbeats 4000000 in
set_option maxRecDepth 100000 in
theorem do_8n {w W : World} {g : Nat} {T : List Int} {Aa : Option Addr} {ca : Nat} {vt : Value} {acts : List S47} (S : Rn w W g T Aa ca [] vt acts) (i d a b loc len kk tt : Int) (hi : 0 ≤ i) (hi' : i ≤ 1000) (hl : acts.length ≤ 1000)
    (hd0 : 0 ≤ d) (hd1 : d < 400) (ha0 : 0 ≤ a) (ha1 : a < 400) (hb0 : 0 ≤ b) (hb1 : b < 400) :
    Calls Try.prog 39 #[.pointer (some ⟨g, 0, none⟩), .int .i64 i, aIns ⟨8, d, a, b, loc, len, kk, tt⟩] W (DoPost w W g vt 0 4 T [] acts) := by
  have e1 : wrap64 (i + 1) = i + 1 := wrap_of (by omega) (by omega)
  have KB : Aside0 (((W.alloc (.cells #[.pointer (some ⟨g, 0, none⟩)] 72)).alloc (.cells #[.int .i64 8, .int .i64 d, .int .i64 a, .int .i64 b, .int .i64 loc, .int .i64 len, .int .i64 kk, .int .i64 tt] 40)).heap[W.heap.size]? = some (.cells #[.pointer (some ⟨g, 0, none⟩)] 72 (0, 0))) := ⟨blk_alloc (blk_new _ _) _⟩
  have KX : Aside0 (((W.alloc (.cells #[.pointer (some ⟨g, 0, none⟩)] 72)).alloc (.cells #[.int .i64 8, .int .i64 d, .int .i64 a, .int .i64 b, .int .i64 loc, .int .i64 len, .int .i64 kk, .int .i64 tt] 40)).heap[W.heap.size + 1]? = some (.cells #[.int .i64 8, .int .i64 d, .int .i64 a, .int .i64 b, .int .i64 loc, .int .i64 len, .int .i64 kk, .int .i64 tt] 40 (0, 0))) := ⟨by have h_ := blk_new (W.alloc (.cells #[.pointer (some ⟨g, 0, none⟩)] 72)) (.cells #[.int .i64 8, .int .i64 d, .int .i64 a, .int .i64 b, .int .i64 loc, .int .i64 len, .int .i64 kk, .int .i64 tt] 40); simpa using h_⟩
  have S1 := Aside0.mk ((S.alloc (.cells #[.pointer (some ⟨g, 0, none⟩)] 72)).alloc (.cells #[.int .i64 8, .int .i64 d, .int .i64 a, .int .i64 b, .int .i64 loc, .int .i64 len, .int .i64 kk, .int .i64 tt] 40))
  have HK : Aside0 (KeepBut W ((W.alloc (.cells #[.pointer (some ⟨g, 0, none⟩)] 72)).alloc (.cells #[.int .i64 8, .int .i64 d, .int .i64 a, .int .i64 b, .int .i64 loc, .int .i64 len, .int .i64 kk, .int .i64 tt] 40)) g none) := ⟨keep_alloc (keep_alloc (KeepBut.refl _ _ _) _) _⟩
  have hgb : ¬ W.heap.size = g := by have := S.lt; omega
  have hgx : ¬ W.heap.size + 1 = g := by have := S.lt; omega
  clear S
  unfold aIns
  dsimp only
  go_enter Try.func39, Try.ntmps39
  go_wp2_with fail
  generalize hW1 : ((W.alloc (.cells #[.pointer (some ⟨g, 0, none⟩)] 72)).alloc (.cells #[.int .i64 8, .int .i64 d, .int .i64 a, .int .i64 b, .int .i64 loc, .int .i64 len, .int .i64 kk, .int .i64 tt] 40)) = W1 at KB KX S1 HK ⊢
  clear hW1
  generalize W.heap.size + 1 = bx at KX hgx ⊢
  generalize W.heap.size = bb at KB hgb ⊢
  have hcr := blk_cell KB.out 0
  have x0 := blk_cell KX.out 0
  have x1 := blk_cell KX.out 1
  have x2 := blk_cell KX.out 2
  have x3 := blk_cell KX.out 3
  have x4 := blk_cell KX.out 4
  have x5 := blk_cell KX.out 5
  have x6 := blk_cell KX.out 6
  have x7 := blk_cell KX.out 7
  have hta := S1.out.ctemp a ha0 ha1
  have htb := S1.out.ctemp b hb0 hb1
  go_quiet (fail)
  go_wp2
  go_quiet (fail)
  go_wp2_with (go_at_call 49; refine (ask_nil (S1.out.drewN _) ⟨8, d, a, b, loc, len, kk, tt⟩ 3 loc).mono ?_; rintro e w2 ⟨rfl, hs, hk⟩; have S2 := Aside0.mk hs; have HK2 := Aside0.mk hk; clear hs hk)
  go_ret2
  exact ⟨rfl, ⟨_, _, _, S2.out⟩, kb_none (kb_then HK.out (kb_then (keep_drewN (KeepBut.refl _ _ _) _) HK2.out))⟩
set_option maxHeartbeats 4000000 in
set_option maxRecDepth 100000 in
theorem do_10 {w W : World} {g : Nat} {T : List Int} {Aa : Option Addr} {ca : Nat} {n : Int} {ans : List Int} {vt : Value} {acts : List S47} (S : Rn w W g T Aa ca (n :: ans) vt acts) (i d a b loc len kk tt : Int) (hi : 0 ≤ i) (hi' : i ≤ 1000) (hl : acts.length ≤ 1000)
    (hd0 : 0 ≤ d) (hd1 : d < 400) (ha0 : 0 ≤ a) (ha1 : a < 400) (hb0 : 0 ≤ b) (hb1 : b < 400) :
    Calls Try.prog 39 #[.pointer (some ⟨g, 0, none⟩), .int .i64 i, aIns ⟨10, d, a, b, loc, len, kk, tt⟩] W (DoPost w W g vt (i + 1) 0 (T.set d.toNat n) ans (acts ++ [⟨5, loc, n, rd T a⟩])) := by
  have e1 : wrap64 (i + 1) = i + 1 := wrap_of (by omega) (by omega)
  have KB : Aside0 (((W.alloc (.cells #[.pointer (some ⟨g, 0, none⟩)] 72)).alloc (.cells #[.int .i64 10, .int .i64 d, .int .i64 a, .int .i64 b, .int .i64 loc, .int .i64 len, .int .i64 kk, .int .i64 tt] 40)).heap[W.heap.size]? = some (.cells #[.pointer (some ⟨g, 0, none⟩)] 72 (0, 0))) := ⟨blk_alloc (blk_new _ _) _⟩
  have KX : Aside0 (((W.alloc (.cells #[.pointer (some ⟨g, 0, none⟩)] 72)).alloc (.cells #[.int .i64 10, .int .i64 d, .int .i64 a, .int .i64 b, .int .i64 loc, .int .i64 len, .int .i64 kk, .int .i64 tt] 40)).heap[W.heap.size + 1]? = some (.cells #[.int .i64 10, .int .i64 d, .int .i64 a, .int .i64 b, .int .i64 loc, .int .i64 len, .int .i64 kk, .int .i64 tt] 40 (0, 0))) := ⟨by have h_ := blk_new (W.alloc (.cells #[.pointer (some ⟨g, 0, none⟩)] 72)) (.cells #[.int .i64 10, .int .i64 d, .int .i64 a, .int .i64 b, .int .i64 loc, .int .i64 len, .int .i64 kk, .int .i64 tt] 40); simpa using h_⟩
  have S1 := Aside0.mk ((S.alloc (.cells #[.pointer (some ⟨g, 0, none⟩)] 72)).alloc (.cells #[.int .i64 10, .int .i64 d, .int .i64 a, .int .i64 b, .int .i64 loc, .int .i64 len, .int .i64 kk, .int .i64 tt] 40))
  have HK : Aside0 (KeepBut W ((W.alloc (.cells #[.pointer (some ⟨g, 0, none⟩)] 72)).alloc (.cells #[.int .i64 10, .int .i64 d, .int .i64 a, .int .i64 b, .int .i64 loc, .int .i64 len, .int .i64 kk, .int .i64 tt] 40)) g none) := ⟨keep_alloc (keep_alloc (KeepBut.refl _ _ _) _) _⟩
  have hgb : ¬ W.heap.size = g := by have := S.lt; omega
  have hgx : ¬ W.heap.size + 1 = g := by have := S.lt; omega
  clear S
  unfold aIns
  dsimp only
  go_enter Try.func39, Try.ntmps39
  go_wp2_with fail
  generalize hW1 : ((W.alloc (.cells #[.pointer (some ⟨g, 0, none⟩)] 72)).alloc (.cells #[.int .i64 10, .int .i64 d, .int .i64 a, .int .i64 b, .int .i64 loc, .int .i64 len, .int .i64 kk, .int .i64 tt] 40)) = W1 at KB KX S1 HK ⊢
  clear hW1
  generalize W.heap.size + 1 = bx at KX hgx ⊢
  generalize W.heap.size = bb at KB hgb ⊢
  have hcr := blk_cell KB.out 0
  have x0 := blk_cell KX.out 0
  have x1 := blk_cell KX.out 1
  have x2 := blk_cell KX.out 2
  have x3 := blk_cell KX.out 3
  have x4 := blk_cell KX.out 4
  have x5 := blk_cell KX.out 5
  have x6 := blk_cell KX.out 6
  have x7 := blk_cell KX.out 7
  have hta := S1.out.ctemp a ha0 ha1
  have htb := S1.out.ctemp b hb0 hb1
  go_quiet (fail)
  go_wp2
  go_quiet (fail)
  go_wp2_with (go_at_call 49; refine (ask_swap (S1.out.drewN _) ⟨10, d, a, b, loc, len, kk, tt⟩ 5 loc rfl ha0 ha1 hd0 hd1 hl).mono ?_; rintro e w2 ⟨rfl, hs, hk⟩; have S2 := Aside0.mk hs; have HK2 := Aside0.mk hk; clear hs hk)
  go_ret2
  obtain ⟨Ab, v1, hs⟩ := S2.out
  exact ⟨rfl, ⟨_, _, _, hs⟩, kb_then HK.out (kb_then (keep_drewN (KeepBut.refl _ _ _) _) HK2.out)⟩
set_option maxHeartbeats 4000000 in
set_option maxRecDepth 100000 in
theorem do_7 {w W : World} {g : Nat} {T : List Int} {Aa : Option Addr} {ca : Nat} {ans : List Int} {vt : Value} {acts : List S47} (S : Rn w W g T Aa ca ans vt acts) (i d a b loc len kk tt : Int) (hi : 0 ≤ i) (hi' : i ≤ 1000) (hl : acts.length ≤ 1000)
    (hd0 : 0 ≤ d) (hd1 : d < 400) (ha0 : 0 ≤ a) (ha1 : a < 400) (hb0 : 0 ≤ b) (hb1 : b < 400) :
    Calls Try.prog 39 #[.pointer (some ⟨g, 0, none⟩), .int .i64 i, aIns ⟨7, d, a, b, loc, len, kk, tt⟩] W (DoPost w W g vt (i + 1) 0 T ans (acts ++ [⟨2, loc, 0, rd T a⟩])) := by
  have e1 : wrap64 (i + 1) = i + 1 := wrap_of (by omega) (by omega)
  have KB : Aside0 (((W.alloc (.cells #[.pointer (some ⟨g, 0, none⟩)] 72)).alloc (.cells #[.int .i64 7, .int .i64 d, .int .i64 a, .int .i64 b, .int .i64 loc, .int .i64 len, .int .i64 kk, .int .i64 tt] 40)).heap[W.heap.size]? = some (.cells #[.pointer (some ⟨g, 0, none⟩)] 72 (0, 0))) := ⟨blk_alloc (blk_new _ _) _⟩
  have KX : Aside0 (((W.alloc (.cells #[.pointer (some ⟨g, 0, none⟩)] 72)).alloc (.cells #[.int .i64 7, .int .i64 d, .int .i64 a, .int .i64 b, .int .i64 loc, .int .i64 len, .int .i64 kk, .int .i64 tt] 40)).heap[W.heap.size + 1]? = some (.cells #[.int .i64 7, .int .i64 d, .int .i64 a, .int .i64 b, .int .i64 loc, .int .i64 len, .int .i64 kk, .int .i64 tt] 40 (0, 0))) := ⟨by have h_ := blk_new (W.alloc (.cells #[.pointer (some ⟨g, 0, none⟩)] 72)) (.cells #[.int .i64 7, .int .i64 d, .int .i64 a, .int .i64 b, .int .i64 loc, .int .i64 len, .int .i64 kk, .int .i64 tt] 40); simpa using h_⟩
  have S1 := Aside0.mk ((S.alloc (.cells #[.pointer (some ⟨g, 0, none⟩)] 72)).alloc (.cells #[.int .i64 7, .int .i64 d, .int .i64 a, .int .i64 b, .int .i64 loc, .int .i64 len, .int .i64 kk, .int .i64 tt] 40))
  have HK : Aside0 (KeepBut W ((W.alloc (.cells #[.pointer (some ⟨g, 0, none⟩)] 72)).alloc (.cells #[.int .i64 7, .int .i64 d, .int .i64 a, .int .i64 b, .int .i64 loc, .int .i64 len, .int .i64 kk, .int .i64 tt] 40)) g none) := ⟨keep_alloc (keep_alloc (KeepBut.refl _ _ _) _) _⟩
  have hgb : ¬ W.heap.size = g := by have := S.lt; omega
  have hgx : ¬ W.heap.size + 1 = g := by have := S.lt; omega
  clear S
  unfold aIns
  dsimp only
  go_enter Try.func39, Try.ntmps39
  go_wp2_with fail
  generalize hW1 : ((W.alloc (.cells #[.pointer (some ⟨g, 0, none⟩)] 72)).alloc (.cells #[.int .i64 7, .int .i64 d, .int .i64 a, .int .i64 b, .int .i64 loc, .int .i64 len, .int .i64 kk, .int .i64 tt] 40)) = W1 at KB KX S1 HK ⊢
  clear hW1
  generalize W.heap.size + 1 = bx at KX hgx ⊢
  generalize W.heap.size = bb at KB hgb ⊢
  have hcr := blk_cell KB.out 0
  have x0 := blk_cell KX.out 0
  have x1 := blk_cell KX.out 1
  have x2 := blk_cell KX.out 2
  have x3 := blk_cell KX.out 3
  have x4 := blk_cell KX.out 4
  have x5 := blk_cell KX.out 5
  have x6 := blk_cell KX.out 6
  have x7 := blk_cell KX.out 7
  have hta := S1.out.ctemp a ha0 ha1
  have htb := S1.out.ctemp b hb0 hb1
  go_quiet (fail)
  go_wp2
  go_quiet (fail)
  go_wp2_with (go_at_call 47; refine (write_any (S1.out.drewN _) (blk_drewN KB.out _) 2 (loc) (rd T a) hl).mono ?_; rintro e w2 ⟨rfl, v1, hs, hk⟩; have S2 := Aside0.mk hs; have HK2 := Aside0.mk hk; clear hs hk)
  go_ret2
  exact ⟨rfl, ⟨_, _, _, S2.out⟩, kb_then HK.out (kb_then (keep_drewN (KeepBut.refl _ _ _) _) HK2.out)⟩
set_option maxHeartbeats 4000000 in
set_option maxRecDepth 100000 in
theorem do_14 {w W : World} {g : Nat} {T : List Int} {Aa : Option Addr} {ca : Nat} {ans : List Int} {vt : Value} {acts : List S47} (S : Rn w W g T Aa ca ans vt acts) (i d a b loc len kk tt : Int) (hi : 0 ≤ i) (hi' : i ≤ 1000) (hl : acts.length ≤ 1000)
    (hd0 : 0 ≤ d) (hd1 : d < 400) (ha0 : 0 ≤ a) (ha1 : a < 400) (hb0 : 0 ≤ b) (hb1 : b < 400) (hr0 : 0 ≤ rd T a) (hr1 : rd T a < len) :
    Calls Try.prog 39 #[.pointer (some ⟨g, 0, none⟩), .int .i64 i, aIns ⟨14, d, a, b, loc, len, kk, tt⟩] W (DoPost w W g vt (i + 1) 0 T ans (acts ++ [⟨2, wrap64 (loc + rd T a), 0, rd T b⟩])) := by
  have e1 : wrap64 (i + 1) = i + 1 := wrap_of (by omega) (by omega)
  have c1 : decide (rd T a < 0) = false := decide_eq_false (by omega)
  have c2 : decide (len ≤ rd T a) = false := decide_eq_false (by omega)
  have KB : Aside0 (((W.alloc (.cells #[.pointer (some ⟨g, 0, none⟩)] 72)).alloc (.cells #[.int .i64 14, .int .i64 d, .int .i64 a, .int .i64 b, .int .i64 loc, .int .i64 len, .int .i64 kk, .int .i64 tt] 40)).heap[W.heap.size]? = some (.cells #[.pointer (some ⟨g, 0, none⟩)] 72 (0, 0))) := ⟨blk_alloc (blk_new _ _) _⟩
  have KX : Aside0 (((W.alloc (.cells #[.pointer (some ⟨g, 0, none⟩)] 72)).alloc (.cells #[.int .i64 14, .int .i64 d, .int .i64 a, .int .i64 b, .int .i64 loc, .int .i64 len, .int .i64 kk, .int .i64 tt] 40)).heap[W.heap.size + 1]? = some (.cells #[.int .i64 14, .int .i64 d, .int .i64 a, .int .i64 b, .int .i64 loc, .int .i64 len, .int .i64 kk, .int .i64 tt] 40 (0, 0))) := ⟨by have h_ := blk_new (W.alloc (.cells #[.pointer (some ⟨g, 0, none⟩)] 72)) (.cells #[.int .i64 14, .int .i64 d, .int .i64 a, .int .i64 b, .int .i64 loc, .int .i64 len, .int .i64 kk, .int .i64 tt] 40); simpa using h_⟩
  have S1 := Aside0.mk ((S.alloc (.cells #[.pointer (some ⟨g, 0, none⟩)] 72)).alloc (.cells #[.int .i64 14, .int .i64 d, .int .i64 a, .int .i64 b, .int .i64 loc, .int .i64 len, .int .i64 kk, .int .i64 tt] 40))
  have HK : Aside0 (KeepBut W ((W.alloc (.cells #[.pointer (some ⟨g, 0, none⟩)] 72)).alloc (.cells #[.int .i64 14, .int .i64 d, .int .i64 a, .int .i64 b, .int .i64 loc, .int .i64 len, .int .i64 kk, .int .i64 tt] 40)) g none) := ⟨keep_alloc (keep_alloc (KeepBut.refl _ _ _) _) _⟩
  have hgb : ¬ W.heap.size = g := by have := S.lt; omega
  have hgx : ¬ W.heap.size + 1 = g := by have := S.lt; omega
  clear S
  unfold aIns
  dsimp only
  go_enter Try.func39, Try.ntmps39
  go_wp2_with fail
  generalize hW1 : ((W.alloc (.cells #[.pointer (some ⟨g, 0, none⟩)] 72)).alloc (.cells #[.int .i64 14, .int .i64 d, .int .i64 a, .int .i64 b, .int .i64 loc, .int .i64 len, .int .i64 kk, .int .i64 tt] 40)) = W1 at KB KX S1 HK ⊢
  clear hW1
  generalize W.heap.size + 1 = bx at KX hgx ⊢
  generalize W.heap.size = bb at KB hgb ⊢
  have hcr := blk_cell KB.out 0
  have x0 := blk_cell KX.out 0
  have x1 := blk_cell KX.out 1
  have x2 := blk_cell KX.out 2
  have x3 := blk_cell KX.out 3
  have x4 := blk_cell KX.out 4
  have x5 := blk_cell KX.out 5
  have x6 := blk_cell KX.out 6
  have x7 := blk_cell KX.out 7
  have hta := S1.out.ctemp a ha0 ha1
  have htb := S1.out.ctemp b hb0 hb1
  go_quiet (fail)
  go_wp2
  go_quiet (fail)
  go_wp2_with (go_at_call 47; refine (write_any (S1.out.drewN _) (blk_drewN KB.out _) 2 (wrap64 (loc + rd T a)) (rd T b) hl).mono ?_; rintro e w2 ⟨rfl, v1, hs, hk⟩; have S2 := Aside0.mk hs; have HK2 := Aside0.mk hk; clear hs hk)
  go_ret2
  exact ⟨rfl, ⟨_, _, _, S2.out⟩, kb_then HK.out (kb_then (keep_drewN (KeepBut.refl _ _ _) _) HK2.out)⟩
set_option maxHeartbeats 4000000 in
set_option maxRecDepth 100000 in
theorem do_13l {w W : World} {g : Nat} {T : List Int} {Aa : Option Addr} {ca : Nat} {ans : List Int} {vt : Value} {acts : List S47} (S : Rn w W g T Aa ca ans vt acts) (i d a b loc len kk tt : Int) (hi : 0 ≤ i) (hi' : i ≤ 1000) (hl : acts.length ≤ 1000)
    (hd0 : 0 ≤ d) (hd1 : d < 400) (ha0 : 0 ≤ a) (ha1 : a < 400) (hb0 : 0 ≤ b) (hb1 : b < 400) (hr : rd T a < 0) :
    Calls Try.prog 39 #[.pointer (some ⟨g, 0, none⟩), .int .i64 i, aIns ⟨13, d, a, b, loc, len, kk, tt⟩] W (DoPost w W g vt 0 3 T ans acts) := by
  have e1 : wrap64 (i + 1) = i + 1 := wrap_of (by omega) (by omega)
  have c1 : decide (rd T a < 0) = true := decide_eq_true hr
  clear hr
  have KB : Aside0 (((W.alloc (.cells #[.pointer (some ⟨g, 0, none⟩)] 72)).alloc (.cells #[.int .i64 13, .int .i64 d, .int .i64 a, .int .i64 b, .int .i64 loc, .int .i64 len, .int .i64 kk, .int .i64 tt] 40)).heap[W.heap.size]? = some (.cells #[.pointer (some ⟨g, 0, none⟩)] 72 (0, 0))) := ⟨blk_alloc (blk_new _ _) _⟩
  have KX : Aside0 (((W.alloc (.cells #[.pointer (some ⟨g, 0, none⟩)] 72)).alloc (.cells #[.int .i64 13, .int .i64 d, .int .i64 a, .int .i64 b, .int .i64 loc, .int .i64 len, .int .i64 kk, .int .i64 tt] 40)).heap[W.heap.size + 1]? = some (.cells #[.int .i64 13, .int .i64 d, .int .i64 a, .int .i64 b, .int .i64 loc, .int .i64 len, .int .i64 kk, .int .i64 tt] 40 (0, 0))) := ⟨by have h_ := blk_new (W.alloc (.cells #[.pointer (some ⟨g, 0, none⟩)] 72)) (.cells #[.int .i64 13, .int .i64 d, .int .i64 a, .int .i64 b, .int .i64 loc, .int .i64 len, .int .i64 kk, .int .i64 tt] 40); simpa using h_⟩
  have S1 := Aside0.mk ((S.alloc (.cells #[.pointer (some ⟨g, 0, none⟩)] 72)).alloc (.cells #[.int .i64 13, .int .i64 d, .int .i64 a, .int .i64 b, .int .i64 loc, .int .i64 len, .int .i64 kk, .int .i64 tt] 40))
  have HK : Aside0 (KeepBut W ((W.alloc (.cells #[.pointer (some ⟨g, 0, none⟩)] 72)).alloc (.cells #[.int .i64 13, .int .i64 d, .int .i64 a, .int .i64 b, .int .i64 loc, .int .i64 len, .int .i64 kk, .int .i64 tt] 40)) g none) := ⟨keep_alloc (keep_alloc (KeepBut.refl _ _ _) _) _⟩
  have hgb : ¬ W.heap.size = g := by have := S.lt; omega
  have hgx : ¬ W.heap.size + 1 = g := by have := S.lt; omega
  clear S
  unfold aIns
  dsimp only
  go_enter Try.func39, Try.ntmps39
  go_wp2_with fail
  generalize hW1 : ((W.alloc (.cells #[.pointer (some ⟨g, 0, none⟩)] 72)).alloc (.cells #[.int .i64 13, .int .i64 d, .int .i64 a, .int .i64 b, .int .i64 loc, .int .i64 len, .int .i64 kk, .int .i64 tt] 40)) = W1 at KB KX S1 HK ⊢
  clear hW1
  generalize W.heap.size + 1 = bx at KX hgx ⊢
  generalize W.heap.size = bb at KB hgb ⊢
  have hcr := blk_cell KB.out 0
  have x0 := blk_cell KX.out 0
  have x1 := blk_cell KX.out 1
  have x2 := blk_cell KX.out 2
  have x3 := blk_cell KX.out 3
  have x4 := blk_cell KX.out 4
  have x5 := blk_cell KX.out 5
  have x6 := blk_cell KX.out 6
  have x7 := blk_cell KX.out 7
  have hta := S1.out.ctemp a ha0 ha1
  have htb := S1.out.ctemp b hb0 hb1
  go_quiet (fail)
  go_wp2
  go_quiet (fail)
  go_wp2
  go_ret2
  exact ⟨rfl, ⟨_, _, _, S1.out.drewN _⟩, kb_none (kb_then HK.out (keep_drewN (KeepBut.refl _ _ _) _))⟩
set_option maxHeartbeats 4000000 in
set_option maxRecDepth 100000 in
theorem do_14h {w W : World} {g : Nat} {T : List Int} {Aa : Option Addr} {ca : Nat} {ans : List Int} {vt : Value} {acts : List S47} (S : Rn w W g T Aa ca ans vt acts) (i d a b loc len kk tt : Int) (hi : 0 ≤ i) (hi' : i ≤ 1000) (hl : acts.length ≤ 1000)
    (hd0 : 0 ≤ d) (hd1 : d < 400) (ha0 : 0 ≤ a) (ha1 : a < 400) (hb0 : 0 ≤ b) (hb1 : b < 400) (hr0 : 0 ≤ rd T a) (hr1 : len ≤ rd T a) :
    Calls Try.prog 39 #[.pointer (some ⟨g, 0, none⟩), .int .i64 i, aIns ⟨14, d, a, b, loc, len, kk, tt⟩] W (DoPost w W g vt 0 3 T ans acts) := by
  have e1 : wrap64 (i + 1) = i + 1 := wrap_of (by omega) (by omega)
  have c1 : decide (rd T a < 0) = false := decide_eq_false (by omega)
  have c2 : decide (len ≤ rd T a) = true := decide_eq_true hr1
  have KB : Aside0 (((W.alloc (.cells #[.pointer (some ⟨g, 0, none⟩)] 72)).alloc (.cells #[.int .i64 14, .int .i64 d, .int .i64 a, .int .i64 b, .int .i64 loc, .int .i64 len, .int .i64 kk, .int .i64 tt] 40)).heap[W.heap.size]? = some (.cells #[.pointer (some ⟨g, 0, none⟩)] 72 (0, 0))) := ⟨blk_alloc (blk_new _ _) _⟩
  have KX : Aside0 (((W.alloc (.cells #[.pointer (some ⟨g, 0, none⟩)] 72)).alloc (.cells #[.int .i64 14, .int .i64 d, .int .i64 a, .int .i64 b, .int .i64 loc, .int .i64 len, .int .i64 kk, .int .i64 tt] 40)).heap[W.heap.size + 1]? = some (.cells #[.int .i64 14, .int .i64 d, .int .i64 a, .int .i64 b, .int .i64 loc, .int .i64 len, .int .i64 kk, .int .i64 tt] 40 (0, 0))) := ⟨by have h_ := blk_new (W.alloc (.cells #[.pointer (some ⟨g, 0, none⟩)] 72)) (.cells #[.int .i64 14, .int .i64 d, .int .i64 a, .int .i64 b, .int .i64 loc, .int .i64 len, .int .i64 kk, .int .i64 tt] 40); simpa using h_⟩
  have S1 := Aside0.mk ((S.alloc (.cells #[.pointer (some ⟨g, 0, none⟩)] 72)).alloc (.cells #[.int .i64 14, .int .i64 d, .int .i64 a, .int .i64 b, .int .i64 loc, .int .i64 len, .int .i64 kk, .int .i64 tt] 40))
  have HK : Aside0 (KeepBut W ((W.alloc (.cells #[.pointer (some ⟨g, 0, none⟩)] 72)).alloc (.cells #[.int .i64 14, .int .i64 d, .int .i64 a, .int .i64 b, .int .i64 loc, .int .i64 len, .int .i64 kk, .int .i64 tt] 40)) g none) := ⟨keep_alloc (keep_alloc (KeepBut.refl _ _ _) _) _⟩
  have hgb : ¬ W.heap.size = g := by have := S.lt; omega
  have hgx : ¬ W.heap.size + 1 = g := by have := S.lt; omega
  clear S
  unfold aIns
  dsimp only
  go_enter Try.func39, Try.ntmps39
  go_wp2_with fail
  generalize hW1 : ((W.alloc (.cells #[.pointer (some ⟨g, 0, none⟩)] 72)).alloc (.cells #[.int .i64 14, .int .i64 d, .int .i64 a, .int .i64 b, .int .i64 loc, .int .i64 len, .int .i64 kk, .int .i64 tt] 40)) = W1 at KB KX S1 HK ⊢
  clear hW1
  generalize W.heap.size + 1 = bx at KX hgx ⊢
  generalize W.heap.size = bb at KB hgb ⊢
  have hcr := blk_cell KB.out 0
  have x0 := blk_cell KX.out 0
  have x1 := blk_cell KX.out 1
  have x2 := blk_cell KX.out 2
  have x3 := blk_cell KX.out 3
  have x4 := blk_cell KX.out 4
  have x5 := blk_cell KX.out 5
  have x6 := blk_cell KX.out 6
  have x7 := blk_cell KX.out 7
  have hta := S1.out.ctemp a ha0 ha1
  have htb := S1.out.ctemp b hb0 hb1
  go_quiet (fail)
  go_wp2
  go_quiet (fail)
  go_wp2
  go_ret2
  exact ⟨rfl, ⟨_, _, _, S1.out.drewN _⟩, kb_none (kb_then HK.out (keep_drewN (KeepBut.refl _ _ _) _))⟩
set_option maxHeartbeats 4000000 in
set_option maxRecDepth 100000 in
theorem do_17t {w W : World} {g : Nat} {T : List Int} {Aa : Option Addr} {ca : Nat} {ans : List Int} {vt : Value} {acts : List S47} (S : Rn w W g T Aa ca ans vt acts) (i d a b loc len kk tt : Int) (hi : 0 ≤ i) (hi' : i ≤ 1000) (hl : acts.length ≤ 1000)
    (hd0 : 0 ≤ d) (hd1 : d < 400) (ha0 : 0 ≤ a) (ha1 : a < 400) (hb0 : 0 ≤ b) (hb1 : b < 400) (hr : rd T a ≠ rd T b) :
    Calls Try.prog 39 #[.pointer (some ⟨g, 0, none⟩), .int .i64 i, aIns ⟨17, d, a, b, loc, len, kk, tt⟩] W (DoPost w W g vt tt 0 T ans acts) := by
  have e1 : wrap64 (i + 1) = i + 1 := wrap_of (by omega) (by omega)
  have c1 : (rd T a != rd T b) = true := by simpa using hr
  clear hr
  have KB : Aside0 (((W.alloc (.cells #[.pointer (some ⟨g, 0, none⟩)] 72)).alloc (.cells #[.int .i64 17, .int .i64 d, .int .i64 a, .int .i64 b, .int .i64 loc, .int .i64 len, .int .i64 kk, .int .i64 tt] 40)).heap[W.heap.size]? = some (.cells #[.pointer (some ⟨g, 0, none⟩)] 72 (0, 0))) := ⟨blk_alloc (blk_new _ _) _⟩
  have KX : Aside0 (((W.alloc (.cells #[.pointer (some ⟨g, 0, none⟩)] 72)).alloc (.cells #[.int .i64 17, .int .i64 d, .int .i64 a, .int .i64 b, .int .i64 loc, .int .i64 len, .int .i64 kk, .int .i64 tt] 40)).heap[W.heap.size + 1]? = some (.cells #[.int .i64 17, .int .i64 d, .int .i64 a, .int .i64 b, .int .i64 loc, .int .i64 len, .int .i64 kk, .int .i64 tt] 40 (0, 0))) := ⟨by have h_ := blk_new (W.alloc (.cells #[.pointer (some ⟨g, 0, none⟩)] 72)) (.cells #[.int .i64 17, .int .i64 d, .int .i64 a, .int .i64 b, .int .i64 loc, .int .i64 len, .int .i64 kk, .int .i64 tt] 40); simpa using h_⟩
  have S1 := Aside0.mk ((S.alloc (.cells #[.pointer (some ⟨g, 0, none⟩)] 72)).alloc (.cells #[.int .i64 17, .int .i64 d, .int .i64 a, .int .i64 b, .int .i64 loc, .int .i64 len, .int .i64 kk, .int .i64 tt] 40))
  have HK : Aside0 (KeepBut W ((W.alloc (.cells #[.pointer (some ⟨g, 0, none⟩)] 72)).alloc (.cells #[.int .i64 17, .int .i64 d, .int .i64 a, .int .i64 b, .int .i64 loc, .int .i64 len, .int .i64 kk, .int .i64 tt] 40)) g none) := ⟨keep_alloc (keep_alloc (KeepBut.refl _ _ _) _) _⟩
  have hgb : ¬ W.heap.size = g := by have := S.lt; omega
  have hgx : ¬ W.heap.size + 1 = g := by have := S.lt; omega
  clear S
  unfold aIns
  dsimp only
  go_enter Try.func39, Try.ntmps39
  go_wp2_with fail
  generalize hW1 : ((W.alloc (.cells #[.pointer (some ⟨g, 0, none⟩)] 72)).alloc (.cells #[.int .i64 17, .int .i64 d, .int .i64 a, .int .i64 b, .int .i64 loc, .int .i64 len, .int .i64 kk, .int .i64 tt] 40)) = W1 at KB KX S1 HK ⊢
  clear hW1
  generalize W.heap.size + 1 = bx at KX hgx ⊢
  generalize W.heap.size = bb at KB hgb ⊢
  have hcr := blk_cell KB.out 0
  have x0 := blk_cell KX.out 0
  have x1 := blk_cell KX.out 1
  have x2 := blk_cell KX.out 2
  have x3 := blk_cell KX.out 3
  have x4 := blk_cell KX.out 4
  have x5 := blk_cell KX.out 5
  have x6 := blk_cell KX.out 6
  have x7 := blk_cell KX.out 7
  have hta := S1.out.ctemp a ha0 ha1
  have htb := S1.out.ctemp b hb0 hb1
  go_quiet (fail)
  go_wp2
  go_quiet (fail)
  go_wp2
  go_ret2
  exact ⟨rfl, ⟨_, _, _, S1.out.drewN _⟩, kb_none (kb_then HK.out (keep_drewN (KeepBut.refl _ _ _) _))⟩
set_option maxHeartbeats 4000000 in
set_option maxRecDepth 100000 in
theorem do_12n {w W : World} {g : Nat} {T : List Int} {Aa : Option Addr} {ca : Nat} {vt : Value} {acts : List S47} (S : Rn w W g T Aa ca [] vt acts) (i d a b loc len kk tt : Int) (hi : 0 ≤ i) (hi' : i ≤ 1000) (hl : acts.length ≤ 1000)
    (hd0 : 0 ≤ d) (hd1 : d < 400) (ha0 : 0 ≤ a) (ha1 : a < 400) (hb0 : 0 ≤ b) (hb1 : b < 400) :
    Calls Try.prog 39 #[.pointer (some ⟨g, 0, none⟩), .int .i64 i, aIns ⟨12, d, a, b, loc, len, kk, tt⟩] W (DoPost w W g vt 0 4 T [] acts) := by
  have e1 : wrap64 (i + 1) = i + 1 := wrap_of (by omega) (by omega)
  have KB : Aside0 (((W.alloc (.cells #[.pointer (some ⟨g, 0, none⟩)] 72)).alloc (.cells #[.int .i64 12, .int .i64 d, .int .i64 a, .int .i64 b, .int .i64 loc, .int .i64 len, .int .i64 kk, .int .i64 tt] 40)).heap[W.heap.size]? = some (.cells #[.pointer (some ⟨g, 0, none⟩)] 72 (0, 0))) := ⟨blk_alloc (blk_new _ _) _⟩
  have KX : Aside0 (((W.alloc (.cells #[.pointer (some ⟨g, 0, none⟩)] 72)).alloc (.cells #[.int .i64 12, .int .i64 d, .int .i64 a, .int .i64 b, .int .i64 loc, .int .i64 len, .int .i64 kk, .int .i64 tt] 40)).heap[W.heap.size + 1]? = some (.cells #[.int .i64 12, .int .i64 d, .int .i64 a, .int .i64 b, .int .i64 loc, .int .i64 len, .int .i64 kk, .int .i64 tt] 40 (0, 0))) := ⟨by have h_ := blk_new (W.alloc (.cells #[.pointer (some ⟨g, 0, none⟩)] 72)) (.cells #[.int .i64 12, .int .i64 d, .int .i64 a, .int .i64 b, .int .i64 loc, .int .i64 len, .int .i64 kk, .int .i64 tt] 40); simpa using h_⟩
  have S1 := Aside0.mk ((S.alloc (.cells #[.pointer (some ⟨g, 0, none⟩)] 72)).alloc (.cells #[.int .i64 12, .int .i64 d, .int .i64 a, .int .i64 b, .int .i64 loc, .int .i64 len, .int .i64 kk, .int .i64 tt] 40))
  have HK : Aside0 (KeepBut W ((W.alloc (.cells #[.pointer (some ⟨g, 0, none⟩)] 72)).alloc (.cells #[.int .i64 12, .int .i64 d, .int .i64 a, .int .i64 b, .int .i64 loc, .int .i64 len, .int .i64 kk, .int .i64 tt] 40)) g none) := ⟨keep_alloc (keep_alloc (KeepBut.refl _ _ _) _) _⟩
  have hgb : ¬ W.heap.size = g := by have := S.lt; omega
  have hgx : ¬ W.heap.size + 1 = g := by have := S.lt; omega
  clear S
  unfold aIns
  dsimp only
  go_enter Try.func39, Try.ntmps39
  go_wp2_with fail
  generalize hW1 : ((W.alloc (.cells #[.pointer (some ⟨g, 0, none⟩)] 72)).alloc (.cells #[.int .i64 12, .int .i64 d, .int .i64 a, .int .i64 b, .int .i64 loc, .int .i64 len, .int .i64 kk, .int .i64 tt] 40)) = W1 at KB KX S1 HK ⊢
  clear hW1
  generalize W.heap.size + 1 = bx at KX hgx ⊢
  generalize W.heap.size = bb at KB hgb ⊢
  have hcr := blk_cell KB.out 0
  have x0 := blk_cell KX.out 0
  have x1 := blk_cell KX.out 1
  have x2 := blk_cell KX.out 2
  have x3 := blk_cell KX.out 3
  have x4 := blk_cell KX.out 4
  have x5 := blk_cell KX.out 5
  have x6 := blk_cell KX.out 6
  have x7 := blk_cell KX.out 7
  have hta := S1.out.ctemp a ha0 ha1
  have htb := S1.out.ctemp b hb0 hb1
  go_quiet (fail)
  go_wp2
  go_quiet (fail)
  go_wp2_with (go_at_call 48; refine (cases_nil (S1.out.drewN _) i ⟨12, d, a, b, loc, len, kk, tt⟩ (rd T a) (rd T b)).mono ?_; rintro e w2 ⟨rfl, hs, hk⟩; have S2 := Aside0.mk hs; have HK2 := Aside0.mk hk; clear hs hk)
  go_ret2
  exact ⟨rfl, ⟨_, _, _, S2.out⟩, kb_none (kb_then HK.out (kb_then (keep_drewN (KeepBut.refl _ _ _) _) HK2.out))⟩
end Go.Proofs.Ytdmbnlpcfgphpaa.Q
