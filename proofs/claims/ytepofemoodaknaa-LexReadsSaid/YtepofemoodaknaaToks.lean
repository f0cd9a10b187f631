/- All words of a text: the contract of lex.Tokens. -/
import Derived.Test.YtepofemoodaknaaTok
import Derived.Test.YtepofemoodaknaaRec
namespace Go.Proofs.Ytepofemoodaknaa.Q
open Go.RowKit Go.Proofs.YtepofemoodaknaaW.PrintWords Go.Proofs.YtepofemoodaknaaW.PrintLast Go.Proofs.YtepofemoodaknaaW.PrintMore Go.Proofs.Ytepofemoodaknaa
/-- The words from a place on, behind those that were found. -/
def toksA (s : ByteArray) : Nat → Nat → List S32 → List S32 × Int × Int
  | 0, _, out => (out, 0, 0)
  | f + 1, i, out => if i < s.size then (match Lex.tok (s.data.toList.drop i) with
    | none => ([], 10, (i : Int))
    | some (k, n, v) => if out.length = 1500 then ([], 15, (i : Int)) else toksA s f (i + n + Lex.blankLen false (s.data.toList.drop (i + n))) (out ++ [⟨k, (s.extract i s.size).extract 0 n, v, (i : Int)⟩])) else (out, 0, 0)
def toksAll (s : ByteArray) : List S32 × Int × Int := if 8192 < s.size then ([], 15, 0) else toksA s (s.size + 1) (Lex.blankLen false s.data.toList) []
def ToksEnd (R : List S32 × Int × Int) (w : World) (e : Ending) (w' : World) : Prop := ∃ v : Value, e = .returned (.tuple #[v, .int .i64 R.2.1, .int .i64 R.2.2]) ∧ Kd.R k32 32 w' w.heap.size (fun _ => True) v R.1 ∧ Below w.heap.size w w'
/-- Behind the door: a fault was caught; the results are none, the error, its place. -/
theorem after_bad {R : List S32 × Int × Int} {w W : World} {e0 at_ : Int} (hR : R = ([], e0, at_)) (hB : Below w.heap.size w W) : ToksEnd R w (.returned (.tuple #[.slice none 0 0, .int .i64 e0, .int .i64 at_]))
    (((((W.setCell ⟨w.heap.size, 0, none⟩ (.slice none 0 0)).setCell ⟨w.heap.size + 1, 0, none⟩ (.int .i64 e0)).setCell ⟨w.heap.size + 1 + 1, 0, none⟩ (.int .i64 at_)).alloc (.cells #[.int .i64 e0, .int .i64 at_] 37)).drew) := by
  subst hR
  refine ⟨_, rfl, Kd.R_nil _ _ _ _ _, ?_⟩
  exact below_drew1 (below_alloc (below_set (below_set (below_set hB (Nat.le_refl _)) (by omega)) (by omega)) _)
/-- The door, where a fault goes through it. -/
theorem door_bad {R : List S32 × Int × Int} {w W : World} {e0 at_ : Int} {v x1 x2 : Value} {tmps : Array Value} (hR : R = ([], e0, at_)) (hB : Below w.heap.size w W)
    (k0 : W.heap[w.heap.size]? = some (.cells #[v] 23 (0, 0))) (k1 : W.heap[w.heap.size + 1]? = some (.cells #[x1] 24 (0, 0))) (k2 : W.heap[w.heap.size + 1 + 1]? = some (.cells #[x2] 3 (0, 0)))
    (t2 : tmps[2]?.getD undef = .pointer (some ⟨w.heap.size, 0, none⟩)) (t3 : tmps[3]?.getD undef = .pointer (some ⟨w.heap.size + 1, 0, none⟩)) (t4 : tmps[4]?.getD undef = .pointer (some ⟨w.heap.size + 1 + 1, 0, none⟩)) :
    bodyPostD Try.prog Try.f9 (ToksEnd R w) (Exit.panic [{ v := .iface 37 (.agg #[.int .i64 e0, .int .i64 at_]), recovered := false }])
      { tmps := tmps, defers := [{ target := Target.fn (Fn.func 14) #[.pointer (some ⟨w.heap.size, 0, none⟩), .pointer (some ⟨w.heap.size + 1, 0, none⟩), .pointer (some ⟨w.heap.size + 1 + 1, 0, none⟩)], args := #[] }] } W := by
  refine leaves_cons (f := 14) (args := #[.pointer (some ⟨w.heap.size, 0, none⟩), .pointer (some ⟨w.heap.size + 1, 0, none⟩), .pointer (some ⟨w.heap.size + 1 + 1, 0, none⟩)]) (by simp) (by simp [go_sem]) ?_
  refine (catch_panicking w.heap.size (w.heap.size + 1) (w.heap.size + 1 + 1) e0 at_ v x1 x2 W (blk_cell k0 0) (blk_cell k1 0) (blk_cell k2 0) (blk_frozen k0 0) (blk_frozen k1 0) (blk_frozen k2 0) (blk_lt k0) (blk_lt k1) (blk_lt k2) (by omega) (by omega) (by omega)).mono ?_
  rintro e u' w'' ⟨rfl, rfl, rfl⟩
  have HA := after_bad (e0 := e0) (at_ := at_) hR hB
  have c0 := blk_cell k0 0
  have c1 := blk_cell k1 0
  have c2 := blk_cell k2 0
  have l0 := blk_lt k0
  have l1 := blk_lt k1
  have l2 := blk_lt k2
  have n1 : ¬ w.heap.size + 1 = w.heap.size := by omega
  have n2 : ¬ w.heap.size + 1 + 1 = w.heap.size := by omega
  have n3 : ¬ w.heap.size + 1 + 1 = w.heap.size + 1 := by omega
  have d0 : (((((W.setCell ⟨w.heap.size, 0, none⟩ (.slice none 0 0)).setCell ⟨w.heap.size + 1, 0, none⟩ (.int .i64 e0)).setCell ⟨w.heap.size + 1 + 1, 0, none⟩ (.int .i64 at_)).alloc (.cells #[.int .i64 e0, .int .i64 at_] 37)).drew).cell? ⟨w.heap.size, 0, none⟩ = some (.slice none 0 0) :=
    blk_cell (blk_drew (blk_alloc (blk_far (blk_far (blk_put k0 0 _ rfl) (by dsimp only; omega) _) (by dsimp only; omega) _) _)) 0
  have d1 : (((((W.setCell ⟨w.heap.size, 0, none⟩ (.slice none 0 0)).setCell ⟨w.heap.size + 1, 0, none⟩ (.int .i64 e0)).setCell ⟨w.heap.size + 1 + 1, 0, none⟩ (.int .i64 at_)).alloc (.cells #[.int .i64 e0, .int .i64 at_] 37)).drew).cell? ⟨w.heap.size + 1, 0, none⟩ = some (.int .i64 e0) :=
    blk_cell (blk_drew (blk_alloc (blk_far (blk_put (blk_far k1 (by dsimp only; omega) _) 0 _ rfl) (by dsimp only; omega) _) _)) 0
  have d2 : (((((W.setCell ⟨w.heap.size, 0, none⟩ (.slice none 0 0)).setCell ⟨w.heap.size + 1, 0, none⟩ (.int .i64 e0)).setCell ⟨w.heap.size + 1 + 1, 0, none⟩ (.int .i64 at_)).alloc (.cells #[.int .i64 e0, .int .i64 at_] 37)).drew).cell? ⟨w.heap.size + 1 + 1, 0, none⟩ = some (.int .i64 at_) :=
    blk_cell (blk_drew (blk_alloc (blk_put (blk_far (blk_far k2 (by dsimp only; omega) _) (by dsimp only; omega) _) 0 _ rfl) _)) 0
  generalize (((((W.setCell ⟨w.heap.size, 0, none⟩ (.slice none 0 0)).setCell ⟨w.heap.size + 1, 0, none⟩ (.int .i64 e0)).setCell ⟨w.heap.size + 1 + 1, 0, none⟩ (.int .i64 at_)).alloc (.cells #[.int .i64 e0, .int .i64 at_] 37)).drew) = W2 at HA d0 d1 d2 ⊢
  simp [Leaves, settle, results, Try.results9, go_sem, t2, t3, t4, d0, d1, d2]
  exact HA
theorem door_ok {R : List S32 × Int × Int} {w W : World} {v : Value} {out : List S32} {tmps : Array Value} (hR : R = (out, 0, 0)) (hB : Below w.heap.size w W)
    (k0 : W.heap[w.heap.size]? = some (.cells #[v] 23 (0, 0))) (k1 : W.heap[w.heap.size + 1]? = some (.cells #[.int .i64 0] 24 (0, 0))) (k2 : W.heap[w.heap.size + 1 + 1]? = some (.cells #[.int .i64 0] 3 (0, 0))) (HO : Kd.R k32 32 W w.heap.size (fun _ => True) v out)
    (t2 : tmps[2]?.getD undef = .pointer (some ⟨w.heap.size, 0, none⟩)) (t3 : tmps[3]?.getD undef = .pointer (some ⟨w.heap.size + 1, 0, none⟩)) (t4 : tmps[4]?.getD undef = .pointer (some ⟨w.heap.size + 1 + 1, 0, none⟩)) :
    bodyPostD Try.prog Try.f9 (ToksEnd R w) Exit.ret
      { tmps := tmps, defers := [{ target := Target.fn (Fn.func 14) #[.pointer (some ⟨w.heap.size, 0, none⟩), .pointer (some ⟨w.heap.size + 1, 0, none⟩), .pointer (some ⟨w.heap.size + 1 + 1, 0, none⟩)], args := #[] }] } W := by
  refine leaves_cons (f := 14) (args := #[.pointer (some ⟨w.heap.size, 0, none⟩), .pointer (some ⟨w.heap.size + 1, 0, none⟩), .pointer (some ⟨w.heap.size + 1 + 1, 0, none⟩)]) (by simp) (by simp [go_sem]) ?_
  refine (catch_idle _ _ _ W).mono ?_
  rintro e u' w'' ⟨rfl, rfl, rfl⟩
  have HA : ToksEnd R w (.returned (.tuple #[v, .int .i64 0, .int .i64 0])) w'' := by subst hR; exact ⟨v, rfl, HO, hB⟩
  have d0 : w''.cell? ⟨w.heap.size, 0, none⟩ = some v := blk_cell k0 0
  have d1 : w''.cell? ⟨w.heap.size + 1, 0, none⟩ = some (.int .i64 0) := blk_cell k1 0
  have d2 : w''.cell? ⟨w.heap.size + 1 + 1, 0, none⟩ = some (.int .i64 0) := blk_cell k2 0
  simp [Leaves, settle, results, Try.results9, go_sem, t2, t3, t4, d0, d1, d2]
  exact HA
theorem token_bad (s : ByteArray) (n : Nat) (w : World) (hs : s.size ≤ 140737488355328) (hn : n < s.size) (h : Lex.tok (s.data.toList.drop n) = none) :
    Calls Try.prog 16 #[.string (s.extract n s.size), .int .i64 (n : Int)] w fun e w' => e = .panicked [{ v := .iface 37 (.agg #[.int .i64 10, .int .i64 (n : Int)]), recovered := false }] ∧ Below w.heap.size w w' := by
  have hz : (s.extract n s.size).size = s.size - n := by simp
  refine (token_any _ _ w (by omega) (by omega)).mono ?_
  rintro e w' ⟨h1, h2⟩
  rw [Lex.extract_drop, h] at h1
  exact ⟨h1, h2⟩
theorem token_ok (s : ByteArray) (n : Nat) (w : World) (hs : s.size ≤ 140737488355328) (hn : n < s.size) {k v : Int} {m : Nat} (h : Lex.tok (s.data.toList.drop n) = some (k, m, v)) :
    Calls Try.prog 16 #[.string (s.extract n s.size), .int .i64 (n : Int)] w fun e w' => e = .returned (.tuple #[.agg #[.int .i64 k, .string ((s.extract n s.size).extract 0 m), .int .i64 v, .int .i64 (n : Int)], .int .i64 (m : Int)]) ∧ Below w.heap.size w w' := by
  have hz : (s.extract n s.size).size = s.size - n := by simp
  refine (token_any _ _ w (by omega) (by omega)).mono ?_
  rintro e w' ⟨h1, h2⟩
  rw [Lex.extract_drop, h] at h1
  exact ⟨h1, h2⟩
theorem info32' : (Try.prog.info? 32).map (fun i => (i.zero, i.size, i.bytes)) = some (some (.agg #[(.int .i64 0), (.string ⟨#[]⟩), (.int .i64 0), (.int .i64 0)]), 4, 40) := by kernel_rfl
theorem app_blk {wr w1 w2 : World} {o : Obj} {g t base : Nat} {cs : Array Value} {v : Value} {out : List S32} (K : wr.heap[g]? = some (.cells cs t (0, 0))) (ht : 32 ≠ t) (hb : Below wr.heap.size wr w1)
    (HO : Kd.R k32 32 wr base (fun _ => True) v out) (hg : (w1.alloc o).grownBy w2 v.ownBlock) : w2.heap[g]? = some (.cells cs t (0, 0)) :=
  blk_grown (blk_alloc (blk_below K hb) o) hg (Kd.R_ne (Kd.R_alloc (Kd.R_below HO hb) o) (blk_alloc (blk_below K hb) o) ht)
theorem blank_at (s : ByteArray) (j : Nat) (w : World) (hs : s.size ≤ 140737488355328) : Calls Try.prog 15 #[.string (s.extract j s.size)] w fun e w' => e = .returned (.int .i64 (Lex.blankLen false (s.data.toList.drop j) : Int)) ∧ Drawn0 w w' := by
  have hz : (s.extract j s.size).size ≤ s.size := by simp
  have := blank_any (s.extract j s.size) w (by omega)
  rw [Lex.extract_drop] at this
  exact this
set_option maxHeartbeats 4000000 in
set_option maxRecDepth 100000 in
theorem tokens_any (s : ByteArray) (w : World) (hs : s.size ≤ 140737488355328) : Calls Try.prog 9 #[.string s] w (ToksEnd (toksAll s) w) := by
  have hmf : ∀ (fn : Fn) (first cap : Array Value) (w : World), (Instr.makeFunc fn first cap).run Try.prog w = .ok (.func fn first cap) w := fun _ _ _ _ => rfl
  have hu32 := Try.underlying32
  by_cases h8 : 8192 < s.size
  · have HR := Lib.hid (show toksAll s = ([], 15, 0) by unfold toksAll; rw [if_pos h8])
    have c8 : decide (8192 < s.size) = true := decide_eq_true h8
    have c8' : decide (8192 < (s.size : Int)) = true := decide_eq_true (by omega)
    go_enter_defers Try.func9, Try.ntmps9
    go_wp2
    exact door_bad (v := .slice none 0 0) (x1 := .int .i64 0) (x2 := .int .i64 0) HR.out (below_alloc (below_alloc (below_alloc (Below.refl _ _) _) _) _) (blk_alloc (blk_alloc (heap_alloc_new _ _) _) _) (by simpa using blk_alloc (heap_alloc_new (w.alloc (.cells #[.slice none 0 0] 23)) (.cells #[.int .i64 0] 24)) _) (by simpa using heap_alloc_new ((w.alloc (.cells #[.slice none 0 0] 23)).alloc (.cells #[.int .i64 0] 24)) (.cells #[.int .i64 0] 3)) rfl rfl rfl
  · have HR := Lib.hid (show toksAll s = toksA s (s.size + 1) (Lex.blankLen false s.data.toList) [] by unfold toksAll; rw [if_neg h8])
    have c8 : decide (8192 < s.size) = false := decide_eq_false h8
    have c8' : decide (8192 < (s.size : Int)) = false := decide_eq_false (by omega)
    have hbl := Lex.blankLen_le false s.data.toList
    rw [Lex.toList_length] at hbl
    go_enter_defers Try.func9, Try.ntmps9
    go_wp2_with (go_at_call 15; refine (blank_any _ _ hs).mono ?_; rintro e w' ⟨rfl, ⟨nd, rfl⟩⟩)
    go_loopw [5] (fun i w' => ∃ (n f : Nat) (out : List S32) (v : Value), i = .int .i64 (n : Int) ∧ n ≤ s.size ∧ Aside0 (s.size < f + n) ∧ Aside0 (toksAll s = toksA s f n out) ∧ Aside0 (out.length ≤ 1500) ∧ Aside0 (Below w.heap.size w w') ∧ Aside0 (w'.heap[w.heap.size]? = some (.cells #[v] 23 (0, 0))) ∧ Aside0 (w'.heap[w.heap.size + 1]? = some (.cells #[.int .i64 0] 24 (0, 0))) ∧ Aside0 (w'.heap[w.heap.size + 1 + 1]? = some (.cells #[.int .i64 0] 3 (0, 0))) ∧ Aside0 (Kd.R k32 32 w' w.heap.size (fun _ => True) v out)) (fun i _ => s.size - (intOf i).toNat)
    case atStart =>
      exact ⟨Lex.blankLen false s.data.toList, s.size + 1, [], .slice none 0 0, rfl, hbl, ⟨by omega⟩, ⟨HR.out⟩, ⟨by simp⟩, ⟨by repeat (first | exact Below.refl _ _ | apply below_alloc | apply pw_below_drewN | apply below_drew1)⟩,
        ⟨blk_drewN (blk_alloc (blk_alloc (heap_alloc_new _ _) _) _) _⟩, ⟨blk_drewN (by simpa using blk_alloc (heap_alloc_new (w.alloc (.cells #[.slice none 0 0] 23)) (.cells #[.int .i64 0] 24)) _) _⟩, ⟨blk_drewN (by simpa using heap_alloc_new ((w.alloc (.cells #[.slice none 0 0] 23)).alloc (.cells #[.int .i64 0] 24)) (.cells #[.int .i64 0] 3)) _⟩, ⟨Kd.R_nil _ _ _ _ _⟩⟩
    case round =>
      obtain ⟨n, f, out, v, rfl, hn, HF, HQ, HL, HB, K0, K1, K2, HO⟩ := hrel
      obtain ⟨A, c, rfl⟩ := Kd.R_slice HO.out
      have hc0 : wr.cell? ⟨w.heap.size, 0, none⟩ = some (.slice A out.length c) := blk_cell K0.out 0
      have hc1 : wr.cell? ⟨w.heap.size + 1, 0, none⟩ = some (.int .i64 0) := blk_cell K1.out 0
      have hc2 : wr.cell? ⟨w.heap.size + 1 + 1, 0, none⟩ = some (.int .i64 0) := blk_cell K2.out 0
      have hf0 := blk_frozen K0.out 0
      have hf1 := blk_frozen K1.out 0
      have hf2 := blk_frozen K2.out 0
      have n1 : ¬ w.heap.size + 1 = w.heap.size := by omega
      have n2 : ¬ w.heap.size + 1 + 1 = w.heap.size := by omega
      have n3 : ¬ w.heap.size + 1 + 1 = w.heap.size + 1 := by omega
      have n1' : ¬ w.heap.size = w.heap.size + 1 := by omega
      have n2' : ¬ w.heap.size = w.heap.size + 1 + 1 := by omega
      have n3' : ¬ w.heap.size + 1 = w.heap.size + 1 + 1 := by omega
      by_cases hlt : n < s.size
      · clear n1 n2 n3 n1' n2' n3' hc1 hc2 hf1 hf2
        obtain ⟨f, rfl⟩ : ∃ f', f = f' + 1 := ⟨f - 1, by have := HF.out; omega⟩
        rcases ht : Lex.tok (s.data.toList.drop n) with _ | ⟨k, m, vv⟩
        · have HT := Lib.hid ht
          clear ht
          go_wp2_with (go_at_call 16; refine (token_bad s n _ hs hlt HT.out).mono ?_; rintro e w1 ⟨rfl, hb⟩)
          exact door_bad (v := .slice A out.length c) (x1 := .int .i64 0) (x2 := .int .i64 0) (by rw [HQ.out]; simp only [toksA]; rw [if_pos hlt, HT.out]) (below_step HB.out hb) (blk_below K0.out hb) (blk_below K1.out hb) (blk_below K2.out hb) rfl rfl rfl
        · have HT := Lib.hid ht
          clear ht
          have hm := Lex.tok_len HT.out
          rw [List.length_drop, Lex.toList_length] at hm
          by_cases h15 : out.length = 1500
          · have c15 : ((out.length : Int) == 1500) = true := by rw [h15]; rfl
            have H15 := Lib.hid h15
            clear h15
            go_wp2_with (go_at_call 16; refine (token_ok s n _ hs hlt HT.out).mono ?_; rintro e w1 ⟨rfl, hb⟩; have hd0 : w1.cell? ⟨w.heap.size, 0, none⟩ = some (.slice A out.length c) := blk_cell (blk_below K0.out hb) 0; have hl0 : w.heap.size < w1.heap.size := blk_lt (blk_below K0.out hb); have HBB := Aside0.mk hb; clear hb)
            exact door_bad (v := .slice A out.length c) (x1 := .int .i64 0) (x2 := .int .i64 0) (by rw [HQ.out]; simp only [toksA]; rw [if_pos hlt, HT.out]; simp only [if_pos H15.out]) (by repeat (first | exact below_step HB.out HBB.out | apply below_alloc | apply pw_below_drewN | apply below_drew1)) (blk_alloc (blk_below K0.out HBB.out) _) (blk_alloc (blk_below K1.out HBB.out) _) (blk_alloc (blk_below K2.out HBB.out) _) rfl rfl rfl
          · have c15 : ((out.length : Int) == 1500) = false := beq_eq_false_iff_ne.2 (by omega)
            have H15 := Lib.hid h15
            clear h15
            have hnm : n + m ≤ s.size := by omega
            have hbl2 := Lex.blankLen_le false (s.data.toList.drop (n + m))
            rw [List.length_drop, Lex.toList_length] at hbl2
            go_wp2_with (first | (go_at_call 16; refine (token_ok s n _ hs hlt HT.out).mono ?_; rintro e w1 ⟨rfl, hb⟩; have hd0 : w1.cell? ⟨w.heap.size, 0, none⟩ = some (.slice A out.length c) := blk_cell (blk_below K0.out hb) 0; have hl0 : w.heap.size < w1.heap.size := blk_lt (blk_below K0.out hb); have HBB := Aside0.mk hb; clear hb) | ((with_reducible refine gate_builtin (b := .append) (xs := #[.tmp 40, .tmp 42]) rfl ?_); at_builtin; refine Kd.R_append k32 (w0 := w) w.heap.size rfl (.tmp 40) (.tmp 42) 23 32 (.agg #[(.int .i64 0), (.string ⟨#[]⟩), (.int .i64 0), (.int .i64 0)]) 40 rfl Try.underlying23 info32' rfl (by decide) (by decide) (.slice A out.length c) out (⟨k, (s.extract n s.size).extract 0 m, vv, (n : Int)⟩ : S32) [.int .i64 k, .string ((s.extract n s.size).extract 0 m), .int .i64 vv, .int .i64 (n : Int)] (fun _ => True) (fun _ => False) rfl (by first | (go_simp; done) | (go_simp; rfl)) ?aP (fun _ hk => hk.elim) ?aF ?aO ?aB ?aS ?aL ?_; (case aP => exact k32_mkM _ _ _ (⟨k, (s.extract n s.size).extract 0 m, vv, (n : Int)⟩ : S32)); (case aF => exact fun _ _ => trivial); (case aO => exact Kd.R_alloc (Kd.R_below HO.out HBB.out) _); (case aB => exact below_alloc (below_step HB.out HBB.out) _); (case aS => exact (below_alloc (below_step HB.out HBB.out) _).size); (case aL => have := HL.out; omega); intro v1 w2 ho hb2 hg hat; obtain ⟨A1, c1, rfl⟩ := Kd.R_slice ho; have K0' := Aside0.mk (app_blk K0.out (by decide) HBB.out HO.out hg); have K1' := Aside0.mk (app_blk K1.out (by decide) HBB.out HO.out hg); have K2' := Aside0.mk (app_blk K2.out (by decide) HBB.out HO.out hg); have hB2 := Aside0.mk hb2; have hO2 := Aside0.mk ho; have he0 : w2.cell? ⟨w.heap.size, 0, none⟩ = some (.slice A out.length c) := blk_cell K0'.out 0; have hg0 : w2.frozen? ⟨w.heap.size, 0, none⟩ = false := blk_frozen K0'.out 0; clear ho hb2 hg hat) | (go_at_call 15; refine (blank_at s (n + m) _ hs).mono ?_; rintro e w' ⟨rfl, ⟨nd2, rfl⟩⟩))
            go_roundw
            case rel =>
              have hQ2 : toksAll s = toksA s f (n + m + Lex.blankLen false (s.data.toList.drop (n + m))) (out ++ [⟨k, (s.extract n s.size).extract 0 m, vv, (n : Int)⟩]) := by
                rw [HQ.out]
                simp only [toksA]
                rw [if_pos hlt, HT.out]
                simp only [if_neg H15.out]
              have hF2 := HF.out
              have hL2 := HL.out
              have h15 := H15.out
              refine ⟨n + m + Lex.blankLen false (s.data.toList.drop (n + m)), f, out ++ [⟨k, (s.extract n s.size).extract 0 m, vv, (n : Int)⟩], .slice A1 (out.length + 1) c1, ?_, by omega, ⟨by omega⟩, ⟨hQ2⟩, ⟨by simp; omega⟩, ⟨?_⟩, ⟨?_⟩, ⟨?_⟩, ⟨?_⟩, ⟨?_⟩⟩
              · go_num
              · exact pw_below_drewN (below_set hB2.out (Nat.le_refl _)) _
              · exact blk_drewN (blk_put K0'.out 0 _ rfl) _
              · exact blk_drewN (blk_far K1'.out (by dsimp only; omega) _) _
              · exact blk_drewN (blk_far K2'.out (by dsimp only; omega) _) _
              · have := Kd.R_set hO2.out K0'.out (by decide) 0 (Value.slice A1 (out ++ [(⟨k, (s.extract n s.size).extract 0 m, vv, (n : Int)⟩ : S32)]).length c1)
                rw [List.length_append] at this
                exact Kd.R_drewN this _
            case measure => simp [intOf]; omega
      · go_wp2
        refine door_ok (v := .slice A out.length c) (out := out) ?_ ?_ ?_ ?_ ?_ ?_ rfl rfl rfl
        · rw [HQ.out]
          match f with
          | 0 => simp only [toksA]
          | f + 1 => simp only [toksA]; rw [if_neg hlt]
        · exact below_set (below_set (below_set HB.out (Nat.le_refl _)) (by omega)) (by omega)
        · exact blk_far (blk_far (blk_put K0.out 0 _ rfl) (by dsimp only; omega) _) (by dsimp only; omega) _
        · exact blk_far (blk_put (blk_far K1.out (by dsimp only; omega) _) 0 _ rfl) (by dsimp only; omega) _
        · exact blk_put (blk_far (blk_far K2.out (by dsimp only; omega) _) (by dsimp only; omega) _) 0 _ rfl
        · exact Kd.R_set (Kd.R_set (Kd.R_set HO.out K0.out (by decide) 0 _) (blk_far K1.out (by dsimp only; omega) _) (by decide) 0 _) (blk_far (blk_far K2.out (by dsimp only; omega) _) (by dsimp only; omega) _) (by decide) 0 _
end Go.Proofs.Ytepofemoodaknaa.Q
