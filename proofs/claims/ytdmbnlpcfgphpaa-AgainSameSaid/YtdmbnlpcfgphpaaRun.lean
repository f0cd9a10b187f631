/- Several of my texts in one: YtdmbnlpcfgphpaaRn, YtdmbnlpcfgphpaaAns, YtdmbnlpcfgphpaaWri, YtdmbnlpcfgphpaaCas, YtdmbnlpcfgphpaaAsk, YtdmbnlpcfgphpaaDoP, YtdmbnlpcfgphpaaDo1, YtdmbnlpcfgphpaaDo2, YtdmbnlpcfgphpaaDo3, YtdmbnlpcfgphpaaStp, YtdmbnlpcfgphpaaRun. -/
import Derived.Test.YtdmbnlpcfgphpaaAin
import Derived.Test.YtdmbnlpcfgphpaaTree
import Derived.Lib.Hide
import Derived.Deep.RegionLaw
import Derived.StillTailTactics
import Derived.Test.YtdmbnlpcfgphpaaPst
import Derived.Test.YtdmbnlpcfgphpaaRight
namespace Go.Proofs.Ytdmbnlpcfgphpaa.Q
open Go.RowKit Go.Proofs.YtdmbnlpcfgphpaaW.PrintWords Go.Proofs.YtdmbnlpcfgphpaaW.PrintLast Go.Proofs.YtdmbnlpcfgphpaaW.PrintMore
set_option linter.unusedVariables false
set_option linter.unusedSimpArgs false
def rcells (T : List Int) (va vt : Value) : Array Value := ((T.map (Value.int .i64)) ++ [va, vt]).toArray
theorem rcells_size (T : List Int) (va vt : Value) (h : T.length = 400) : (rcells T va vt).size = 402 := by simp [rcells, h]
theorem rcells_temp (T : List Int) (va vt : Value) (h : T.length = 400) (i : Int) (h0 : 0 ≤ i) (h1 : i < 400) : (rcells T va vt)[i.toNat]? = some (.int .i64 (rd T i)) := by
  have : i.toNat < T.length := by omega
  simp [rcells, rd, List.getD, List.getElem?_append, this]
theorem rcells_ans (T : List Int) (va vt : Value) (h : T.length = 400) : (rcells T va vt)[400]? = some va := by
  simp [rcells, List.getElem?_append, h]
theorem rcells_acts (T : List Int) (va vt : Value) (h : T.length = 400) : (rcells T va vt)[401]? = some vt := by
  simp [rcells, List.getElem?_append, h]
theorem rcells_set_temp (T : List Int) (va vt : Value) (h : T.length = 400) (i : Nat) (h1 : i < 400) (n : Int) : (rcells T va vt).setIfInBounds i (.int .i64 n) = rcells (T.set i n) va vt := by
  simp [rcells, List.set_append, h, h1]
theorem rcells_set_ans (T : List Int) (va vt u : Value) (h : T.length = 400) : (rcells T va vt).setIfInBounds 400 u = rcells T u vt := by
  simp [rcells, List.set_append, h]
theorem rcells_set_acts (T : List Int) (va vt u : Value) (h : T.length = 400) : (rcells T va vt).setIfInBounds 401 u = rcells T va u := by
  simp [rcells, List.set_append, h]
/-- Block g is a runner: temps T, answers that are left, acts that are done; made since w. -/
structure Rn (w W : World) (g : Nat) (T : List Int) (Aa : Option Addr) (ca : Nat) (ans : List Int) (vt : Value) (acts : List S47) : Prop where
  HB : Below w.heap.size w W
  blk : W.heap[g]? = some (.cells (rcells T (.slice Aa ans.length ca) vt) 75 (0, 0))
  TL : T.length = 400
  RA : (Kd.int .i64).C w Aa ans.length ans
  cA : ans.length ≤ ca
  RT : Kd.R k47 47 W w.heap.size (fun q => q ≠ g) vt acts
  bg : w.heap.size ≤ g
section
variable {w W W' : World} {g : Nat} {T : List Int} {Aa : Option Addr} {ca : Nat} {ans : List Int} {vt : Value} {acts : List S47}
theorem Rn.lt (S : Rn w W g T Aa ca ans vt acts) : g < W.heap.size := blk_lt S.blk
theorem Rn.below (S : Rn w W g T Aa ca ans vt acts) (hb : Below W.heap.size W W') : Rn w W' g T Aa ca ans vt acts :=
  ⟨below_step S.HB hb, blk_below S.blk hb, S.TL, S.RA, S.cA, Kd.R_below S.RT hb, S.bg⟩
theorem Rn.alloc (S : Rn w W g T Aa ca ans vt acts) (o : Obj) : Rn w (W.alloc o) g T Aa ca ans vt acts := S.below (below_alloc (Below.refl _ _) o)
theorem Rn.drewN (S : Rn w W g T Aa ca ans vt acts) (j : Nat) : Rn w (W.drewN j) g T Aa ca ans vt acts := S.below (pw_below_drewN (Below.refl _ _) j)
theorem Rn.drew (S : Rn w W g T Aa ca ans vt acts) : Rn w W.drew g T Aa ca ans vt acts := S.below (below_drew1 (Below.refl _ _))
theorem Rn.cans (S : Rn w W g T Aa ca ans vt acts) : W.cell? ⟨g, 400, none⟩ = some (.slice Aa ans.length ca) := (blk_cell S.blk 400).trans (rcells_ans _ _ _ S.TL)
theorem Rn.cacts (S : Rn w W g T Aa ca ans vt acts) : W.cell? ⟨g, 401, none⟩ = some vt := (blk_cell S.blk 401).trans (rcells_acts _ _ _ S.TL)
theorem Rn.ctemp (S : Rn w W g T Aa ca ans vt acts) (i : Int) (h0 : 0 ≤ i) (h1 : i < 400) : W.cell? ⟨g, i.toNat, none⟩ = some (.int .i64 (rd T i)) := (blk_cell S.blk _).trans (rcells_temp _ _ _ S.TL i h0 h1)
theorem Rn.frozen (S : Rn w W g T Aa ca ans vt acts) (j : Nat) : W.frozen? ⟨g, j, none⟩ = false := blk_frozen S.blk j
theorem Rn.put_temp (S : Rn w W g T Aa ca ans vt acts) (i : Int) (h0 : 0 ≤ i) (h1 : i < 400) (n : Int) : Rn w (W.setCell ⟨g, i.toNat, none⟩ (.int .i64 n)) g (T.set i.toNat n) Aa ca ans vt acts :=
  ⟨below_set S.HB S.bg, blk_put S.blk _ _ (rcells_set_temp _ _ _ S.TL _ (by omega) _), by rw [List.length_set]; exact S.TL, S.RA, S.cA, Kd.R_far S.RT (fun _ hk => hk) _, S.bg⟩
theorem Rn.put_ans (S : Rn w W g T Aa ca ans vt acts) {Ab : Option Addr} {cb : Nat} {ans' : List Int} (h1 : (Kd.int .i64).C w Ab ans'.length ans') (h2 : ans'.length ≤ cb) : Rn w (W.setCell ⟨g, 400, none⟩ (.slice Ab ans'.length cb)) g T Ab cb ans' vt acts :=
  ⟨below_set S.HB S.bg, blk_put S.blk _ _ (rcells_set_ans _ _ _ _ S.TL), S.TL, h1, h2, Kd.R_far S.RT (fun _ hk => hk) _, S.bg⟩
/-- The acts are another row now. -/
theorem Rn.put_acts (S : Rn w W g T Aa ca ans vt acts) {v1 : Value} {acts' : List S47} {row : Option Nat} (hg : W.grownBy W' row) (hB : Below w.heap.size w W') (hr : some g ≠ row) (h1 : Kd.R k47 47 W' w.heap.size (fun q => q ≠ g) v1 acts') : Rn w (W'.setCell ⟨g, 401, none⟩ v1) g T Aa ca ans v1 acts' :=
  ⟨below_set hB S.bg, blk_put (blk_grown S.blk hg hr) _ _ (rcells_set_acts _ _ _ _ S.TL), S.TL, S.RA, S.cA, Kd.R_far h1 (fun _ hk => hk) _, S.bg⟩
theorem Rn.own_ne (S : Rn w W g T Aa ca ans vt acts) : some g ≠ vt.ownBlock := fun he => S.RT.1 g he.symm rfl
end
end Go.Proofs.Ytdmbnlpcfgphpaa.Q
namespace Go.Proofs.Ytdmbnlpcfgphpaa.Q
open Go.RowKit Go.Proofs.YtdmbnlpcfgphpaaW.PrintWords Go.Proofs.YtdmbnlpcfgphpaaW.PrintLast Go.Proofs.YtdmbnlpcfgphpaaW.PrintMore
set_option linter.unusedVariables false
set_option linter.unusedSimpArgs false
theorem answer_nil {w W : World} {g : Nat} {T : List Int} {Aa : Option Addr} {ca : Nat} {vt : Value} {acts : List S47} (S : Rn w W g T Aa ca [] vt acts) :
    Calls Try.prog 52 #[.pointer (some ⟨g, 0, none⟩)] W fun e W' => e = .returned (.tuple #[.int .i64 0, .bool false]) ∧ W' = W := by
  have ha := S.cans
  simp only [List.length_nil] at ha
  have SS := Aside0.mk S
  clear S
  go_enter Try.func52, Try.ntmps52
  go_wp2
  go_ret2
  exact ⟨rfl, rfl⟩
set_option maxHeartbeats 1000000 in
set_option maxRecDepth 100000 in
theorem answer_cons {w W : World} {g : Nat} {T : List Int} {Aa : Option Addr} {ca : Nat} {n : Int} {ans : List Int} {vt : Value} {acts : List S47} (S : Rn w W g T Aa ca (n :: ans) vt acts) :
    Calls Try.prog 52 #[.pointer (some ⟨g, 0, none⟩)] W fun e W' => e = .returned (.tuple #[.int .i64 n, .bool true]) ∧ (∃ Ab, Rn w W' g T Ab (ca - 1) ans vt acts) ∧ KeepBut W W' g none := by
  have ha := S.cans
  have hf := S.frozen 400
  have hl := S.lt
  obtain ⟨ad, ea, hx⟩ := Kd.at_int (Kd.C_below S.RA S.HB) 0 (by omega) (by simp)
  cases ea
  have hx0 : W.cell? ad = some (.int .i64 n) := by simpa [Addr.add, rd] using hx
  clear hx
  have hlen : (n :: ans).length = ans.length + 1 := rfl
  have hca := S.cA
  have q1 : ((0 : Int) < ((n :: ans).length : Int)) = True := eq_true (by rw [hlen]; omega)
  have e1 : (((n :: ans).length : Int) == 0) = false := beq_eq_false_iff_ne.2 (by rw [hlen]; omega)
  obtain ⟨i2, hi2, hs2⟩ : ∃ i, Try.prog.info? 2 = some i ∧ i.size = 1 := ⟨_, rfl, by kernel_rfl⟩
  have hcut := cut_from (P := Try.prog) 24 2 .i64 Try.underlying24 hi2 1 hs2 (some ad) (n :: ans).length ca 1 (by omega) (by rw [hlen]; omega)
  have hdrop := Kd.C_drop (m := 1) (c := ca) S.RA (by rw [hlen]; omega) hca
  simp only [Nat.mul_one, show (Kd.int .i64).sz = 1 from rfl, show (1 : Int).toNat = 1 from rfl, List.drop_succ_cons, List.drop_zero, hlen, Nat.add_sub_cancel] at hcut hdrop
  generalize (if ca = 1 then some ad else (some ad).map fun x => x.add 1) = Ab at hcut hdrop
  have hca' : ans.length ≤ ca - 1 := by rw [hlen] at hca; omega
  have HR := Aside0.mk (S.put_ans hdrop hca')
  have HK : Aside0 (KeepBut W (W.setCell ⟨g, 400, none⟩ (.slice Ab ans.length (ca - 1))) g none) := ⟨(KeepBut.refl _ _ _).set_ _ _⟩
  simp only [hlen] at ha e1 q1
  have SS := Aside0.mk S
  clear S hdrop hca hca' hlen
  go_enter Try.func52, Try.ntmps52
  go_wp2
  go_ret2
  exact ⟨rfl, ⟨_, HR.out⟩, HK.out⟩
end Go.Proofs.Ytdmbnlpcfgphpaa.Q
namespace Go.Proofs.Ytdmbnlpcfgphpaa.Q
open Go.RowKit Go.Proofs.YtdmbnlpcfgphpaaW.PrintWords Go.Proofs.YtdmbnlpcfgphpaaW.PrintLast Go.Proofs.YtdmbnlpcfgphpaaW.PrintMore
set_option linter.unusedVariables false
set_option linter.unusedSimpArgs false
/-- What an append of an act leaves, behind the store of the new row. -/
theorem Rn.appended {w W w1 : World} {g : Nat} {T : List Int} {Aa : Option Addr} {ca : Nat} {ans : List Int} {vt v1 : Value} {acts acts' : List S47} {o : Obj} (S : Rn w W g T Aa ca ans vt acts)
    (h1 : Kd.R k47 47 w1 w.heap.size (fun q => q ≠ g) v1 acts') (hB : Below w.heap.size w w1) (hg : W.grownBy w1 vt.ownBlock) : Rn w (w1.setCell ⟨g, 401, none⟩ v1) g T Aa ca ans v1 acts' ∧ KeepBut W (w1.setCell ⟨g, 401, none⟩ v1) g vt.ownBlock :=
  ⟨S.put_acts hg hB S.own_ne h1, (KeepBut.of_grown hg g).set_ _ _⟩
set_option maxHeartbeats 1000000 in
set_option maxRecDepth 100000 in
theorem write_any {w W : World} {g gb : Nat} {T : List Int} {Aa : Option Addr} {ca : Nat} {ans : List Int} {vt : Value} {acts : List S47} (S : Rn w W g T Aa ca ans vt acts)
    (hb : W.heap[gb]? = some (.cells #[.pointer (some ⟨g, 0, none⟩)] 72 (0, 0))) (kind loc v : Int) (hl : acts.length ≤ 1000) :
    Calls Try.prog 47 #[.int .i64 kind, .int .i64 loc, .int .i64 v, .pointer (some ⟨gb, 0, none⟩)] W fun e W' => e = .returned (.tuple #[]) ∧
      ∃ v1, Rn w W' g T Aa ca ans v1 (acts ++ [⟨kind, loc, 0, v⟩]) ∧ KeepBut W W' g vt.ownBlock := by
  have hlt := S.lt
  have hltb := blk_lt hb
  have hne : gb ≠ g := blk_ne hb S.blk (by decide)
  have hcb : W.cell? ⟨gb, 0, none⟩ = some (.pointer (some ⟨g, 0, none⟩)) := blk_cell hb 0
  have hca := S.cacts
  have hown := S.own_ne
  have SS := Aside0.mk S
  have HBK := Aside0.mk hb
  have HO : Aside0 (some gb ≠ vt.ownBlock) := ⟨Kd.R_ne S.RT hb (by decide)⟩
  clear S hb hown hca
  have hown := SS.out.own_ne
  have hca := SS.out.cacts
  go_enter Try.func47, Try.ntmps47
  go_wp2_with fail
  go_region_law
    ((refine Kd.R_append_step k47 (w0 := w) w.heap.size (by rfl) _ _ 29 47 _ 32 rfl Try.underlying29 info47 rfl (by decide) (by decide) vt acts ⟨kind, loc, 0, v⟩ [.int .i64 kind, .int .i64 loc, .int .i64 0, .int .i64 v] (fun q => q ≠ g) (fun _ => False) (by rfl) (by rfl) (k47_mkM _ _ _ ⟨kind, loc, 0, v⟩) (fun _ h => h.elim) (fun k hk he => absurd hk (by subst he; simp; omega)) SS.out.drew.RT SS.out.drew.HB SS.out.drew.HB.size (by omega) ?_; intro v1 w1 hR hB hg hat; obtain ⟨A1, c1, rfl⟩ := Kd.R_slice hR; have HE := Aside0.mk (SS.out.drew.appended (o := .cells #[] 0) hR hB hg); have hc1 := blk_cell (blk_grown SS.out.drew.blk hg hown) 401; rw [rcells_acts _ _ _ SS.out.TL] at hc1; have hf1 := blk_frozen (blk_grown SS.out.drew.blk hg hown) 401; have hb1 := blk_cell (blk_grown (blk_drew HBK.out) hg HO.out) 0; clear hR hB hg hat))
  all_goals (go_end0; have h_ := HE.out; simp only [List.length_append, List.length_cons, List.length_nil, Nat.zero_add] at h_; exact ⟨rfl, _, h_.1, h_.2⟩)
end Go.Proofs.Ytdmbnlpcfgphpaa.Q
namespace Go.Proofs.Ytdmbnlpcfgphpaa.Q
open Go.RowKit Go.Proofs.YtdmbnlpcfgphpaaW.PrintWords Go.Proofs.YtdmbnlpcfgphpaaW.PrintLast Go.Proofs.YtdmbnlpcfgphpaaW.PrintMore
set_option linter.unusedVariables false
set_option linter.unusedSimpArgs false
theorem kb_none {w w1 : World} {g : Nat} {row : Option Nat} (h : KeepBut w w1 g none) : KeepBut w w1 g row := ⟨h.1, fun i h1 h2 _ => h.2 i h1 h2 (by simp)⟩
theorem kb_alloc {w w1 : World} {g : Nat} {row : Option Nat} {o : Obj} (h : KeepBut (w.alloc o) w1 g row) : KeepBut w w1 g row :=
  ⟨Nat.le_trans (below_alloc (Below.refl _ _) o).size h.1, fun i h1 h2 h3 => (h.2 i (Nat.lt_of_lt_of_le h1 (below_alloc (Below.refl _ _) o).size) h2 h3).trans (Below.heap_alloc w o i h1)⟩
theorem kb_then {w w1 w2 : World} {g : Nat} {row : Option Nat} (h : KeepBut w w1 g none) (k : KeepBut w1 w2 g row) : KeepBut w w2 g row :=
  ⟨Nat.le_trans h.1 k.1, fun i h1 h2 h3 => (k.2 i (Nat.lt_of_lt_of_le h1 h.1) h2 h3).trans (h.2 i h1 h2 (by simp))⟩
theorem cases_nil {w W : World} {g : Nat} {T : List Int} {Aa : Option Addr} {ca : Nat} {vt : Value} {acts : List S47} (S : Rn w W g T Aa ca [] vt acts) (i : Int) (x : S40) (a b : Int) :
    Calls Try.prog 48 #[.pointer (some ⟨g, 0, none⟩), .int .i64 i, aIns x, .int .i64 a, .int .i64 b] W fun e W' => e = .returned (.tuple #[.int .i64 0, .int .i64 4]) ∧ Rn w W' g T Aa ca [] vt acts ∧ KeepBut W W' g none := by
  have SS := Aside0.mk S
  clear S
  unfold aIns
  go_enter Try.func48, Try.ntmps48
  go_wp2_with (go_at_call 52; refine (answer_nil (SS.out.alloc _)).mono ?_; rintro e w' ⟨rfl, rfl⟩)
  go_ret2
  exact ⟨rfl, SS.out.alloc _, kb_alloc (KeepBut.refl _ _ _)⟩
set_option maxHeartbeats 1000000 in
set_option maxRecDepth 100000 in
theorem cases_ne {w W : World} {g : Nat} {T : List Int} {Aa : Option Addr} {ca : Nat} {n : Int} {ans : List Int} {vt : Value} {acts : List S47} (S : Rn w W g T Aa ca (n :: ans) vt acts) (i : Int) (x : S40) (a b : Int) (hn : n ≠ a) (hl : acts.length ≤ 1000) :
    Calls Try.prog 48 #[.pointer (some ⟨g, 0, none⟩), .int .i64 i, aIns x, .int .i64 a, .int .i64 b] W fun e W' => e = .returned (.tuple #[.int .i64 x.f7, .int .i64 0]) ∧ (∃ Ab v1, Rn w W' g T Ab (ca - 1) ans v1 (acts ++ [⟨3, x.f4, n, 0⟩])) ∧ KeepBut W W' g vt.ownBlock := by
  have hne : ¬ W.heap.size = g := by have := S.lt; omega
  have SS := Aside0.mk S
  clear S
  have c1 : (n != a) = true := by simpa using hn
  clear hn
  unfold aIns
  go_enter Try.func48, Try.ntmps48
  go_wp2_with (go_at_call 52; refine (answer_cons (SS.out.alloc _)).mono ?_; rintro e w2 ⟨rfl, ⟨Ab, hs⟩, hk⟩; have S2 := Aside0.mk hs; have HK := Aside0.mk hk; have KX := Aside0.mk (hk.blk (blk_new W _) hne (by simp)); clear hs hk; have x4 := blk_cell KX.out 4; have x7 := blk_cell KX.out 7; have hown := S2.out.own_ne; have hca := S2.out.cacts; have hlt := S2.out.lt)
  go_region_law
    ((refine Kd.R_append_step k47 (w0 := w) w.heap.size (by rfl) _ _ 29 47 _ 32 rfl Try.underlying29 info47 rfl (by decide) (by decide) vt acts ⟨3, x.f4, n, 0⟩ [.int .i64 3, .int .i64 x.f4, .int .i64 n, .int .i64 0] (fun q => q ≠ g) (fun _ => False) (by rfl) (by rfl) (k47_mkM _ _ _ ⟨3, x.f4, n, 0⟩) (fun _ h => h.elim) (fun k hk he => absurd hk (by subst he; simp; omega)) S2.out.drew.RT S2.out.drew.HB S2.out.drew.HB.size (by omega) ?_; intro v1 w1 hR hB hg hat; obtain ⟨A1, c1, rfl⟩ := Kd.R_slice hR; have HE := Aside0.mk (S2.out.drew.appended (o := .cells #[] 0) hR hB hg); have hc1 := blk_cell (blk_grown S2.out.drew.blk hg hown) 401; rw [rcells_acts _ _ _ S2.out.TL] at hc1; have hf1 := blk_frozen (blk_grown S2.out.drew.blk hg hown) 401; clear x4 x7; have KX1 := Aside0.mk (blk_grown (blk_drew KX.out) hg (Kd.R_ne S2.out.RT KX.out (by decide))); have x7 := blk_cell KX1.out 7; clear hR hB hg hat))
  all_goals go_wp2
  all_goals go_ret2
  all_goals (have h_ := HE.out; simp only [List.length_append, List.length_cons, List.length_nil, Nat.zero_add] at h_; exact ⟨rfl, ⟨_, _, h_.1⟩, kb_then (kb_alloc HK.out) h_.2⟩)
set_option maxHeartbeats 1000000 in
set_option maxRecDepth 100000 in
theorem cases_eq {w W : World} {g : Nat} {T : List Int} {Aa : Option Addr} {ca : Nat} {n : Int} {ans : List Int} {vt : Value} {acts : List S47} (S : Rn w W g T Aa ca (n :: ans) vt acts) (i : Int) (x : S40) (b : Int) (hi : 0 ≤ i) (hi' : i ≤ 1000) (hl : acts.length ≤ 1000) :
    Calls Try.prog 48 #[.pointer (some ⟨g, 0, none⟩), .int .i64 i, aIns x, .int .i64 n, .int .i64 b] W fun e W' => e = .returned (.tuple #[.int .i64 (i + 1), .int .i64 0]) ∧ (∃ Ab v1, Rn w W' g T Ab (ca - 1) ans v1 (acts ++ [⟨5, x.f4, n, b⟩])) ∧ KeepBut W W' g vt.ownBlock := by
  have hne : ¬ W.heap.size = g := by have := S.lt; omega
  have SS := Aside0.mk S
  clear S
  have c1 : (n != n) = false := by simp
  have e1 : wrap64 (i + 1) = i + 1 := wrap_of (by omega) (by omega)
  unfold aIns
  go_enter Try.func48, Try.ntmps48
  go_wp2_with (go_at_call 52; refine (answer_cons (SS.out.alloc _)).mono ?_; rintro e w2 ⟨rfl, ⟨Ab, hs⟩, hk⟩; have S2 := Aside0.mk hs; have HK := Aside0.mk hk; have KX := Aside0.mk (hk.blk (blk_new W _) hne (by simp)); clear hs hk; have x4 := blk_cell KX.out 4; have x7 := blk_cell KX.out 7; have hown := S2.out.own_ne; have hca := S2.out.cacts; have hlt := S2.out.lt)
  go_region_law
    ((refine Kd.R_append_step k47 (w0 := w) w.heap.size (by rfl) _ _ 29 47 _ 32 rfl Try.underlying29 info47 rfl (by decide) (by decide) vt acts ⟨5, x.f4, n, b⟩ [.int .i64 5, .int .i64 x.f4, .int .i64 n, .int .i64 b] (fun q => q ≠ g) (fun _ => False) (by rfl) (by rfl) (k47_mkM _ _ _ ⟨5, x.f4, n, b⟩) (fun _ h => h.elim) (fun k hk he => absurd hk (by subst he; simp; omega)) S2.out.drew.RT S2.out.drew.HB S2.out.drew.HB.size (by omega) ?_; intro v1 w1 hR hB hg hat; obtain ⟨A1, c1, rfl⟩ := Kd.R_slice hR; have HE := Aside0.mk (S2.out.drew.appended (o := .cells #[] 0) hR hB hg); have hc1 := blk_cell (blk_grown S2.out.drew.blk hg hown) 401; rw [rcells_acts _ _ _ S2.out.TL] at hc1; have hf1 := blk_frozen (blk_grown S2.out.drew.blk hg hown) 401; clear hR hB hg hat))
  all_goals go_wp2
  all_goals go_ret2
  all_goals (have h_ := HE.out; simp only [List.length_append, List.length_cons, List.length_nil, Nat.zero_add] at h_; exact ⟨rfl, ⟨_, _, h_.1⟩, kb_then (kb_alloc HK.out) h_.2⟩)
end Go.Proofs.Ytdmbnlpcfgphpaa.Q
namespace Go.Proofs.Ytdmbnlpcfgphpaa.Q
open Go.RowKit Go.Proofs.YtdmbnlpcfgphpaaW.PrintWords Go.Proofs.YtdmbnlpcfgphpaaW.PrintLast Go.Proofs.YtdmbnlpcfgphpaaW.PrintMore
set_option linter.unusedVariables false
set_option linter.unusedSimpArgs false
theorem ask_nil {w W : World} {g : Nat} {T : List Int} {Aa : Option Addr} {ca : Nat} {vt : Value} {acts : List S47} (S : Rn w W g T Aa ca [] vt acts) (x : S40) (kind loc : Int) :
    Calls Try.prog 49 #[.pointer (some ⟨g, 0, none⟩), aIns x, .int .i64 kind, .int .i64 loc] W fun e W' => e = .returned (.bool false) ∧ Rn w W' g T Aa ca [] vt acts ∧ KeepBut W W' g none := by
  have SS := Aside0.mk S
  clear S
  unfold aIns
  go_enter Try.func49, Try.ntmps49
  go_wp2_with (go_at_call 52; refine (answer_nil (SS.out.alloc _)).mono ?_; rintro e w' ⟨rfl, rfl⟩)
  go_ret
  exact ⟨rfl, SS.out.alloc _, kb_alloc (KeepBut.refl _ _ _)⟩
def newOf (x : S40) (n : Int) (T : List Int) : Int := if x.f0 = 10 then rd T x.f2 else if x.f0 = 11 then IntKind.i64.wrap (n + rd T x.f2) else 0
set_option maxHeartbeats 1000000 in
set_option maxRecDepth 100000 in
theorem ask_plain {w W : World} {g : Nat} {T : List Int} {Aa : Option Addr} {ca : Nat} {n : Int} {ans : List Int} {vt : Value} {acts : List S47} (S : Rn w W g T Aa ca (n :: ans) vt acts) (x : S40) (kind loc : Int) (h10 : x.f0 ≠ 10) (h11 : x.f0 ≠ 11) (hd0 : 0 ≤ x.f1) (hd1 : x.f1 < 400) (hl : acts.length ≤ 1000) :
    Calls Try.prog 49 #[.pointer (some ⟨g, 0, none⟩), aIns x, .int .i64 kind, .int .i64 loc] W fun e W' => e = .returned (.bool true) ∧ (∃ Ab v1, Rn w W' g (T.set x.f1.toNat n) Ab (ca - 1) ans v1 (acts ++ [⟨kind, loc, n, 0⟩])) ∧ KeepBut W W' g vt.ownBlock := by
  have hne : ¬ W.heap.size = g := by have := S.lt; omega
  have SS := Aside0.mk S
  clear S
  have c1 : (x.f0 == 10) = false := beq_eq_false_iff_ne.2 h10
  have c2 : (x.f0 == 11) = false := beq_eq_false_iff_ne.2 h11
  clear h10 h11
  unfold aIns
  go_enter Try.func49, Try.ntmps49
  go_wp2_with (go_at_call 52; refine (answer_cons (SS.out.alloc _)).mono ?_; rintro e w2 ⟨rfl, ⟨Ab, hs⟩, hk⟩; have S2 := Aside0.mk hs; have HK := Aside0.mk hk; have KX := Aside0.mk (hk.blk (blk_new W _) hne (by simp)); clear hs hk; have x0 := blk_cell KX.out 0; have x1 := blk_cell KX.out 1; have x2 := blk_cell KX.out 2; have hown := S2.out.own_ne; have hca := S2.out.cacts; have hlt := S2.out.lt; have hcd := S2.out.ctemp x.f1 hd0 hd1; have hfr := S2.out.frozen x.f1.toNat; have hxl := blk_lt KX.out)

  go_region_law (fail)
  have hn4 : ¬ (401 : Nat) = x.f1.toNat := by omega
  have S5 := Aside0.mk (((S2.out.put_temp x.f1 hd0 hd1 n).alloc (.cells #[.int .i64 kind, .int .i64 loc, .int .i64 n, .int .i64 0] 47)).drew.drew)
  have HK5 : Aside0 (KeepBut w2 ((w2.setCell ⟨g, x.f1.toNat, none⟩ (.int .i64 n)).alloc (.cells #[.int .i64 kind, .int .i64 loc, .int .i64 n, .int .i64 0] 47)).drew.drew g none) := ⟨keep_alloc ((KeepBut.refl _ _ _).set_ _ _) _⟩
  go_wp2
  go_region_law
    ((refine Kd.R_append_step k47 (w0 := w) w.heap.size (by rfl) _ _ 29 47 _ 32 rfl Try.underlying29 info47 rfl (by decide) (by decide) vt acts ⟨kind, loc, n, 0⟩ [.int .i64 kind, .int .i64 loc, .int .i64 n, .int .i64 0] (fun q => q ≠ g) (fun _ => False) (by rfl) (by simp [Act.eval]) (k47_mkM _ _ _ ⟨kind, loc, n, 0⟩) (fun _ h => h.elim) (fun k hk he => absurd hk (by subst he; simp; omega)) S5.out.RT S5.out.HB S5.out.HB.size (by omega) ?_; intro v1 w1 hR hB hg hat; obtain ⟨A1, c1, rfl⟩ := Kd.R_slice hR; have HE := Aside0.mk (S5.out.appended (o := .cells #[] 0) hR hB hg); have hc1 := blk_cell (blk_grown S5.out.blk hg hown) 401; rw [rcells_acts _ _ _ S5.out.TL] at hc1; have hf1 := blk_frozen (blk_grown S5.out.blk hg hown) 401; clear hR hB hg hat))
  all_goals go_wp2
  all_goals go_ret
  all_goals (have h_ := HE.out; simp only [List.length_append, List.length_cons, List.length_nil, Nat.zero_add] at h_; exact ⟨rfl, ⟨_, _, h_.1⟩, kb_then (kb_alloc HK.out) (kb_then HK5.out h_.2)⟩)
set_option maxHeartbeats 1000000 in
set_option maxRecDepth 100000 in
theorem ask_swap {w W : World} {g : Nat} {T : List Int} {Aa : Option Addr} {ca : Nat} {n : Int} {ans : List Int} {vt : Value} {acts : List S47} (S : Rn w W g T Aa ca (n :: ans) vt acts) (x : S40) (kind loc : Int) (h10 : x.f0 = 10) (ha0 : 0 ≤ x.f2) (ha1 : x.f2 < 400) (hd0 : 0 ≤ x.f1) (hd1 : x.f1 < 400) (hl : acts.length ≤ 1000) :
    Calls Try.prog 49 #[.pointer (some ⟨g, 0, none⟩), aIns x, .int .i64 kind, .int .i64 loc] W fun e W' => e = .returned (.bool true) ∧ (∃ Ab v1, Rn w W' g (T.set x.f1.toNat n) Ab (ca - 1) ans v1 (acts ++ [⟨kind, loc, n, rd T x.f2⟩])) ∧ KeepBut W W' g vt.ownBlock := by
  have hne : ¬ W.heap.size = g := by have := S.lt; omega
  have SS := Aside0.mk S
  clear S
  have c1 : (x.f0 == 10) = true := by rw [h10]; rfl
  have c2 : (x.f0 == 11) = false := by rw [h10]; rfl
  clear h10
  unfold aIns
  go_enter Try.func49, Try.ntmps49
  go_wp2_with (go_at_call 52; refine (answer_cons (SS.out.alloc _)).mono ?_; rintro e w2 ⟨rfl, ⟨Ab, hs⟩, hk⟩; have S2 := Aside0.mk hs; have HK := Aside0.mk hk; have KX := Aside0.mk (hk.blk (blk_new W _) hne (by simp)); clear hs hk; have x0 := blk_cell KX.out 0; have x1 := blk_cell KX.out 1; have x2 := blk_cell KX.out 2; have hown := S2.out.own_ne; have hca := S2.out.cacts; have hlt := S2.out.lt; have hcd := S2.out.ctemp x.f1 hd0 hd1; have hfr := S2.out.frozen x.f1.toNat; have hxl := blk_lt KX.out; have hcA := S2.out.ctemp x.f2 ha0 ha1; have hfn := S2.out.frozen)

  go_region_law (fail)
  go_wp2
  go_region_law (fail)
  have hn4 : ¬ (401 : Nat) = x.f1.toNat := by omega
  have S5 := Aside0.mk (((S2.out.put_temp x.f1 hd0 hd1 n).alloc (.cells #[.int .i64 kind, .int .i64 loc, .int .i64 n, .int .i64 (rd T x.f2)] 47)).drew.drew.drew)
  have HK5 : Aside0 (KeepBut w2 ((w2.setCell ⟨g, x.f1.toNat, none⟩ (.int .i64 n)).alloc (.cells #[.int .i64 kind, .int .i64 loc, .int .i64 n, .int .i64 (rd T x.f2)] 47)).drew.drew.drew g none) := ⟨keep_alloc ((KeepBut.refl _ _ _).set_ _ _) _⟩
  go_wp2
  go_region_law
    ((refine Kd.R_append_step k47 (w0 := w) w.heap.size (by rfl) _ _ 29 47 _ 32 rfl Try.underlying29 info47 rfl (by decide) (by decide) vt acts ⟨kind, loc, n, rd T x.f2⟩ [.int .i64 kind, .int .i64 loc, .int .i64 n, .int .i64 (rd T x.f2)] (fun q => q ≠ g) (fun _ => False) (by rfl) (by simp [Act.eval]) (k47_mkM _ _ _ ⟨kind, loc, n, rd T x.f2⟩) (fun _ h => h.elim) (fun k hk he => absurd hk (by subst he; simp; omega)) S5.out.RT S5.out.HB S5.out.HB.size (by omega) ?_; intro v1 w1 hR hB hg hat; obtain ⟨A1, c1, rfl⟩ := Kd.R_slice hR; have HE := Aside0.mk (S5.out.appended (o := .cells #[] 0) hR hB hg); have hc1 := blk_cell (blk_grown S5.out.blk hg hown) 401; rw [rcells_acts _ _ _ S5.out.TL] at hc1; have hf1 := blk_frozen (blk_grown S5.out.blk hg hown) 401; clear hR hB hg hat))
  all_goals go_wp2
  all_goals go_ret
  all_goals (have h_ := HE.out; simp only [List.length_append, List.length_cons, List.length_nil, Nat.zero_add] at h_; exact ⟨rfl, ⟨_, _, h_.1⟩, kb_then (kb_alloc HK.out) (kb_then HK5.out h_.2)⟩)
set_option maxHeartbeats 1000000 in
set_option maxRecDepth 100000 in
theorem ask_inc {w W : World} {g : Nat} {T : List Int} {Aa : Option Addr} {ca : Nat} {n : Int} {ans : List Int} {vt : Value} {acts : List S47} (S : Rn w W g T Aa ca (n :: ans) vt acts) (x : S40) (kind loc : Int) (h10 : x.f0 = 11) (ha0 : 0 ≤ x.f2) (ha1 : x.f2 < 400) (hd0 : 0 ≤ x.f1) (hd1 : x.f1 < 400) (hl : acts.length ≤ 1000) :
    Calls Try.prog 49 #[.pointer (some ⟨g, 0, none⟩), aIns x, .int .i64 kind, .int .i64 loc] W fun e W' => e = .returned (.bool true) ∧ (∃ Ab v1, Rn w W' g (T.set x.f1.toNat n) Ab (ca - 1) ans v1 (acts ++ [⟨kind, loc, n, IntKind.i64.wrap (n + rd T x.f2)⟩])) ∧ KeepBut W W' g vt.ownBlock := by
  have hne : ¬ W.heap.size = g := by have := S.lt; omega
  have SS := Aside0.mk S
  clear S
  have c1 : (x.f0 == 10) = false := by rw [h10]; rfl
  have c2 : (x.f0 == 11) = true := by rw [h10]; rfl
  clear h10
  unfold aIns
  go_enter Try.func49, Try.ntmps49
  go_wp2_with (go_at_call 52; refine (answer_cons (SS.out.alloc _)).mono ?_; rintro e w2 ⟨rfl, ⟨Ab, hs⟩, hk⟩; have S2 := Aside0.mk hs; have HK := Aside0.mk hk; have KX := Aside0.mk (hk.blk (blk_new W _) hne (by simp)); clear hs hk; have x0 := blk_cell KX.out 0; have x1 := blk_cell KX.out 1; have x2 := blk_cell KX.out 2; have hown := S2.out.own_ne; have hca := S2.out.cacts; have hlt := S2.out.lt; have hcd := S2.out.ctemp x.f1 hd0 hd1; have hfr := S2.out.frozen x.f1.toNat; have hxl := blk_lt KX.out; have hcA := S2.out.ctemp x.f2 ha0 ha1; have hfn := S2.out.frozen)

  go_region_law (fail)
  go_wp2
  go_region_law (fail)
  have hn4 : ¬ (401 : Nat) = x.f1.toNat := by omega
  have S5 := Aside0.mk (((S2.out.put_temp x.f1 hd0 hd1 n).alloc (.cells #[.int .i64 kind, .int .i64 loc, .int .i64 n, .int .i64 (IntKind.i64.wrap (n + rd T x.f2))] 47)).drew.drew.drew)
  have HK5 : Aside0 (KeepBut w2 ((w2.setCell ⟨g, x.f1.toNat, none⟩ (.int .i64 n)).alloc (.cells #[.int .i64 kind, .int .i64 loc, .int .i64 n, .int .i64 (IntKind.i64.wrap (n + rd T x.f2))] 47)).drew.drew.drew g none) := ⟨keep_alloc ((KeepBut.refl _ _ _).set_ _ _) _⟩
  go_wp2
  go_region_law
    ((refine Kd.R_append_step k47 (w0 := w) w.heap.size (by rfl) _ _ 29 47 _ 32 rfl Try.underlying29 info47 rfl (by decide) (by decide) vt acts ⟨kind, loc, n, IntKind.i64.wrap (n + rd T x.f2)⟩ [.int .i64 kind, .int .i64 loc, .int .i64 n, .int .i64 (IntKind.i64.wrap (n + rd T x.f2))] (fun q => q ≠ g) (fun _ => False) (by rfl) (by simp [Act.eval]) (k47_mkM _ _ _ ⟨kind, loc, n, IntKind.i64.wrap (n + rd T x.f2)⟩) (fun _ h => h.elim) (fun k hk he => absurd hk (by subst he; simp; omega)) S5.out.RT S5.out.HB S5.out.HB.size (by omega) ?_; intro v1 w1 hR hB hg hat; obtain ⟨A1, c1, rfl⟩ := Kd.R_slice hR; have HE := Aside0.mk (S5.out.appended (o := .cells #[] 0) hR hB hg); have hc1 := blk_cell (blk_grown S5.out.blk hg hown) 401; rw [rcells_acts _ _ _ S5.out.TL] at hc1; have hf1 := blk_frozen (blk_grown S5.out.blk hg hown) 401; clear hR hB hg hat))
  all_goals go_wp2
  all_goals go_ret
  all_goals (have h_ := HE.out; simp only [List.length_append, List.length_cons, List.length_nil, Nat.zero_add] at h_; exact ⟨rfl, ⟨_, _, h_.1⟩, kb_then (kb_alloc HK.out) (kb_then HK5.out h_.2)⟩)
end Go.Proofs.Ytdmbnlpcfgphpaa.Q
namespace Go.Proofs.Ytdmbnlpcfgphpaa.Q
open Go.RowKit Go.Proofs.YtdmbnlpcfgphpaaW.PrintWords Go.Proofs.YtdmbnlpcfgphpaaW.PrintLast Go.Proofs.YtdmbnlpcfgphpaaW.PrintMore
set_option linter.unusedVariables false
def DoPost (w W : World) (g : Nat) (vt : Value) (next fin : Int) (T' ans' : List Int) (acts' : List S47) (e : Ending) (W' : World) : Prop :=
  e = .returned (.tuple #[.int .i64 next, .int .i64 fin]) ∧ (∃ Ab cb v1, Rn w W' g T' Ab cb ans' v1 acts') ∧ KeepBut W W' g vt.ownBlock
theorem cases_eq' {w W : World} {g : Nat} {T : List Int} {Aa : Option Addr} {ca : Nat} {n : Int} {ans : List Int} {vt : Value} {acts : List S47} (S : Rn w W g T Aa ca (n :: ans) vt acts) (i : Int) (x : S40) (a b : Int) (hn : n = a) (hi : 0 ≤ i) (hi' : i ≤ 1000) (hl : acts.length ≤ 1000) :
    Calls Try.prog 48 #[.pointer (some ⟨g, 0, none⟩), .int .i64 i, aIns x, .int .i64 a, .int .i64 b] W fun e W' => e = .returned (.tuple #[.int .i64 (i + 1), .int .i64 0]) ∧ (∃ Ab v1, Rn w W' g T Ab (ca - 1) ans v1 (acts ++ [⟨5, x.f4, n, b⟩])) ∧ KeepBut W W' g vt.ownBlock := by
  subst hn
  exact cases_eq S i x b hi hi' hl
end Go.Proofs.Ytdmbnlpcfgphpaa.Q
namespace Go.Proofs.Ytdmbnlpcfgphpaa.Q
open Go.RowKit Go.Proofs.YtdmbnlpcfgphpaaW.PrintWords Go.Proofs.YtdmbnlpcfgphpaaW.PrintLast Go.Proofs.YtdmbnlpcfgphpaaW.PrintMore
set_option linter.unusedVariables false
set_option linter.unusedSimpArgs false
set_option maxHeartbeats 4000000 in
set_option maxRecDepth 100000 in
theorem do_1 {w W : World} {g : Nat} {T : List Int} {Aa : Option Addr} {ca : Nat} {ans : List Int} {vt : Value} {acts : List S47} (S : Rn w W g T Aa ca ans vt acts) (i d a b loc len kk tt : Int) (hi : 0 ≤ i) (hi' : i ≤ 1000) (hl : acts.length ≤ 1000)
    (hd0 : 0 ≤ d) (hd1 : d < 400) (ha0 : 0 ≤ a) (ha1 : a < 400) (hb0 : 0 ≤ b) (hb1 : b < 400) :
    Calls Try.prog 39 #[.pointer (some ⟨g, 0, none⟩), .int .i64 i, aIns ⟨1, d, a, b, loc, len, kk, tt⟩] W (DoPost w W g vt (i + 1) 0 (T.set d.toNat kk) ans acts) := by
  have e1 : wrap64 (i + 1) = i + 1 := wrap_of (by omega) (by omega)
  have KB : Aside0 (((W.alloc (.cells #[.pointer (some ⟨g, 0, none⟩)] 72)).alloc (.cells #[.int .i64 1, .int .i64 d, .int .i64 a, .int .i64 b, .int .i64 loc, .int .i64 len, .int .i64 kk, .int .i64 tt] 40)).heap[W.heap.size]? = some (.cells #[.pointer (some ⟨g, 0, none⟩)] 72 (0, 0))) := ⟨blk_alloc (blk_new _ _) _⟩
  have KX : Aside0 (((W.alloc (.cells #[.pointer (some ⟨g, 0, none⟩)] 72)).alloc (.cells #[.int .i64 1, .int .i64 d, .int .i64 a, .int .i64 b, .int .i64 loc, .int .i64 len, .int .i64 kk, .int .i64 tt] 40)).heap[W.heap.size + 1]? = some (.cells #[.int .i64 1, .int .i64 d, .int .i64 a, .int .i64 b, .int .i64 loc, .int .i64 len, .int .i64 kk, .int .i64 tt] 40 (0, 0))) := ⟨by have h_ := blk_new (W.alloc (.cells #[.pointer (some ⟨g, 0, none⟩)] 72)) (.cells #[.int .i64 1, .int .i64 d, .int .i64 a, .int .i64 b, .int .i64 loc, .int .i64 len, .int .i64 kk, .int .i64 tt] 40); simpa using h_⟩
  have S1 := Aside0.mk ((S.alloc (.cells #[.pointer (some ⟨g, 0, none⟩)] 72)).alloc (.cells #[.int .i64 1, .int .i64 d, .int .i64 a, .int .i64 b, .int .i64 loc, .int .i64 len, .int .i64 kk, .int .i64 tt] 40))
  have HK : Aside0 (KeepBut W ((W.alloc (.cells #[.pointer (some ⟨g, 0, none⟩)] 72)).alloc (.cells #[.int .i64 1, .int .i64 d, .int .i64 a, .int .i64 b, .int .i64 loc, .int .i64 len, .int .i64 kk, .int .i64 tt] 40)) g none) := ⟨keep_alloc (keep_alloc (KeepBut.refl _ _ _) _) _⟩
  have hgb : ¬ W.heap.size = g := by have := S.lt; omega
  have hgx : ¬ W.heap.size + 1 = g := by have := S.lt; omega
  clear S
  unfold aIns
  dsimp only
  go_enter Try.func39, Try.ntmps39
  go_wp2_with fail
  generalize hW1 : ((W.alloc (.cells #[.pointer (some ⟨g, 0, none⟩)] 72)).alloc (.cells #[.int .i64 1, .int .i64 d, .int .i64 a, .int .i64 b, .int .i64 loc, .int .i64 len, .int .i64 kk, .int .i64 tt] 40)) = W1 at KB KX S1 HK ⊢
  clear hW1
  generalize W.heap.size + 1 = bx at KX hgx ⊢
  generalize W.heap.size = bb at KB hgb ⊢
  have hcr := blk_cell KB.out 0
  have x0 := blk_cell KX.out 0
  have x1 := blk_cell KX.out 1
  have x2 := blk_cell KX.out 2
  have x3 := blk_cell KX.out 3
  have x4 := blk_cell KX.out 4
  have x5 := blk_cell KX.out 5
  have x6 := blk_cell KX.out 6
  have x7 := blk_cell KX.out 7
  have hta := S1.out.ctemp a ha0 ha1
  have htb := S1.out.ctemp b hb0 hb1
  go_quiet (fail)
  go_wp2
  go_quiet (fail)
  have hcd := S1.out.ctemp d hd0 hd1
  have hfd := S1.out.frozen d.toNat
  go_wp2
  go_region_held3 (fun w' => w'.cell? ⟨bb, 0, none⟩ = some (.pointer (some ⟨g, 0, none⟩)) ∧ w'.cell? ⟨bx, 1, none⟩ = some (.int .i64 d) ∧ w'.cell? ⟨bx, 6, none⟩ = some (.int .i64 kk))
    (first | go_keep | exact ⟨(cell_far hgb _).trans hcr, (cell_far hgx _).trans x1, (cell_far hgx _).trans x6⟩)
    (fail)
  go_wp2
  go_ret2
  exact ⟨rfl, ⟨_, _, _, by exact (S1.out.drewN _).put_temp d hd0 hd1 _⟩, kb_none (kb_then HK.out (KeepBut.set_ (keep_drewN (KeepBut.refl _ _ _) _) _ _))⟩
set_option maxHeartbeats 4000000 in
set_option maxRecDepth 100000 in
theorem do_4 {w W : World} {g : Nat} {T : List Int} {Aa : Option Addr} {ca : Nat} {ans : List Int} {vt : Value} {acts : List S47} (S : Rn w W g T Aa ca ans vt acts) (i d a b loc len kk tt : Int) (hi : 0 ≤ i) (hi' : i ≤ 1000) (hl : acts.length ≤ 1000)
    (hd0 : 0 ≤ d) (hd1 : d < 400) (ha0 : 0 ≤ a) (ha1 : a < 400) (hb0 : 0 ≤ b) (hb1 : b < 400) :
    Calls Try.prog 39 #[.pointer (some ⟨g, 0, none⟩), .int .i64 i, aIns ⟨4, d, a, b, loc, len, kk, tt⟩] W (DoPost w W g vt (i + 1) 0 (T.set d.toNat (wrap64 (rd T a * rd T b))) ans acts) := by
  have e1 : wrap64 (i + 1) = i + 1 := wrap_of (by omega) (by omega)
  have KB : Aside0 (((W.alloc (.cells #[.pointer (some ⟨g, 0, none⟩)] 72)).alloc (.cells #[.int .i64 4, .int .i64 d, .int .i64 a, .int .i64 b, .int .i64 loc, .int .i64 len, .int .i64 kk, .int .i64 tt] 40)).heap[W.heap.size]? = some (.cells #[.pointer (some ⟨g, 0, none⟩)] 72 (0, 0))) := ⟨blk_alloc (blk_new _ _) _⟩
  have KX : Aside0 (((W.alloc (.cells #[.pointer (some ⟨g, 0, none⟩)] 72)).alloc (.cells #[.int .i64 4, .int .i64 d, .int .i64 a, .int .i64 b, .int .i64 loc, .int .i64 len, .int .i64 kk, .int .i64 tt] 40)).heap[W.heap.size + 1]? = some (.cells #[.int .i64 4, .int .i64 d, .int .i64 a, .int .i64 b, .int .i64 loc, .int .i64 len, .int .i64 kk, .int .i64 tt] 40 (0, 0))) := ⟨by have h_ := blk_new (W.alloc (.cells #[.pointer (some ⟨g, 0, none⟩)] 72)) (.cells #[.int .i64 4, .int .i64 d, .int .i64 a, .int .i64 b, .int .i64 loc, .int .i64 len, .int .i64 kk, .int .i64 tt] 40); simpa using h_⟩
  have S1 := Aside0.mk ((S.alloc (.cells #[.pointer (some ⟨g, 0, none⟩)] 72)).alloc (.cells #[.int .i64 4, .int .i64 d, .int .i64 a, .int .i64 b, .int .i64 loc, .int .i64 len, .int .i64 kk, .int .i64 tt] 40))
  have HK : Aside0 (KeepBut W ((W.alloc (.cells #[.pointer (some ⟨g, 0, none⟩)] 72)).alloc (.cells #[.int .i64 4, .int .i64 d, .int .i64 a, .int .i64 b, .int .i64 loc, .int .i64 len, .int .i64 kk, .int .i64 tt] 40)) g none) := ⟨keep_alloc (keep_alloc (KeepBut.refl _ _ _) _) _⟩
  have hgb : ¬ W.heap.size = g := by have := S.lt; omega
  have hgx : ¬ W.heap.size + 1 = g := by have := S.lt; omega
  clear S
  unfold aIns
  dsimp only
  go_enter Try.func39, Try.ntmps39
  go_wp2_with fail
  generalize hW1 : ((W.alloc (.cells #[.pointer (some ⟨g, 0, none⟩)] 72)).alloc (.cells #[.int .i64 4, .int .i64 d, .int .i64 a, .int .i64 b, .int .i64 loc, .int .i64 len, .int .i64 kk, .int .i64 tt] 40)) = W1 at KB KX S1 HK ⊢
  clear hW1
  generalize W.heap.size + 1 = bx at KX hgx ⊢
  generalize W.heap.size = bb at KB hgb ⊢
  have hcr := blk_cell KB.out 0
  have x0 := blk_cell KX.out 0
  have x1 := blk_cell KX.out 1
  have x2 := blk_cell KX.out 2
  have x3 := blk_cell KX.out 3
  have x4 := blk_cell KX.out 4
  have x5 := blk_cell KX.out 5
  have x6 := blk_cell KX.out 6
  have x7 := blk_cell KX.out 7
  have hta := S1.out.ctemp a ha0 ha1
  have htb := S1.out.ctemp b hb0 hb1
  go_quiet (fail)
  go_wp2
  go_quiet (fail)
  have hcd := S1.out.ctemp d hd0 hd1
  have hfd := S1.out.frozen d.toNat
  go_wp2
  go_region_held3 (fun w' => w'.cell? ⟨bb, 0, none⟩ = some (.pointer (some ⟨g, 0, none⟩)) ∧ w'.cell? ⟨bx, 1, none⟩ = some (.int .i64 d))
    (first | go_keep | exact ⟨(cell_far hgb _).trans hcr, (cell_far hgx _).trans x1⟩)
    (fail)
  go_wp2
  go_ret2
  exact ⟨rfl, ⟨_, _, _, by rw [← IntWalk.i64_left]; exact (S1.out.drewN _).put_temp d hd0 hd1 _⟩, kb_none (kb_then HK.out (KeepBut.set_ (keep_drewN (KeepBut.refl _ _ _) _) _ _))⟩
set_option maxHeartbeats 4000000 in
set_option maxRecDepth 100000 in
theorem do_6n {w W : World} {g : Nat} {T : List Int} {Aa : Option Addr} {ca : Nat} {vt : Value} {acts : List S47} (S : Rn w W g T Aa ca [] vt acts) (i d a b loc len kk tt : Int) (hi : 0 ≤ i) (hi' : i ≤ 1000) (hl : acts.length ≤ 1000)
    (hd0 : 0 ≤ d) (hd1 : d < 400) (ha0 : 0 ≤ a) (ha1 : a < 400) (hb0 : 0 ≤ b) (hb1 : b < 400) :
    Calls Try.prog 39 #[.pointer (some ⟨g, 0, none⟩), .int .i64 i, aIns ⟨6, d, a, b, loc, len, kk, tt⟩] W (DoPost w W g vt 0 4 T [] acts) := by
  have e1 : wrap64 (i + 1) = i + 1 := wrap_of (by omega) (by omega)
  have KB : Aside0 (((W.alloc (.cells #[.pointer (some ⟨g, 0, none⟩)] 72)).alloc (.cells #[.int .i64 6, .int .i64 d, .int .i64 a, .int .i64 b, .int .i64 loc, .int .i64 len, .int .i64 kk, .int .i64 tt] 40)).heap[W.heap.size]? = some (.cells #[.pointer (some ⟨g, 0, none⟩)] 72 (0, 0))) := ⟨blk_alloc (blk_new _ _) _⟩
  have KX : Aside0 (((W.alloc (.cells #[.pointer (some ⟨g, 0, none⟩)] 72)).alloc (.cells #[.int .i64 6, .int .i64 d, .int .i64 a, .int .i64 b, .int .i64 loc, .int .i64 len, .int .i64 kk, .int .i64 tt] 40)).heap[W.heap.size + 1]? = some (.cells #[.int .i64 6, .int .i64 d, .int .i64 a, .int .i64 b, .int .i64 loc, .int .i64 len, .int .i64 kk, .int .i64 tt] 40 (0, 0))) := ⟨by have h_ := blk_new (W.alloc (.cells #[.pointer (some ⟨g, 0, none⟩)] 72)) (.cells #[.int .i64 6, .int .i64 d, .int .i64 a, .int .i64 b, .int .i64 loc, .int .i64 len, .int .i64 kk, .int .i64 tt] 40); simpa using h_⟩
  have S1 := Aside0.mk ((S.alloc (.cells #[.pointer (some ⟨g, 0, none⟩)] 72)).alloc (.cells #[.int .i64 6, .int .i64 d, .int .i64 a, .int .i64 b, .int .i64 loc, .int .i64 len, .int .i64 kk, .int .i64 tt] 40))
  have HK : Aside0 (KeepBut W ((W.alloc (.cells #[.pointer (some ⟨g, 0, none⟩)] 72)).alloc (.cells #[.int .i64 6, .int .i64 d, .int .i64 a, .int .i64 b, .int .i64 loc, .int .i64 len, .int .i64 kk, .int .i64 tt] 40)) g none) := ⟨keep_alloc (keep_alloc (KeepBut.refl _ _ _) _) _⟩
  have hgb : ¬ W.heap.size = g := by have := S.lt; omega
  have hgx : ¬ W.heap.size + 1 = g := by have := S.lt; omega
  clear S
  unfold aIns
  dsimp only
  go_enter Try.func39, Try.ntmps39
  go_wp2_with fail
  generalize hW1 : ((W.alloc (.cells #[.pointer (some ⟨g, 0, none⟩)] 72)).alloc (.cells #[.int .i64 6, .int .i64 d, .int .i64 a, .int .i64 b, .int .i64 loc, .int .i64 len, .int .i64 kk, .int .i64 tt] 40)) = W1 at KB KX S1 HK ⊢
  clear hW1
  generalize W.heap.size + 1 = bx at KX hgx ⊢
  generalize W.heap.size = bb at KB hgb ⊢
  have hcr := blk_cell KB.out 0
  have x0 := blk_cell KX.out 0
  have x1 := blk_cell KX.out 1
  have x2 := blk_cell KX.out 2
  have x3 := blk_cell KX.out 3
  have x4 := blk_cell KX.out 4
  have x5 := blk_cell KX.out 5
  have x6 := blk_cell KX.out 6
  have x7 := blk_cell KX.out 7
  have hta := S1.out.ctemp a ha0 ha1
  have htb := S1.out.ctemp b hb0 hb1
  go_quiet (fail)
  go_wp2
  go_quiet (fail)
  go_wp2_with (go_at_call 49; refine (ask_nil (S1.out.drewN _) ⟨6, d, a, b, loc, len, kk, tt⟩ 1 loc).mono ?_; rintro e w2 ⟨rfl, hs, hk⟩; have S2 := Aside0.mk hs; have HK2 := Aside0.mk hk; clear hs hk)
  go_ret2
  exact ⟨rfl, ⟨_, _, _, S2.out⟩, kb_none (kb_then HK.out (kb_then (keep_drewN (KeepBut.refl _ _ _) _) HK2.out))⟩
set_option maxHeartbeats 4000000 in
set_option maxRecDepth 100000 in
theorem do_8 {w W : World} {g : Nat} {T : List Int} {Aa : Option Addr} {ca : Nat} {n : Int} {ans : List Int} {vt : Value} {acts : List S47} (S : Rn w W g T Aa ca (n :: ans) vt acts) (i d a b loc len kk tt : Int) (hi : 0 ≤ i) (hi' : i ≤ 1000) (hl : acts.length ≤ 1000)
    (hd0 : 0 ≤ d) (hd1 : d < 400) (ha0 : 0 ≤ a) (ha1 : a < 400) (hb0 : 0 ≤ b) (hb1 : b < 400) :
    Calls Try.prog 39 #[.pointer (some ⟨g, 0, none⟩), .int .i64 i, aIns ⟨8, d, a, b, loc, len, kk, tt⟩] W (DoPost w W g vt (i + 1) 0 (T.set d.toNat n) ans (acts ++ [⟨3, loc, n, 0⟩])) := by
  have e1 : wrap64 (i + 1) = i + 1 := wrap_of (by omega) (by omega)
  have KB : Aside0 (((W.alloc (.cells #[.pointer (some ⟨g, 0, none⟩)] 72)).alloc (.cells #[.int .i64 8, .int .i64 d, .int .i64 a, .int .i64 b, .int .i64 loc, .int .i64 len, .int .i64 kk, .int .i64 tt] 40)).heap[W.heap.size]? = some (.cells #[.pointer (some ⟨g, 0, none⟩)] 72 (0, 0))) := ⟨blk_alloc (blk_new _ _) _⟩
  have KX : Aside0 (((W.alloc (.cells #[.pointer (some ⟨g, 0, none⟩)] 72)).alloc (.cells #[.int .i64 8, .int .i64 d, .int .i64 a, .int .i64 b, .int .i64 loc, .int .i64 len, .int .i64 kk, .int .i64 tt] 40)).heap[W.heap.size + 1]? = some (.cells #[.int .i64 8, .int .i64 d, .int .i64 a, .int .i64 b, .int .i64 loc, .int .i64 len, .int .i64 kk, .int .i64 tt] 40 (0, 0))) := ⟨by have h_ := blk_new (W.alloc (.cells #[.pointer (some ⟨g, 0, none⟩)] 72)) (.cells #[.int .i64 8, .int .i64 d, .int .i64 a, .int .i64 b, .int .i64 loc, .int .i64 len, .int .i64 kk, .int .i64 tt] 40); simpa using h_⟩
  have S1 := Aside0.mk ((S.alloc (.cells #[.pointer (some ⟨g, 0, none⟩)] 72)).alloc (.cells #[.int .i64 8, .int .i64 d, .int .i64 a, .int .i64 b, .int .i64 loc, .int .i64 len, .int .i64 kk, .int .i64 tt] 40))
  have HK : Aside0 (KeepBut W ((W.alloc (.cells #[.pointer (some ⟨g, 0, none⟩)] 72)).alloc (.cells #[.int .i64 8, .int .i64 d, .int .i64 a, .int .i64 b, .int .i64 loc, .int .i64 len, .int .i64 kk, .int .i64 tt] 40)) g none) := ⟨keep_alloc (keep_alloc (KeepBut.refl _ _ _) _) _⟩
  have hgb : ¬ W.heap.size = g := by have := S.lt; omega
  have hgx : ¬ W.heap.size + 1 = g := by have := S.lt; omega
  clear S
  unfold aIns
  dsimp only
  go_enter Try.func39, Try.ntmps39
  go_wp2_with fail
  generalize hW1 : ((W.alloc (.cells #[.pointer (some ⟨g, 0, none⟩)] 72)).alloc (.cells #[.int .i64 8, .int .i64 d, .int .i64 a, .int .i64 b, .int .i64 loc, .int .i64 len, .int .i64 kk, .int .i64 tt] 40)) = W1 at KB KX S1 HK ⊢
  clear hW1
  generalize W.heap.size + 1 = bx at KX hgx ⊢
  generalize W.heap.size = bb at KB hgb ⊢
  have hcr := blk_cell KB.out 0
  have x0 := blk_cell KX.out 0
  have x1 := blk_cell KX.out 1
  have x2 := blk_cell KX.out 2
  have x3 := blk_cell KX.out 3
  have x4 := blk_cell KX.out 4
  have x5 := blk_cell KX.out 5
  have x6 := blk_cell KX.out 6
  have x7 := blk_cell KX.out 7
  have hta := S1.out.ctemp a ha0 ha1
  have htb := S1.out.ctemp b hb0 hb1
  go_quiet (fail)
  go_wp2
  go_quiet (fail)
  go_wp2_with (go_at_call 49; refine (ask_plain (S1.out.drewN _) ⟨8, d, a, b, loc, len, kk, tt⟩ 3 loc (show (8 : Int) ≠ 10 by decide) (show (8 : Int) ≠ 11 by decide) hd0 hd1 hl).mono ?_; rintro e w2 ⟨rfl, hs, hk⟩; have S2 := Aside0.mk hs; have HK2 := Aside0.mk hk; clear hs hk)
  go_ret2
  obtain ⟨Ab, v1, hs⟩ := S2.out
  exact ⟨rfl, ⟨_, _, _, hs⟩, kb_then HK.out (kb_then (keep_drewN (KeepBut.refl _ _ _) _) HK2.out)⟩
set_option maxHeartbeats 4000000 in
set_option maxRecDepth 100000 in
theorem do_11n {w W : World} {g : Nat} {T : List Int} {Aa : Option Addr} {ca : Nat} {vt : Value} {acts : List S47} (S : Rn w W g T Aa ca [] vt acts) (i d a b loc len kk tt : Int) (hi : 0 ≤ i) (hi' : i ≤ 1000) (hl : acts.length ≤ 1000)
    (hd0 : 0 ≤ d) (hd1 : d < 400) (ha0 : 0 ≤ a) (ha1 : a < 400) (hb0 : 0 ≤ b) (hb1 : b < 400) :
    Calls Try.prog 39 #[.pointer (some ⟨g, 0, none⟩), .int .i64 i, aIns ⟨11, d, a, b, loc, len, kk, tt⟩] W (DoPost w W g vt 0 4 T [] acts) := by
  have e1 : wrap64 (i + 1) = i + 1 := wrap_of (by omega) (by omega)
  have KB : Aside0 (((W.alloc (.cells #[.pointer (some ⟨g, 0, none⟩)] 72)).alloc (.cells #[.int .i64 11, .int .i64 d, .int .i64 a, .int .i64 b, .int .i64 loc, .int .i64 len, .int .i64 kk, .int .i64 tt] 40)).heap[W.heap.size]? = some (.cells #[.pointer (some ⟨g, 0, none⟩)] 72 (0, 0))) := ⟨blk_alloc (blk_new _ _) _⟩
  have KX : Aside0 (((W.alloc (.cells #[.pointer (some ⟨g, 0, none⟩)] 72)).alloc (.cells #[.int .i64 11, .int .i64 d, .int .i64 a, .int .i64 b, .int .i64 loc, .int .i64 len, .int .i64 kk, .int .i64 tt] 40)).heap[W.heap.size + 1]? = some (.cells #[.int .i64 11, .int .i64 d, .int .i64 a, .int .i64 b, .int .i64 loc, .int .i64 len, .int .i64 kk, .int .i64 tt] 40 (0, 0))) := ⟨by have h_ := blk_new (W.alloc (.cells #[.pointer (some ⟨g, 0, none⟩)] 72)) (.cells #[.int .i64 11, .int .i64 d, .int .i64 a, .int .i64 b, .int .i64 loc, .int .i64 len, .int .i64 kk, .int .i64 tt] 40); simpa using h_⟩
  have S1 := Aside0.mk ((S.alloc (.cells #[.pointer (some ⟨g, 0, none⟩)] 72)).alloc (.cells #[.int .i64 11, .int .i64 d, .int .i64 a, .int .i64 b, .int .i64 loc, .int .i64 len, .int .i64 kk, .int .i64 tt] 40))
  have HK : Aside0 (KeepBut W ((W.alloc (.cells #[.pointer (some ⟨g, 0, none⟩)] 72)).alloc (.cells #[.int .i64 11, .int .i64 d, .int .i64 a, .int .i64 b, .int .i64 loc, .int .i64 len, .int .i64 kk, .int .i64 tt] 40)) g none) := ⟨keep_alloc (keep_alloc (KeepBut.refl _ _ _) _) _⟩
  have hgb : ¬ W.heap.size = g := by have := S.lt; omega
  have hgx : ¬ W.heap.size + 1 = g := by have := S.lt; omega
  clear S
  unfold aIns
  dsimp only
  go_enter Try.func39, Try.ntmps39
  go_wp2_with fail
  generalize hW1 : ((W.alloc (.cells #[.pointer (some ⟨g, 0, none⟩)] 72)).alloc (.cells #[.int .i64 11, .int .i64 d, .int .i64 a, .int .i64 b, .int .i64 loc, .int .i64 len, .int .i64 kk, .int .i64 tt] 40)) = W1 at KB KX S1 HK ⊢
  clear hW1
  generalize W.heap.size + 1 = bx at KX hgx ⊢
  generalize W.heap.size = bb at KB hgb ⊢
  have hcr := blk_cell KB.out 0
  have x0 := blk_cell KX.out 0
  have x1 := blk_cell KX.out 1
  have x2 := blk_cell KX.out 2
  have x3 := blk_cell KX.out 3
  have x4 := blk_cell KX.out 4
  have x5 := blk_cell KX.out 5
  have x6 := blk_cell KX.out 6
  have x7 := blk_cell KX.out 7
  have hta := S1.out.ctemp a ha0 ha1
  have htb := S1.out.ctemp b hb0 hb1
  go_quiet (fail)
  go_wp2
  go_quiet (fail)
  go_wp2_with (go_at_call 49; refine (ask_nil (S1.out.drewN _) ⟨11, d, a, b, loc, len, kk, tt⟩ 5 loc).mono ?_; rintro e w2 ⟨rfl, hs, hk⟩; have S2 := Aside0.mk hs; have HK2 := Aside0.mk hk; clear hs hk)
  go_ret2
  exact ⟨rfl, ⟨_, _, _, S2.out⟩, kb_none (kb_then HK.out (kb_then (keep_drewN (KeepBut.refl _ _ _) _) HK2.out))⟩
set_option maxHeartbeats 4000000 in
set_option maxRecDepth 100000 in
theorem do_9 {w W : World} {g : Nat} {T : List Int} {Aa : Option Addr} {ca : Nat} {ans : List Int} {vt : Value} {acts : List S47} (S : Rn w W g T Aa ca ans vt acts) (i d a b loc len kk tt : Int) (hi : 0 ≤ i) (hi' : i ≤ 1000) (hl : acts.length ≤ 1000)
    (hd0 : 0 ≤ d) (hd1 : d < 400) (ha0 : 0 ≤ a) (ha1 : a < 400) (hb0 : 0 ≤ b) (hb1 : b < 400) :
    Calls Try.prog 39 #[.pointer (some ⟨g, 0, none⟩), .int .i64 i, aIns ⟨9, d, a, b, loc, len, kk, tt⟩] W (DoPost w W g vt (i + 1) 0 T ans (acts ++ [⟨4, loc, 0, rd T a⟩])) := by
  have e1 : wrap64 (i + 1) = i + 1 := wrap_of (by omega) (by omega)
  have KB : Aside0 (((W.alloc (.cells #[.pointer (some ⟨g, 0, none⟩)] 72)).alloc (.cells #[.int .i64 9, .int .i64 d, .int .i64 a, .int .i64 b, .int .i64 loc, .int .i64 len, .int .i64 kk, .int .i64 tt] 40)).heap[W.heap.size]? = some (.cells #[.pointer (some ⟨g, 0, none⟩)] 72 (0, 0))) := ⟨blk_alloc (blk_new _ _) _⟩
  have KX : Aside0 (((W.alloc (.cells #[.pointer (some ⟨g, 0, none⟩)] 72)).alloc (.cells #[.int .i64 9, .int .i64 d, .int .i64 a, .int .i64 b, .int .i64 loc, .int .i64 len, .int .i64 kk, .int .i64 tt] 40)).heap[W.heap.size + 1]? = some (.cells #[.int .i64 9, .int .i64 d, .int .i64 a, .int .i64 b, .int .i64 loc, .int .i64 len, .int .i64 kk, .int .i64 tt] 40 (0, 0))) := ⟨by have h_ := blk_new (W.alloc (.cells #[.pointer (some ⟨g, 0, none⟩)] 72)) (.cells #[.int .i64 9, .int .i64 d, .int .i64 a, .int .i64 b, .int .i64 loc, .int .i64 len, .int .i64 kk, .int .i64 tt] 40); simpa using h_⟩
  have S1 := Aside0.mk ((S.alloc (.cells #[.pointer (some ⟨g, 0, none⟩)] 72)).alloc (.cells #[.int .i64 9, .int .i64 d, .int .i64 a, .int .i64 b, .int .i64 loc, .int .i64 len, .int .i64 kk, .int .i64 tt] 40))
  have HK : Aside0 (KeepBut W ((W.alloc (.cells #[.pointer (some ⟨g, 0, none⟩)] 72)).alloc (.cells #[.int .i64 9, .int .i64 d, .int .i64 a, .int .i64 b, .int .i64 loc, .int .i64 len, .int .i64 kk, .int .i64 tt] 40)) g none) := ⟨keep_alloc (keep_alloc (KeepBut.refl _ _ _) _) _⟩
  have hgb : ¬ W.heap.size = g := by have := S.lt; omega
  have hgx : ¬ W.heap.size + 1 = g := by have := S.lt; omega
  clear S
  unfold aIns
  dsimp only
  go_enter Try.func39, Try.ntmps39
  go_wp2_with fail
  generalize hW1 : ((W.alloc (.cells #[.pointer (some ⟨g, 0, none⟩)] 72)).alloc (.cells #[.int .i64 9, .int .i64 d, .int .i64 a, .int .i64 b, .int .i64 loc, .int .i64 len, .int .i64 kk, .int .i64 tt] 40)) = W1 at KB KX S1 HK ⊢
  clear hW1
  generalize W.heap.size + 1 = bx at KX hgx ⊢
  generalize W.heap.size = bb at KB hgb ⊢
  have hcr := blk_cell KB.out 0
  have x0 := blk_cell KX.out 0
  have x1 := blk_cell KX.out 1
  have x2 := blk_cell KX.out 2
  have x3 := blk_cell KX.out 3
  have x4 := blk_cell KX.out 4
  have x5 := blk_cell KX.out 5
  have x6 := blk_cell KX.out 6
  have x7 := blk_cell KX.out 7
  have hta := S1.out.ctemp a ha0 ha1
  have htb := S1.out.ctemp b hb0 hb1
  go_quiet (fail)
  go_wp2
  go_quiet (fail)
  go_wp2_with (go_at_call 47; refine (write_any (S1.out.drewN _) (blk_drewN KB.out _) 4 (loc) (rd T a) hl).mono ?_; rintro e w2 ⟨rfl, v1, hs, hk⟩; have S2 := Aside0.mk hs; have HK2 := Aside0.mk hk; clear hs hk)
  go_ret2
  exact ⟨rfl, ⟨_, _, _, S2.out⟩, kb_then HK.out (kb_then (keep_drewN (KeepBut.refl _ _ _) _) HK2.out)⟩
set_option maxHeartbeats 4000000 in
set_option maxRecDepth 100000 in
theorem do_13n {w W : World} {g : Nat} {T : List Int} {Aa : Option Addr} {ca : Nat} {vt : Value} {acts : List S47} (S : Rn w W g T Aa ca [] vt acts) (i d a b loc len kk tt : Int) (hi : 0 ≤ i) (hi' : i ≤ 1000) (hl : acts.length ≤ 1000)
    (hd0 : 0 ≤ d) (hd1 : d < 400) (ha0 : 0 ≤ a) (ha1 : a < 400) (hb0 : 0 ≤ b) (hb1 : b < 400) (hr0 : 0 ≤ rd T a) (hr1 : rd T a < len) :
    Calls Try.prog 39 #[.pointer (some ⟨g, 0, none⟩), .int .i64 i, aIns ⟨13, d, a, b, loc, len, kk, tt⟩] W (DoPost w W g vt 0 4 T [] acts) := by
  have e1 : wrap64 (i + 1) = i + 1 := wrap_of (by omega) (by omega)
  have c1 : decide (rd T a < 0) = false := decide_eq_false (by omega)
  have c2 : decide (len ≤ rd T a) = false := decide_eq_false (by omega)
  have KB : Aside0 (((W.alloc (.cells #[.pointer (some ⟨g, 0, none⟩)] 72)).alloc (.cells #[.int .i64 13, .int .i64 d, .int .i64 a, .int .i64 b, .int .i64 loc, .int .i64 len, .int .i64 kk, .int .i64 tt] 40)).heap[W.heap.size]? = some (.cells #[.pointer (some ⟨g, 0, none⟩)] 72 (0, 0))) := ⟨blk_alloc (blk_new _ _) _⟩
  have KX : Aside0 (((W.alloc (.cells #[.pointer (some ⟨g, 0, none⟩)] 72)).alloc (.cells #[.int .i64 13, .int .i64 d, .int .i64 a, .int .i64 b, .int .i64 loc, .int .i64 len, .int .i64 kk, .int .i64 tt] 40)).heap[W.heap.size + 1]? = some (.cells #[.int .i64 13, .int .i64 d, .int .i64 a, .int .i64 b, .int .i64 loc, .int .i64 len, .int .i64 kk, .int .i64 tt] 40 (0, 0))) := ⟨by have h_ := blk_new (W.alloc (.cells #[.pointer (some ⟨g, 0, none⟩)] 72)) (.cells #[.int .i64 13, .int .i64 d, .int .i64 a, .int .i64 b, .int .i64 loc, .int .i64 len, .int .i64 kk, .int .i64 tt] 40); simpa using h_⟩
  have S1 := Aside0.mk ((S.alloc (.cells #[.pointer (some ⟨g, 0, none⟩)] 72)).alloc (.cells #[.int .i64 13, .int .i64 d, .int .i64 a, .int .i64 b, .int .i64 loc, .int .i64 len, .int .i64 kk, .int .i64 tt] 40))
  have HK : Aside0 (KeepBut W ((W.alloc (.cells #[.pointer (some ⟨g, 0, none⟩)] 72)).alloc (.cells #[.int .i64 13, .int .i64 d, .int .i64 a, .int .i64 b, .int .i64 loc, .int .i64 len, .int .i64 kk, .int .i64 tt] 40)) g none) := ⟨keep_alloc (keep_alloc (KeepBut.refl _ _ _) _) _⟩
  have hgb : ¬ W.heap.size = g := by have := S.lt; omega
  have hgx : ¬ W.heap.size + 1 = g := by have := S.lt; omega
  clear S
  unfold aIns
  dsimp only
  go_enter Try.func39, Try.ntmps39
  go_wp2_with fail
  generalize hW1 : ((W.alloc (.cells #[.pointer (some ⟨g, 0, none⟩)] 72)).alloc (.cells #[.int .i64 13, .int .i64 d, .int .i64 a, .int .i64 b, .int .i64 loc, .int .i64 len, .int .i64 kk, .int .i64 tt] 40)) = W1 at KB KX S1 HK ⊢
  clear hW1
  generalize W.heap.size + 1 = bx at KX hgx ⊢
  generalize W.heap.size = bb at KB hgb ⊢
  have hcr := blk_cell KB.out 0
  have x0 := blk_cell KX.out 0
  have x1 := blk_cell KX.out 1
  have x2 := blk_cell KX.out 2
  have x3 := blk_cell KX.out 3
  have x4 := blk_cell KX.out 4
  have x5 := blk_cell KX.out 5
  have x6 := blk_cell KX.out 6
  have x7 := blk_cell KX.out 7
  have hta := S1.out.ctemp a ha0 ha1
  have htb := S1.out.ctemp b hb0 hb1
  go_quiet (fail)
  go_wp2
  go_quiet (fail)
  go_wp2_with (go_at_call 49; refine (ask_nil (S1.out.drewN _) ⟨13, d, a, b, loc, len, kk, tt⟩ 1 (wrap64 (loc + rd T a))).mono ?_; rintro e w2 ⟨rfl, hs, hk⟩; have S2 := Aside0.mk hs; have HK2 := Aside0.mk hk; clear hs hk)
  go_ret2
  exact ⟨rfl, ⟨_, _, _, S2.out⟩, kb_none (kb_then HK.out (kb_then (keep_drewN (KeepBut.refl _ _ _) _) HK2.out))⟩
set_option maxHeartbeats 4000000 in
set_option maxRecDepth 100000 in
theorem do_13h {w W : World} {g : Nat} {T : List Int} {Aa : Option Addr} {ca : Nat} {ans : List Int} {vt : Value} {acts : List S47} (S : Rn w W g T Aa ca ans vt acts) (i d a b loc len kk tt : Int) (hi : 0 ≤ i) (hi' : i ≤ 1000) (hl : acts.length ≤ 1000)
    (hd0 : 0 ≤ d) (hd1 : d < 400) (ha0 : 0 ≤ a) (ha1 : a < 400) (hb0 : 0 ≤ b) (hb1 : b < 400) (hr0 : 0 ≤ rd T a) (hr1 : len ≤ rd T a) :
    Calls Try.prog 39 #[.pointer (some ⟨g, 0, none⟩), .int .i64 i, aIns ⟨13, d, a, b, loc, len, kk, tt⟩] W (DoPost w W g vt 0 3 T ans acts) := by
  have e1 : wrap64 (i + 1) = i + 1 := wrap_of (by omega) (by omega)
  have c1 : decide (rd T a < 0) = false := decide_eq_false (by omega)
  have c2 : decide (len ≤ rd T a) = true := decide_eq_true hr1
  have KB : Aside0 (((W.alloc (.cells #[.pointer (some ⟨g, 0, none⟩)] 72)).alloc (.cells #[.int .i64 13, .int .i64 d, .int .i64 a, .int .i64 b, .int .i64 loc, .int .i64 len, .int .i64 kk, .int .i64 tt] 40)).heap[W.heap.size]? = some (.cells #[.pointer (some ⟨g, 0, none⟩)] 72 (0, 0))) := ⟨blk_alloc (blk_new _ _) _⟩
  have KX : Aside0 (((W.alloc (.cells #[.pointer (some ⟨g, 0, none⟩)] 72)).alloc (.cells #[.int .i64 13, .int .i64 d, .int .i64 a, .int .i64 b, .int .i64 loc, .int .i64 len, .int .i64 kk, .int .i64 tt] 40)).heap[W.heap.size + 1]? = some (.cells #[.int .i64 13, .int .i64 d, .int .i64 a, .int .i64 b, .int .i64 loc, .int .i64 len, .int .i64 kk, .int .i64 tt] 40 (0, 0))) := ⟨by have h_ := blk_new (W.alloc (.cells #[.pointer (some ⟨g, 0, none⟩)] 72)) (.cells #[.int .i64 13, .int .i64 d, .int .i64 a, .int .i64 b, .int .i64 loc, .int .i64 len, .int .i64 kk, .int .i64 tt] 40); simpa using h_⟩
  have S1 := Aside0.mk ((S.alloc (.cells #[.pointer (some ⟨g, 0, none⟩)] 72)).alloc (.cells #[.int .i64 13, .int .i64 d, .int .i64 a, .int .i64 b, .int .i64 loc, .int .i64 len, .int .i64 kk, .int .i64 tt] 40))
  have HK : Aside0 (KeepBut W ((W.alloc (.cells #[.pointer (some ⟨g, 0, none⟩)] 72)).alloc (.cells #[.int .i64 13, .int .i64 d, .int .i64 a, .int .i64 b, .int .i64 loc, .int .i64 len, .int .i64 kk, .int .i64 tt] 40)) g none) := ⟨keep_alloc (keep_alloc (KeepBut.refl _ _ _) _) _⟩
  have hgb : ¬ W.heap.size = g := by have := S.lt; omega
  have hgx : ¬ W.heap.size + 1 = g := by have := S.lt; omega
  clear S
  unfold aIns
  dsimp only
  go_enter Try.func39, Try.ntmps39
  go_wp2_with fail
  generalize hW1 : ((W.alloc (.cells #[.pointer (some ⟨g, 0, none⟩)] 72)).alloc (.cells #[.int .i64 13, .int .i64 d, .int .i64 a, .int .i64 b, .int .i64 loc, .int .i64 len, .int .i64 kk, .int .i64 tt] 40)) = W1 at KB KX S1 HK ⊢
  clear hW1
  generalize W.heap.size + 1 = bx at KX hgx ⊢
  generalize W.heap.size = bb at KB hgb ⊢
  have hcr := blk_cell KB.out 0
  have x0 := blk_cell KX.out 0
  have x1 := blk_cell KX.out 1
  have x2 := blk_cell KX.out 2
  have x3 := blk_cell KX.out 3
  have x4 := blk_cell KX.out 4
  have x5 := blk_cell KX.out 5
  have x6 := blk_cell KX.out 6
  have x7 := blk_cell KX.out 7
  have hta := S1.out.ctemp a ha0 ha1
  have htb := S1.out.ctemp b hb0 hb1
  go_quiet (fail)
  go_wp2
  go_quiet (fail)
  go_wp2
  go_ret2
  exact ⟨rfl, ⟨_, _, _, S1.out.drewN _⟩, kb_none (kb_then HK.out (keep_drewN (KeepBut.refl _ _ _) _))⟩
set_option maxHeartbeats 4000000 in
set_option maxRecDepth 100000 in
theorem do_16t {w W : World} {g : Nat} {T : List Int} {Aa : Option Addr} {ca : Nat} {ans : List Int} {vt : Value} {acts : List S47} (S : Rn w W g T Aa ca ans vt acts) (i d a b loc len kk tt : Int) (hi : 0 ≤ i) (hi' : i ≤ 1000) (hl : acts.length ≤ 1000)
    (hd0 : 0 ≤ d) (hd1 : d < 400) (ha0 : 0 ≤ a) (ha1 : a < 400) (hb0 : 0 ≤ b) (hb1 : b < 400) (hr : rd T b ≤ rd T a) :
    Calls Try.prog 39 #[.pointer (some ⟨g, 0, none⟩), .int .i64 i, aIns ⟨16, d, a, b, loc, len, kk, tt⟩] W (DoPost w W g vt tt 0 T ans acts) := by
  have e1 : wrap64 (i + 1) = i + 1 := wrap_of (by omega) (by omega)
  have c1 : decide (rd T b ≤ rd T a) = true := decide_eq_true hr
  clear hr
  have KB : Aside0 (((W.alloc (.cells #[.pointer (some ⟨g, 0, none⟩)] 72)).alloc (.cells #[.int .i64 16, .int .i64 d, .int .i64 a, .int .i64 b, .int .i64 loc, .int .i64 len, .int .i64 kk, .int .i64 tt] 40)).heap[W.heap.size]? = some (.cells #[.pointer (some ⟨g, 0, none⟩)] 72 (0, 0))) := ⟨blk_alloc (blk_new _ _) _⟩
  have KX : Aside0 (((W.alloc (.cells #[.pointer (some ⟨g, 0, none⟩)] 72)).alloc (.cells #[.int .i64 16, .int .i64 d, .int .i64 a, .int .i64 b, .int .i64 loc, .int .i64 len, .int .i64 kk, .int .i64 tt] 40)).heap[W.heap.size + 1]? = some (.cells #[.int .i64 16, .int .i64 d, .int .i64 a, .int .i64 b, .int .i64 loc, .int .i64 len, .int .i64 kk, .int .i64 tt] 40 (0, 0))) := ⟨by have h_ := blk_new (W.alloc (.cells #[.pointer (some ⟨g, 0, none⟩)] 72)) (.cells #[.int .i64 16, .int .i64 d, .int .i64 a, .int .i64 b, .int .i64 loc, .int .i64 len, .int .i64 kk, .int .i64 tt] 40); simpa using h_⟩
  have S1 := Aside0.mk ((S.alloc (.cells #[.pointer (some ⟨g, 0, none⟩)] 72)).alloc (.cells #[.int .i64 16, .int .i64 d, .int .i64 a, .int .i64 b, .int .i64 loc, .int .i64 len, .int .i64 kk, .int .i64 tt] 40))
  have HK : Aside0 (KeepBut W ((W.alloc (.cells #[.pointer (some ⟨g, 0, none⟩)] 72)).alloc (.cells #[.int .i64 16, .int .i64 d, .int .i64 a, .int .i64 b, .int .i64 loc, .int .i64 len, .int .i64 kk, .int .i64 tt] 40)) g none) := ⟨keep_alloc (keep_alloc (KeepBut.refl _ _ _) _) _⟩
  have hgb : ¬ W.heap.size = g := by have := S.lt; omega
  have hgx : ¬ W.heap.size + 1 = g := by have := S.lt; omega
  clear S
  unfold aIns
  dsimp only
  go_enter Try.func39, Try.ntmps39
  go_wp2_with fail
  generalize hW1 : ((W.alloc (.cells #[.pointer (some ⟨g, 0, none⟩)] 72)).alloc (.cells #[.int .i64 16, .int .i64 d, .int .i64 a, .int .i64 b, .int .i64 loc, .int .i64 len, .int .i64 kk, .int .i64 tt] 40)) = W1 at KB KX S1 HK ⊢
  clear hW1
  generalize W.heap.size + 1 = bx at KX hgx ⊢
  generalize W.heap.size = bb at KB hgb ⊢
  have hcr := blk_cell KB.out 0
  have x0 := blk_cell KX.out 0
  have x1 := blk_cell KX.out 1
  have x2 := blk_cell KX.out 2
  have x3 := blk_cell KX.out 3
  have x4 := blk_cell KX.out 4
  have x5 := blk_cell KX.out 5
  have x6 := blk_cell KX.out 6
  have x7 := blk_cell KX.out 7
  have hta := S1.out.ctemp a ha0 ha1
  have htb := S1.out.ctemp b hb0 hb1
  go_quiet (fail)
  go_wp2
  go_quiet (fail)
  go_wp2
  go_ret2
  exact ⟨rfl, ⟨_, _, _, S1.out.drewN _⟩, kb_none (kb_then HK.out (keep_drewN (KeepBut.refl _ _ _) _))⟩
set_option maxHeartbeats 4000000 in
set_option maxRecDepth 100000 in
theorem do_17f {w W : World} {g : Nat} {T : List Int} {Aa : Option Addr} {ca : Nat} {ans : List Int} {vt : Value} {acts : List S47} (S : Rn w W g T Aa ca ans vt acts) (i d a b loc len kk tt : Int) (hi : 0 ≤ i) (hi' : i ≤ 1000) (hl : acts.length ≤ 1000)
    (hd0 : 0 ≤ d) (hd1 : d < 400) (ha0 : 0 ≤ a) (ha1 : a < 400) (hb0 : 0 ≤ b) (hb1 : b < 400) (hr : rd T a = rd T b) :
    Calls Try.prog 39 #[.pointer (some ⟨g, 0, none⟩), .int .i64 i, aIns ⟨17, d, a, b, loc, len, kk, tt⟩] W (DoPost w W g vt (i + 1) 0 T ans acts) := by
  have e1 : wrap64 (i + 1) = i + 1 := wrap_of (by omega) (by omega)
  have c1 : (rd T a != rd T b) = false := by simpa using hr
  clear hr
  have KB : Aside0 (((W.alloc (.cells #[.pointer (some ⟨g, 0, none⟩)] 72)).alloc (.cells #[.int .i64 17, .int .i64 d, .int .i64 a, .int .i64 b, .int .i64 loc, .int .i64 len, .int .i64 kk, .int .i64 tt] 40)).heap[W.heap.size]? = some (.cells #[.pointer (some ⟨g, 0, none⟩)] 72 (0, 0))) := ⟨blk_alloc (blk_new _ _) _⟩
  have KX : Aside0 (((W.alloc (.cells #[.pointer (some ⟨g, 0, none⟩)] 72)).alloc (.cells #[.int .i64 17, .int .i64 d, .int .i64 a, .int .i64 b, .int .i64 loc, .int .i64 len, .int .i64 kk, .int .i64 tt] 40)).heap[W.heap.size + 1]? = some (.cells #[.int .i64 17, .int .i64 d, .int .i64 a, .int .i64 b, .int .i64 loc, .int .i64 len, .int .i64 kk, .int .i64 tt] 40 (0, 0))) := ⟨by have h_ := blk_new (W.alloc (.cells #[.pointer (some ⟨g, 0, none⟩)] 72)) (.cells #[.int .i64 17, .int .i64 d, .int .i64 a, .int .i64 b, .int .i64 loc, .int .i64 len, .int .i64 kk, .int .i64 tt] 40); simpa using h_⟩
  have S1 := Aside0.mk ((S.alloc (.cells #[.pointer (some ⟨g, 0, none⟩)] 72)).alloc (.cells #[.int .i64 17, .int .i64 d, .int .i64 a, .int .i64 b, .int .i64 loc, .int .i64 len, .int .i64 kk, .int .i64 tt] 40))
  have HK : Aside0 (KeepBut W ((W.alloc (.cells #[.pointer (some ⟨g, 0, none⟩)] 72)).alloc (.cells #[.int .i64 17, .int .i64 d, .int .i64 a, .int .i64 b, .int .i64 loc, .int .i64 len, .int .i64 kk, .int .i64 tt] 40)) g none) := ⟨keep_alloc (keep_alloc (KeepBut.refl _ _ _) _) _⟩
  have hgb : ¬ W.heap.size = g := by have := S.lt; omega
  have hgx : ¬ W.heap.size + 1 = g := by have := S.lt; omega
  clear S
  unfold aIns
  dsimp only
  go_enter Try.func39, Try.ntmps39
  go_wp2_with fail
  generalize hW1 : ((W.alloc (.cells #[.pointer (some ⟨g, 0, none⟩)] 72)).alloc (.cells #[.int .i64 17, .int .i64 d, .int .i64 a, .int .i64 b, .int .i64 loc, .int .i64 len, .int .i64 kk, .int .i64 tt] 40)) = W1 at KB KX S1 HK ⊢
  clear hW1
  generalize W.heap.size + 1 = bx at KX hgx ⊢
  generalize W.heap.size = bb at KB hgb ⊢
  have hcr := blk_cell KB.out 0
  have x0 := blk_cell KX.out 0
  have x1 := blk_cell KX.out 1
  have x2 := blk_cell KX.out 2
  have x3 := blk_cell KX.out 3
  have x4 := blk_cell KX.out 4
  have x5 := blk_cell KX.out 5
  have x6 := blk_cell KX.out 6
  have x7 := blk_cell KX.out 7
  have hta := S1.out.ctemp a ha0 ha1
  have htb := S1.out.ctemp b hb0 hb1
  go_quiet (fail)
  go_wp2
  go_quiet (fail)
  go_wp2
  go_ret2
  exact ⟨rfl, ⟨_, _, _, S1.out.drewN _⟩, kb_none (kb_then HK.out (keep_drewN (KeepBut.refl _ _ _) _))⟩
set_option maxHeartbeats 4000000 in
set_option maxRecDepth 100000 in
theorem do_12d {w W : World} {g : Nat} {T : List Int} {Aa : Option Addr} {ca : Nat} {n : Int} {ans : List Int} {vt : Value} {acts : List S47} (S : Rn w W g T Aa ca (n :: ans) vt acts) (i d a b loc len kk tt : Int) (hi : 0 ≤ i) (hi' : i ≤ 1000) (hl : acts.length ≤ 1000)
    (hd0 : 0 ≤ d) (hd1 : d < 400) (ha0 : 0 ≤ a) (ha1 : a < 400) (hb0 : 0 ≤ b) (hb1 : b < 400) (hr : n ≠ rd T a) :
    Calls Try.prog 39 #[.pointer (some ⟨g, 0, none⟩), .int .i64 i, aIns ⟨12, d, a, b, loc, len, kk, tt⟩] W (DoPost w W g vt tt 0 T ans (acts ++ [⟨3, loc, n, 0⟩])) := by
  have e1 : wrap64 (i + 1) = i + 1 := wrap_of (by omega) (by omega)
  have KB : Aside0 (((W.alloc (.cells #[.pointer (some ⟨g, 0, none⟩)] 72)).alloc (.cells #[.int .i64 12, .int .i64 d, .int .i64 a, .int .i64 b, .int .i64 loc, .int .i64 len, .int .i64 kk, .int .i64 tt] 40)).heap[W.heap.size]? = some (.cells #[.pointer (some ⟨g, 0, none⟩)] 72 (0, 0))) := ⟨blk_alloc (blk_new _ _) _⟩
  have KX : Aside0 (((W.alloc (.cells #[.pointer (some ⟨g, 0, none⟩)] 72)).alloc (.cells #[.int .i64 12, .int .i64 d, .int .i64 a, .int .i64 b, .int .i64 loc, .int .i64 len, .int .i64 kk, .int .i64 tt] 40)).heap[W.heap.size + 1]? = some (.cells #[.int .i64 12, .int .i64 d, .int .i64 a, .int .i64 b, .int .i64 loc, .int .i64 len, .int .i64 kk, .int .i64 tt] 40 (0, 0))) := ⟨by have h_ := blk_new (W.alloc (.cells #[.pointer (some ⟨g, 0, none⟩)] 72)) (.cells #[.int .i64 12, .int .i64 d, .int .i64 a, .int .i64 b, .int .i64 loc, .int .i64 len, .int .i64 kk, .int .i64 tt] 40); simpa using h_⟩
  have S1 := Aside0.mk ((S.alloc (.cells #[.pointer (some ⟨g, 0, none⟩)] 72)).alloc (.cells #[.int .i64 12, .int .i64 d, .int .i64 a, .int .i64 b, .int .i64 loc, .int .i64 len, .int .i64 kk, .int .i64 tt] 40))
  have HK : Aside0 (KeepBut W ((W.alloc (.cells #[.pointer (some ⟨g, 0, none⟩)] 72)).alloc (.cells #[.int .i64 12, .int .i64 d, .int .i64 a, .int .i64 b, .int .i64 loc, .int .i64 len, .int .i64 kk, .int .i64 tt] 40)) g none) := ⟨keep_alloc (keep_alloc (KeepBut.refl _ _ _) _) _⟩
  have hgb : ¬ W.heap.size = g := by have := S.lt; omega
  have hgx : ¬ W.heap.size + 1 = g := by have := S.lt; omega
  clear S
  unfold aIns
  dsimp only
  go_enter Try.func39, Try.ntmps39
  go_wp2_with fail
  generalize hW1 : ((W.alloc (.cells #[.pointer (some ⟨g, 0, none⟩)] 72)).alloc (.cells #[.int .i64 12, .int .i64 d, .int .i64 a, .int .i64 b, .int .i64 loc, .int .i64 len, .int .i64 kk, .int .i64 tt] 40)) = W1 at KB KX S1 HK ⊢
  clear hW1
  generalize W.heap.size + 1 = bx at KX hgx ⊢
  generalize W.heap.size = bb at KB hgb ⊢
  have hcr := blk_cell KB.out 0
  have x0 := blk_cell KX.out 0
  have x1 := blk_cell KX.out 1
  have x2 := blk_cell KX.out 2
  have x3 := blk_cell KX.out 3
  have x4 := blk_cell KX.out 4
  have x5 := blk_cell KX.out 5
  have x6 := blk_cell KX.out 6
  have x7 := blk_cell KX.out 7
  have hta := S1.out.ctemp a ha0 ha1
  have htb := S1.out.ctemp b hb0 hb1
  go_quiet (fail)
  go_wp2
  go_quiet (fail)
  go_wp2_with (go_at_call 48; refine (cases_ne (S1.out.drewN _) i ⟨12, d, a, b, loc, len, kk, tt⟩ (rd T a) (rd T b) hr hl).mono ?_; rintro e w2 ⟨rfl, hs, hk⟩; have S2 := Aside0.mk hs; have HK2 := Aside0.mk hk; clear hs hk)
  go_ret2
  obtain ⟨Ab, v1, hs⟩ := S2.out
  exact ⟨rfl, ⟨_, _, _, hs⟩, kb_then HK.out (kb_then (keep_drewN (KeepBut.refl _ _ _) _) HK2.out)⟩
end Go.Proofs.Ytdmbnlpcfgphpaa.Q
namespace Go.Proofs.Ytdmbnlpcfgphpaa.Q
open Go.RowKit Go.Proofs.YtdmbnlpcfgphpaaW.PrintWords Go.Proofs.YtdmbnlpcfgphpaaW.PrintLast Go.Proofs.YtdmbnlpcfgphpaaW.PrintMore
set_option linter.unusedVariables false
set_option linter.unusedSimpArgs false
set_option maxHeartbeats 4000000 in
set_option maxRecDepth 100000 in
theorem do_2 {w W : World} {g : Nat} {T : List Int} {Aa : Option Addr} {ca : Nat} {ans : List Int} {vt : Value} {acts : List S47} (S : Rn w W g T Aa ca ans vt acts) (i d a b loc len kk tt : Int) (hi : 0 ≤ i) (hi' : i ≤ 1000) (hl : acts.length ≤ 1000)
    (hd0 : 0 ≤ d) (hd1 : d < 400) (ha0 : 0 ≤ a) (ha1 : a < 400) (hb0 : 0 ≤ b) (hb1 : b < 400) :
    Calls Try.prog 39 #[.pointer (some ⟨g, 0, none⟩), .int .i64 i, aIns ⟨2, d, a, b, loc, len, kk, tt⟩] W (DoPost w W g vt (i + 1) 0 (T.set d.toNat (wrap64 (rd T a + rd T b))) ans acts) := by
  have e1 : wrap64 (i + 1) = i + 1 := wrap_of (by omega) (by omega)
  have KB : Aside0 (((W.alloc (.cells #[.pointer (some ⟨g, 0, none⟩)] 72)).alloc (.cells #[.int .i64 2, .int .i64 d, .int .i64 a, .int .i64 b, .int .i64 loc, .int .i64 len, .int .i64 kk, .int .i64 tt] 40)).heap[W.heap.size]? = some (.cells #[.pointer (some ⟨g, 0, none⟩)] 72 (0, 0))) := ⟨blk_alloc (blk_new _ _) _⟩
  have KX : Aside0 (((W.alloc (.cells #[.pointer (some ⟨g, 0, none⟩)] 72)).alloc (.cells #[.int .i64 2, .int .i64 d, .int .i64 a, .int .i64 b, .int .i64 loc, .int .i64 len, .int .i64 kk, .int .i64 tt] 40)).heap[W.heap.size + 1]? = some (.cells #[.int .i64 2, .int .i64 d, .int .i64 a, .int .i64 b, .int .i64 loc, .int .i64 len, .int .i64 kk, .int .i64 tt] 40 (0, 0))) := ⟨by have h_ := blk_new (W.alloc (.cells #[.pointer (some ⟨g, 0, none⟩)] 72)) (.cells #[.int .i64 2, .int .i64 d, .int .i64 a, .int .i64 b, .int .i64 loc, .int .i64 len, .int .i64 kk, .int .i64 tt] 40); simpa using h_⟩
  have S1 := Aside0.mk ((S.alloc (.cells #[.pointer (some ⟨g, 0, none⟩)] 72)).alloc (.cells #[.int .i64 2, .int .i64 d, .int .i64 a, .int .i64 b, .int .i64 loc, .int .i64 len, .int .i64 kk, .int .i64 tt] 40))
  have HK : Aside0 (KeepBut W ((W.alloc (.cells #[.pointer (some ⟨g, 0, none⟩)] 72)).alloc (.cells #[.int .i64 2, .int .i64 d, .int .i64 a, .int .i64 b, .int .i64 loc, .int .i64 len, .int .i64 kk, .int .i64 tt] 40)) g none) := ⟨keep_alloc (keep_alloc (KeepBut.refl _ _ _) _) _⟩
  have hgb : ¬ W.heap.size = g := by have := S.lt; omega
  have hgx : ¬ W.heap.size + 1 = g := by have := S.lt; omega
  clear S
  unfold aIns
  dsimp only
  go_enter Try.func39, Try.ntmps39
  go_wp2_with fail
  generalize hW1 : ((W.alloc (.cells #[.pointer (some ⟨g, 0, none⟩)] 72)).alloc (.cells #[.int .i64 2, .int .i64 d, .int .i64 a, .int .i64 b, .int .i64 loc, .int .i64 len, .int .i64 kk, .int .i64 tt] 40)) = W1 at KB KX S1 HK ⊢
  clear hW1
  generalize W.heap.size + 1 = bx at KX hgx ⊢
  generalize W.heap.size = bb at KB hgb ⊢
  have hcr := blk_cell KB.out 0
  have x0 := blk_cell KX.out 0
  have x1 := blk_cell KX.out 1
  have x2 := blk_cell KX.out 2
  have x3 := blk_cell KX.out 3
  have x4 := blk_cell KX.out 4
  have x5 := blk_cell KX.out 5
  have x6 := blk_cell KX.out 6
  have x7 := blk_cell KX.out 7
  have hta := S1.out.ctemp a ha0 ha1
  have htb := S1.out.ctemp b hb0 hb1
  go_quiet (fail)
  go_wp2
  go_quiet (fail)
  have hcd := S1.out.ctemp d hd0 hd1
  have hfd := S1.out.frozen d.toNat
  go_wp2
  go_region_held3 (fun w' => w'.cell? ⟨bb, 0, none⟩ = some (.pointer (some ⟨g, 0, none⟩)) ∧ w'.cell? ⟨bx, 1, none⟩ = some (.int .i64 d))
    (first | go_keep | exact ⟨(cell_far hgb _).trans hcr, (cell_far hgx _).trans x1⟩)
    (fail)
  go_wp2
  go_ret2
  exact ⟨rfl, ⟨_, _, _, by rw [← IntWalk.i64_left]; exact (S1.out.drewN _).put_temp d hd0 hd1 _⟩, kb_none (kb_then HK.out (KeepBut.set_ (keep_drewN (KeepBut.refl _ _ _) _) _ _))⟩
set_option maxHeartbeats 4000000 in
set_option maxRecDepth 100000 in
theorem do_5z {w W : World} {g : Nat} {T : List Int} {Aa : Option Addr} {ca : Nat} {ans : List Int} {vt : Value} {acts : List S47} (S : Rn w W g T Aa ca ans vt acts) (i d a b loc len kk tt : Int) (hi : 0 ≤ i) (hi' : i ≤ 1000) (hl : acts.length ≤ 1000)
    (hd0 : 0 ≤ d) (hd1 : d < 400) (ha0 : 0 ≤ a) (ha1 : a < 400) (hb0 : 0 ≤ b) (hb1 : b < 400) (hz : rd T b = 0) :
    Calls Try.prog 39 #[.pointer (some ⟨g, 0, none⟩), .int .i64 i, aIns ⟨5, d, a, b, loc, len, kk, tt⟩] W (DoPost w W g vt 0 2 T ans acts) := by
  have e1 : wrap64 (i + 1) = i + 1 := wrap_of (by omega) (by omega)
  have c1 : (rd T b == 0) = true := beq_iff_eq.2 hz
  clear hz
  have KB : Aside0 (((W.alloc (.cells #[.pointer (some ⟨g, 0, none⟩)] 72)).alloc (.cells #[.int .i64 5, .int .i64 d, .int .i64 a, .int .i64 b, .int .i64 loc, .int .i64 len, .int .i64 kk, .int .i64 tt] 40)).heap[W.heap.size]? = some (.cells #[.pointer (some ⟨g, 0, none⟩)] 72 (0, 0))) := ⟨blk_alloc (blk_new _ _) _⟩
  have KX : Aside0 (((W.alloc (.cells #[.pointer (some ⟨g, 0, none⟩)] 72)).alloc (.cells #[.int .i64 5, .int .i64 d, .int .i64 a, .int .i64 b, .int .i64 loc, .int .i64 len, .int .i64 kk, .int .i64 tt] 40)).heap[W.heap.size + 1]? = some (.cells #[.int .i64 5, .int .i64 d, .int .i64 a, .int .i64 b, .int .i64 loc, .int .i64 len, .int .i64 kk, .int .i64 tt] 40 (0, 0))) := ⟨by have h_ := blk_new (W.alloc (.cells #[.pointer (some ⟨g, 0, none⟩)] 72)) (.cells #[.int .i64 5, .int .i64 d, .int .i64 a, .int .i64 b, .int .i64 loc, .int .i64 len, .int .i64 kk, .int .i64 tt] 40); simpa using h_⟩
  have S1 := Aside0.mk ((S.alloc (.cells #[.pointer (some ⟨g, 0, none⟩)] 72)).alloc (.cells #[.int .i64 5, .int .i64 d, .int .i64 a, .int .i64 b, .int .i64 loc, .int .i64 len, .int .i64 kk, .int .i64 tt] 40))
  have HK : Aside0 (KeepBut W ((W.alloc (.cells #[.pointer (some ⟨g, 0, none⟩)] 72)).alloc (.cells #[.int .i64 5, .int .i64 d, .int .i64 a, .int .i64 b, .int .i64 loc, .int .i64 len, .int .i64 kk, .int .i64 tt] 40)) g none) := ⟨keep_alloc (keep_alloc (KeepBut.refl _ _ _) _) _⟩
  have hgb : ¬ W.heap.size = g := by have := S.lt; omega
  have hgx : ¬ W.heap.size + 1 = g := by have := S.lt; omega
  clear S
  unfold aIns
  dsimp only
  go_enter Try.func39, Try.ntmps39
  go_wp2_with fail
  generalize hW1 : ((W.alloc (.cells #[.pointer (some ⟨g, 0, none⟩)] 72)).alloc (.cells #[.int .i64 5, .int .i64 d, .int .i64 a, .int .i64 b, .int .i64 loc, .int .i64 len, .int .i64 kk, .int .i64 tt] 40)) = W1 at KB KX S1 HK ⊢
  clear hW1
  generalize W.heap.size + 1 = bx at KX hgx ⊢
  generalize W.heap.size = bb at KB hgb ⊢
  have hcr := blk_cell KB.out 0
  have x0 := blk_cell KX.out 0
  have x1 := blk_cell KX.out 1
  have x2 := blk_cell KX.out 2
  have x3 := blk_cell KX.out 3
  have x4 := blk_cell KX.out 4
  have x5 := blk_cell KX.out 5
  have x6 := blk_cell KX.out 6
  have x7 := blk_cell KX.out 7
  have hta := S1.out.ctemp a ha0 ha1
  have htb := S1.out.ctemp b hb0 hb1
  go_quiet (fail)
  go_wp2
  go_quiet (fail)
  go_wp2
  go_ret2
  exact ⟨rfl, ⟨_, _, _, S1.out.drewN _⟩, kb_none (kb_then HK.out (keep_drewN (KeepBut.refl _ _ _) _))⟩
set_option maxHeartbeats 4000000 in
set_option maxRecDepth 100000 in
theorem do_6 {w W : World} {g : Nat} {T : List Int} {Aa : Option Addr} {ca : Nat} {n : Int} {ans : List Int} {vt : Value} {acts : List S47} (S : Rn w W g T Aa ca (n :: ans) vt acts) (i d a b loc len kk tt : Int) (hi : 0 ≤ i) (hi' : i ≤ 1000) (hl : acts.length ≤ 1000)
    (hd0 : 0 ≤ d) (hd1 : d < 400) (ha0 : 0 ≤ a) (ha1 : a < 400) (hb0 : 0 ≤ b) (hb1 : b < 400) :
    Calls Try.prog 39 #[.pointer (some ⟨g, 0, none⟩), .int .i64 i, aIns ⟨6, d, a, b, loc, len, kk, tt⟩] W (DoPost w W g vt (i + 1) 0 (T.set d.toNat n) ans (acts ++ [⟨1, loc, n, 0⟩])) := by
  have e1 : wrap64 (i + 1) = i + 1 := wrap_of (by omega) (by omega)
  have KB : Aside0 (((W.alloc (.cells #[.pointer (some ⟨g, 0, none⟩)] 72)).alloc (.cells #[.int .i64 6, .int .i64 d, .int .i64 a, .int .i64 b, .int .i64 loc, .int .i64 len, .int .i64 kk, .int .i64 tt] 40)).heap[W.heap.size]? = some (.cells #[.pointer (some ⟨g, 0, none⟩)] 72 (0, 0))) := ⟨blk_alloc (blk_new _ _) _⟩
  have KX : Aside0 (((W.alloc (.cells #[.pointer (some ⟨g, 0, none⟩)] 72)).alloc (.cells #[.int .i64 6, .int .i64 d, .int .i64 a, .int .i64 b, .int .i64 loc, .int .i64 len, .int .i64 kk, .int .i64 tt] 40)).heap[W.heap.size + 1]? = some (.cells #[.int .i64 6, .int .i64 d, .int .i64 a, .int .i64 b, .int .i64 loc, .int .i64 len, .int .i64 kk, .int .i64 tt] 40 (0, 0))) := ⟨by have h_ := blk_new (W.alloc (.cells #[.pointer (some ⟨g, 0, none⟩)] 72)) (.cells #[.int .i64 6, .int .i64 d, .int .i64 a, .int .i64 b, .int .i64 loc, .int .i64 len, .int .i64 kk, .int .i64 tt] 40); simpa using h_⟩
  have S1 := Aside0.mk ((S.alloc (.cells #[.pointer (some ⟨g, 0, none⟩)] 72)).alloc (.cells #[.int .i64 6, .int .i64 d, .int .i64 a, .int .i64 b, .int .i64 loc, .int .i64 len, .int .i64 kk, .int .i64 tt] 40))
  have HK : Aside0 (KeepBut W ((W.alloc (.cells #[.pointer (some ⟨g, 0, none⟩)] 72)).alloc (.cells #[.int .i64 6, .int .i64 d, .int .i64 a, .int .i64 b, .int .i64 loc, .int .i64 len, .int .i64 kk, .int .i64 tt] 40)) g none) := ⟨keep_alloc (keep_alloc (KeepBut.refl _ _ _) _) _⟩
  have hgb : ¬ W.heap.size = g := by have := S.lt; omega
  have hgx : ¬ W.heap.size + 1 = g := by have := S.lt; omega
  clear S
  unfold aIns
  dsimp only
  go_enter Try.func39, Try.ntmps39
  go_wp2_with fail
  generalize hW1 : ((W.alloc (.cells #[.pointer (some ⟨g, 0, none⟩)] 72)).alloc (.cells #[.int .i64 6, .int .i64 d, .int .i64 a, .int .i64 b, .int .i64 loc, .int .i64 len, .int .i64 kk, .int .i64 tt] 40)) = W1 at KB KX S1 HK ⊢
  clear hW1
  generalize W.heap.size + 1 = bx at KX hgx ⊢
  generalize W.heap.size = bb at KB hgb ⊢
  have hcr := blk_cell KB.out 0
  have x0 := blk_cell KX.out 0
  have x1 := blk_cell KX.out 1
  have x2 := blk_cell KX.out 2
  have x3 := blk_cell KX.out 3
  have x4 := blk_cell KX.out 4
  have x5 := blk_cell KX.out 5
  have x6 := blk_cell KX.out 6
  have x7 := blk_cell KX.out 7
  have hta := S1.out.ctemp a ha0 ha1
  have htb := S1.out.ctemp b hb0 hb1
  go_quiet (fail)
  go_wp2
  go_quiet (fail)
  go_wp2_with (go_at_call 49; refine (ask_plain (S1.out.drewN _) ⟨6, d, a, b, loc, len, kk, tt⟩ 1 loc (show (6 : Int) ≠ 10 by decide) (show (6 : Int) ≠ 11 by decide) hd0 hd1 hl).mono ?_; rintro e w2 ⟨rfl, hs, hk⟩; have S2 := Aside0.mk hs; have HK2 := Aside0.mk hk; clear hs hk)
  go_ret2
  obtain ⟨Ab, v1, hs⟩ := S2.out
  exact ⟨rfl, ⟨_, _, _, hs⟩, kb_then HK.out (kb_then (keep_drewN (KeepBut.refl _ _ _) _) HK2.out)⟩
set_option maxHeartbeats 4000000 in
set_option maxRecDepth 100000 in
theorem do_10n {w W : World} {g : Nat} {T : List Int} {Aa : Option Addr} {ca : Nat} {vt : Value} {acts : List S47} (S : Rn w W g T Aa ca [] vt acts) (i d a b loc len kk tt : Int) (hi : 0 ≤ i) (hi' : i ≤ 1000) (hl : acts.length ≤ 1000)
    (hd0 : 0 ≤ d) (hd1 : d < 400) (ha0 : 0 ≤ a) (ha1 : a < 400) (hb0 : 0 ≤ b) (hb1 : b < 400) :
    Calls Try.prog 39 #[.pointer (some ⟨g, 0, none⟩), .int .i64 i, aIns ⟨10, d, a, b, loc, len, kk, tt⟩] W (DoPost w W g vt 0 4 T [] acts) := by
  have e1 : wrap64 (i + 1) = i + 1 := wrap_of (by omega) (by omega)
  have KB : Aside0 (((W.alloc (.cells #[.pointer (some ⟨g, 0, none⟩)] 72)).alloc (.cells #[.int .i64 10, .int .i64 d, .int .i64 a, .int .i64 b, .int .i64 loc, .int .i64 len, .int .i64 kk, .int .i64 tt] 40)).heap[W.heap.size]? = some (.cells #[.pointer (some ⟨g, 0, none⟩)] 72 (0, 0))) := ⟨blk_alloc (blk_new _ _) _⟩
  have KX : Aside0 (((W.alloc (.cells #[.pointer (some ⟨g, 0, none⟩)] 72)).alloc (.cells #[.int .i64 10, .int .i64 d, .int .i64 a, .int .i64 b, .int .i64 loc, .int .i64 len, .int .i64 kk, .int .i64 tt] 40)).heap[W.heap.size + 1]? = some (.cells #[.int .i64 10, .int .i64 d, .int .i64 a, .int .i64 b, .int .i64 loc, .int .i64 len, .int .i64 kk, .int .i64 tt] 40 (0, 0))) := ⟨by have h_ := blk_new (W.alloc (.cells #[.pointer (some ⟨g, 0, none⟩)] 72)) (.cells #[.int .i64 10, .int .i64 d, .int .i64 a, .int .i64 b, .int .i64 loc, .int .i64 len, .int .i64 kk, .int .i64 tt] 40); simpa using h_⟩
  have S1 := Aside0.mk ((S.alloc (.cells #[.pointer (some ⟨g, 0, none⟩)] 72)).alloc (.cells #[.int .i64 10, .int .i64 d, .int .i64 a, .int .i64 b, .int .i64 loc, .int .i64 len, .int .i64 kk, .int .i64 tt] 40))
  have HK : Aside0 (KeepBut W ((W.alloc (.cells #[.pointer (some ⟨g, 0, none⟩)] 72)).alloc (.cells #[.int .i64 10, .int .i64 d, .int .i64 a, .int .i64 b, .int .i64 loc, .int .i64 len, .int .i64 kk, .int .i64 tt] 40)) g none) := ⟨keep_alloc (keep_alloc (KeepBut.refl _ _ _) _) _⟩
  have hgb : ¬ W.heap.size = g := by have := S.lt; omega
  have hgx : ¬ W.heap.size + 1 = g := by have := S.lt; omega
  clear S
  unfold aIns
  dsimp only
  go_enter Try.func39, Try.ntmps39
  go_wp2_with fail
  generalize hW1 : ((W.alloc (.cells #[.pointer (some ⟨g, 0, none⟩)] 72)).alloc (.cells #[.int .i64 10, .int .i64 d, .int .i64 a, .int .i64 b, .int .i64 loc, .int .i64 len, .int .i64 kk, .int .i64 tt] 40)) = W1 at KB KX S1 HK ⊢
  clear hW1
  generalize W.heap.size + 1 = bx at KX hgx ⊢
  generalize W.heap.size = bb at KB hgb ⊢
  have hcr := blk_cell KB.out 0
  have x0 := blk_cell KX.out 0
  have x1 := blk_cell KX.out 1
  have x2 := blk_cell KX.out 2
  have x3 := blk_cell KX.out 3
  have x4 := blk_cell KX.out 4
  have x5 := blk_cell KX.out 5
  have x6 := blk_cell KX.out 6
  have x7 := blk_cell KX.out 7
  have hta := S1.out.ctemp a ha0 ha1
  have htb := S1.out.ctemp b hb0 hb1
  go_quiet (fail)
  go_wp2
  go_quiet (fail)
  go_wp2_with (go_at_call 49; refine (ask_nil (S1.out.drewN _) ⟨10, d, a, b, loc, len, kk, tt⟩ 5 loc).mono ?_; rintro e w2 ⟨rfl, hs, hk⟩; have S2 := Aside0.mk hs; have HK2 := Aside0.mk hk; clear hs hk)
  go_ret2
  exact ⟨rfl, ⟨_, _, _, S2.out⟩, kb_none (kb_then HK.out (kb_then (keep_drewN (KeepBut.refl _ _ _) _) HK2.out))⟩
set_option maxHeartbeats 4000000 in
set_option maxRecDepth 100000 in
theorem do_11 {w W : World} {g : Nat} {T : List Int} {Aa : Option Addr} {ca : Nat} {n : Int} {ans : List Int} {vt : Value} {acts : List S47} (S : Rn w W g T Aa ca (n :: ans) vt acts) (i d a b loc len kk tt : Int) (hi : 0 ≤ i) (hi' : i ≤ 1000) (hl : acts.length ≤ 1000)
    (hd0 : 0 ≤ d) (hd1 : d < 400) (ha0 : 0 ≤ a) (ha1 : a < 400) (hb0 : 0 ≤ b) (hb1 : b < 400) :
    Calls Try.prog 39 #[.pointer (some ⟨g, 0, none⟩), .int .i64 i, aIns ⟨11, d, a, b, loc, len, kk, tt⟩] W (DoPost w W g vt (i + 1) 0 (T.set d.toNat n) ans (acts ++ [⟨5, loc, n, IntKind.i64.wrap (n + rd T a)⟩])) := by
  have e1 : wrap64 (i + 1) = i + 1 := wrap_of (by omega) (by omega)
  have KB : Aside0 (((W.alloc (.cells #[.pointer (some ⟨g, 0, none⟩)] 72)).alloc (.cells #[.int .i64 11, .int .i64 d, .int .i64 a, .int .i64 b, .int .i64 loc, .int .i64 len, .int .i64 kk, .int .i64 tt] 40)).heap[W.heap.size]? = some (.cells #[.pointer (some ⟨g, 0, none⟩)] 72 (0, 0))) := ⟨blk_alloc (blk_new _ _) _⟩
  have KX : Aside0 (((W.alloc (.cells #[.pointer (some ⟨g, 0, none⟩)] 72)).alloc (.cells #[.int .i64 11, .int .i64 d, .int .i64 a, .int .i64 b, .int .i64 loc, .int .i64 len, .int .i64 kk, .int .i64 tt] 40)).heap[W.heap.size + 1]? = some (.cells #[.int .i64 11, .int .i64 d, .int .i64 a, .int .i64 b, .int .i64 loc, .int .i64 len, .int .i64 kk, .int .i64 tt] 40 (0, 0))) := ⟨by have h_ := blk_new (W.alloc (.cells #[.pointer (some ⟨g, 0, none⟩)] 72)) (.cells #[.int .i64 11, .int .i64 d, .int .i64 a, .int .i64 b, .int .i64 loc, .int .i64 len, .int .i64 kk, .int .i64 tt] 40); simpa using h_⟩
  have S1 := Aside0.mk ((S.alloc (.cells #[.pointer (some ⟨g, 0, none⟩)] 72)).alloc (.cells #[.int .i64 11, .int .i64 d, .int .i64 a, .int .i64 b, .int .i64 loc, .int .i64 len, .int .i64 kk, .int .i64 tt] 40))
  have HK : Aside0 (KeepBut W ((W.alloc (.cells #[.pointer (some ⟨g, 0, none⟩)] 72)).alloc (.cells #[.int .i64 11, .int .i64 d, .int .i64 a, .int .i64 b, .int .i64 loc, .int .i64 len, .int .i64 kk, .int .i64 tt] 40)) g none) := ⟨keep_alloc (keep_alloc (KeepBut.refl _ _ _) _) _⟩
  have hgb : ¬ W.heap.size = g := by have := S.lt; omega
  have hgx : ¬ W.heap.size + 1 = g := by have := S.lt; omega
  clear S
  unfold aIns
  dsimp only
  go_enter Try.func39, Try.ntmps39
  go_wp2_with fail
  generalize hW1 : ((W.alloc (.cells #[.pointer (some ⟨g, 0, none⟩)] 72)).alloc (.cells #[.int .i64 11, .int .i64 d, .int .i64 a, .int .i64 b, .int .i64 loc, .int .i64 len, .int .i64 kk, .int .i64 tt] 40)) = W1 at KB KX S1 HK ⊢
  clear hW1
  generalize W.heap.size + 1 = bx at KX hgx ⊢
  generalize W.heap.size = bb at KB hgb ⊢
  have hcr := blk_cell KB.out 0
  have x0 := blk_cell KX.out 0
  have x1 := blk_cell KX.out 1
  have x2 := blk_cell KX.out 2
  have x3 := blk_cell KX.out 3
  have x4 := blk_cell KX.out 4
  have x5 := blk_cell KX.out 5
  have x6 := blk_cell KX.out 6
  have x7 := blk_cell KX.out 7
  have hta := S1.out.ctemp a ha0 ha1
  have htb := S1.out.ctemp b hb0 hb1
  go_quiet (fail)
  go_wp2
  go_quiet (fail)
  go_wp2_with (go_at_call 49; refine (ask_inc (S1.out.drewN _) ⟨11, d, a, b, loc, len, kk, tt⟩ 5 loc rfl ha0 ha1 hd0 hd1 hl).mono ?_; rintro e w2 ⟨rfl, hs, hk⟩; have S2 := Aside0.mk hs; have HK2 := Aside0.mk hk; clear hs hk)
  go_ret2
  obtain ⟨Ab, v1, hs⟩ := S2.out
  exact ⟨rfl, ⟨_, _, _, hs⟩, kb_then HK.out (kb_then (keep_drewN (KeepBut.refl _ _ _) _) HK2.out)⟩
set_option maxHeartbeats 4000000 in
set_option maxRecDepth 100000 in
theorem do_15 {w W : World} {g : Nat} {T : List Int} {Aa : Option Addr} {ca : Nat} {ans : List Int} {vt : Value} {acts : List S47} (S : Rn w W g T Aa ca ans vt acts) (i d a b loc len kk tt : Int) (hi : 0 ≤ i) (hi' : i ≤ 1000) (hl : acts.length ≤ 1000)
    (hd0 : 0 ≤ d) (hd1 : d < 400) (ha0 : 0 ≤ a) (ha1 : a < 400) (hb0 : 0 ≤ b) (hb1 : b < 400) :
    Calls Try.prog 39 #[.pointer (some ⟨g, 0, none⟩), .int .i64 i, aIns ⟨15, d, a, b, loc, len, kk, tt⟩] W (DoPost w W g vt (i + 1) 0 T ans (acts ++ [⟨6, 0, 0, rd T a⟩])) := by
  have e1 : wrap64 (i + 1) = i + 1 := wrap_of (by omega) (by omega)
  have KB : Aside0 (((W.alloc (.cells #[.pointer (some ⟨g, 0, none⟩)] 72)).alloc (.cells #[.int .i64 15, .int .i64 d, .int .i64 a, .int .i64 b, .int .i64 loc, .int .i64 len, .int .i64 kk, .int .i64 tt] 40)).heap[W.heap.size]? = some (.cells #[.pointer (some ⟨g, 0, none⟩)] 72 (0, 0))) := ⟨blk_alloc (blk_new _ _) _⟩
  have KX : Aside0 (((W.alloc (.cells #[.pointer (some ⟨g, 0, none⟩)] 72)).alloc (.cells #[.int .i64 15, .int .i64 d, .int .i64 a, .int .i64 b, .int .i64 loc, .int .i64 len, .int .i64 kk, .int .i64 tt] 40)).heap[W.heap.size + 1]? = some (.cells #[.int .i64 15, .int .i64 d, .int .i64 a, .int .i64 b, .int .i64 loc, .int .i64 len, .int .i64 kk, .int .i64 tt] 40 (0, 0))) := ⟨by have h_ := blk_new (W.alloc (.cells #[.pointer (some ⟨g, 0, none⟩)] 72)) (.cells #[.int .i64 15, .int .i64 d, .int .i64 a, .int .i64 b, .int .i64 loc, .int .i64 len, .int .i64 kk, .int .i64 tt] 40); simpa using h_⟩
  have S1 := Aside0.mk ((S.alloc (.cells #[.pointer (some ⟨g, 0, none⟩)] 72)).alloc (.cells #[.int .i64 15, .int .i64 d, .int .i64 a, .int .i64 b, .int .i64 loc, .int .i64 len, .int .i64 kk, .int .i64 tt] 40))
  have HK : Aside0 (KeepBut W ((W.alloc (.cells #[.pointer (some ⟨g, 0, none⟩)] 72)).alloc (.cells #[.int .i64 15, .int .i64 d, .int .i64 a, .int .i64 b, .int .i64 loc, .int .i64 len, .int .i64 kk, .int .i64 tt] 40)) g none) := ⟨keep_alloc (keep_alloc (KeepBut.refl _ _ _) _) _⟩
  have hgb : ¬ W.heap.size = g := by have := S.lt; omega
  have hgx : ¬ W.heap.size + 1 = g := by have := S.lt; omega
  clear S
  unfold aIns
  dsimp only
  go_enter Try.func39, Try.ntmps39
  go_wp2_with fail
  generalize hW1 : ((W.alloc (.cells #[.pointer (some ⟨g, 0, none⟩)] 72)).alloc (.cells #[.int .i64 15, .int .i64 d, .int .i64 a, .int .i64 b, .int .i64 loc, .int .i64 len, .int .i64 kk, .int .i64 tt] 40)) = W1 at KB KX S1 HK ⊢
  clear hW1
  generalize W.heap.size + 1 = bx at KX hgx ⊢
  generalize W.heap.size = bb at KB hgb ⊢
  have hcr := blk_cell KB.out 0
  have x0 := blk_cell KX.out 0
  have x1 := blk_cell KX.out 1
  have x2 := blk_cell KX.out 2
  have x3 := blk_cell KX.out 3
  have x4 := blk_cell KX.out 4
  have x5 := blk_cell KX.out 5
  have x6 := blk_cell KX.out 6
  have x7 := blk_cell KX.out 7
  have hta := S1.out.ctemp a ha0 ha1
  have htb := S1.out.ctemp b hb0 hb1
  go_quiet (fail)
  go_wp2
  go_quiet (fail)
  go_wp2_with (go_at_call 47; refine (write_any (S1.out.drewN _) (blk_drewN KB.out _) 6 (0) (rd T a) hl).mono ?_; rintro e w2 ⟨rfl, v1, hs, hk⟩; have S2 := Aside0.mk hs; have HK2 := Aside0.mk hk; clear hs hk)
  go_ret2
  exact ⟨rfl, ⟨_, _, _, S2.out⟩, kb_then HK.out (kb_then (keep_drewN (KeepBut.refl _ _ _) _) HK2.out)⟩
set_option maxHeartbeats 4000000 in
set_option maxRecDepth 100000 in
theorem do_13 {w W : World} {g : Nat} {T : List Int} {Aa : Option Addr} {ca : Nat} {n : Int} {ans : List Int} {vt : Value} {acts : List S47} (S : Rn w W g T Aa ca (n :: ans) vt acts) (i d a b loc len kk tt : Int) (hi : 0 ≤ i) (hi' : i ≤ 1000) (hl : acts.length ≤ 1000)
    (hd0 : 0 ≤ d) (hd1 : d < 400) (ha0 : 0 ≤ a) (ha1 : a < 400) (hb0 : 0 ≤ b) (hb1 : b < 400) (hr0 : 0 ≤ rd T a) (hr1 : rd T a < len) :
    Calls Try.prog 39 #[.pointer (some ⟨g, 0, none⟩), .int .i64 i, aIns ⟨13, d, a, b, loc, len, kk, tt⟩] W (DoPost w W g vt (i + 1) 0 (T.set d.toNat n) ans (acts ++ [⟨1, wrap64 (loc + rd T a), n, 0⟩])) := by
  have e1 : wrap64 (i + 1) = i + 1 := wrap_of (by omega) (by omega)
  have c1 : decide (rd T a < 0) = false := decide_eq_false (by omega)
  have c2 : decide (len ≤ rd T a) = false := decide_eq_false (by omega)
  have KB : Aside0 (((W.alloc (.cells #[.pointer (some ⟨g, 0, none⟩)] 72)).alloc (.cells #[.int .i64 13, .int .i64 d, .int .i64 a, .int .i64 b, .int .i64 loc, .int .i64 len, .int .i64 kk, .int .i64 tt] 40)).heap[W.heap.size]? = some (.cells #[.pointer (some ⟨g, 0, none⟩)] 72 (0, 0))) := ⟨blk_alloc (blk_new _ _) _⟩
  have KX : Aside0 (((W.alloc (.cells #[.pointer (some ⟨g, 0, none⟩)] 72)).alloc (.cells #[.int .i64 13, .int .i64 d, .int .i64 a, .int .i64 b, .int .i64 loc, .int .i64 len, .int .i64 kk, .int .i64 tt] 40)).heap[W.heap.size + 1]? = some (.cells #[.int .i64 13, .int .i64 d, .int .i64 a, .int .i64 b, .int .i64 loc, .int .i64 len, .int .i64 kk, .int .i64 tt] 40 (0, 0))) := ⟨by have h_ := blk_new (W.alloc (.cells #[.pointer (some ⟨g, 0, none⟩)] 72)) (.cells #[.int .i64 13, .int .i64 d, .int .i64 a, .int .i64 b, .int .i64 loc, .int .i64 len, .int .i64 kk, .int .i64 tt] 40); simpa using h_⟩
  have S1 := Aside0.mk ((S.alloc (.cells #[.pointer (some ⟨g, 0, none⟩)] 72)).alloc (.cells #[.int .i64 13, .int .i64 d, .int .i64 a, .int .i64 b, .int .i64 loc, .int .i64 len, .int .i64 kk, .int .i64 tt] 40))
  have HK : Aside0 (KeepBut W ((W.alloc (.cells #[.pointer (some ⟨g, 0, none⟩)] 72)).alloc (.cells #[.int .i64 13, .int .i64 d, .int .i64 a, .int .i64 b, .int .i64 loc, .int .i64 len, .int .i64 kk, .int .i64 tt] 40)) g none) := ⟨keep_alloc (keep_alloc (KeepBut.refl _ _ _) _) _⟩
  have hgb : ¬ W.heap.size = g := by have := S.lt; omega
  have hgx : ¬ W.heap.size + 1 = g := by have := S.lt; omega
  clear S
  unfold aIns
  dsimp only
  go_enter Try.func39, Try.ntmps39
  go_wp2_with fail
  generalize hW1 : ((W.alloc (.cells #[.pointer (some ⟨g, 0, none⟩)] 72)).alloc (.cells #[.int .i64 13, .int .i64 d, .int .i64 a, .int .i64 b, .int .i64 loc, .int .i64 len, .int .i64 kk, .int .i64 tt] 40)) = W1 at KB KX S1 HK ⊢
  clear hW1
  generalize W.heap.size + 1 = bx at KX hgx ⊢
  generalize W.heap.size = bb at KB hgb ⊢
  have hcr := blk_cell KB.out 0
  have x0 := blk_cell KX.out 0
  have x1 := blk_cell KX.out 1
  have x2 := blk_cell KX.out 2
  have x3 := blk_cell KX.out 3
  have x4 := blk_cell KX.out 4
  have x5 := blk_cell KX.out 5
  have x6 := blk_cell KX.out 6
  have x7 := blk_cell KX.out 7
  have hta := S1.out.ctemp a ha0 ha1
  have htb := S1.out.ctemp b hb0 hb1
  go_quiet (fail)
  go_wp2
  go_quiet (fail)
  go_wp2_with (go_at_call 49; refine (ask_plain (S1.out.drewN _) ⟨13, d, a, b, loc, len, kk, tt⟩ 1 (wrap64 (loc + rd T a)) (show (13 : Int) ≠ 10 by decide) (show (13 : Int) ≠ 11 by decide) hd0 hd1 hl).mono ?_; rintro e w2 ⟨rfl, hs, hk⟩; have S2 := Aside0.mk hs; have HK2 := Aside0.mk hk; clear hs hk)
  go_ret2
  obtain ⟨Ab, v1, hs⟩ := S2.out
  exact ⟨rfl, ⟨_, _, _, hs⟩, kb_then HK.out (kb_then (keep_drewN (KeepBut.refl _ _ _) _) HK2.out)⟩
set_option maxHeartbeats 4000000 in
set_option maxRecDepth 100000 in
theorem do_14l {w W : World} {g : Nat} {T : List Int} {Aa : Option Addr} {ca : Nat} {ans : List Int} {vt : Value} {acts : List S47} (S : Rn w W g T Aa ca ans vt acts) (i d a b loc len kk tt : Int) (hi : 0 ≤ i) (hi' : i ≤ 1000) (hl : acts.length ≤ 1000)
    (hd0 : 0 ≤ d) (hd1 : d < 400) (ha0 : 0 ≤ a) (ha1 : a < 400) (hb0 : 0 ≤ b) (hb1 : b < 400) (hr : rd T a < 0) :
    Calls Try.prog 39 #[.pointer (some ⟨g, 0, none⟩), .int .i64 i, aIns ⟨14, d, a, b, loc, len, kk, tt⟩] W (DoPost w W g vt 0 3 T ans acts) := by
  have e1 : wrap64 (i + 1) = i + 1 := wrap_of (by omega) (by omega)
  have c1 : decide (rd T a < 0) = true := decide_eq_true hr
  clear hr
  have KB : Aside0 (((W.alloc (.cells #[.pointer (some ⟨g, 0, none⟩)] 72)).alloc (.cells #[.int .i64 14, .int .i64 d, .int .i64 a, .int .i64 b, .int .i64 loc, .int .i64 len, .int .i64 kk, .int .i64 tt] 40)).heap[W.heap.size]? = some (.cells #[.pointer (some ⟨g, 0, none⟩)] 72 (0, 0))) := ⟨blk_alloc (blk_new _ _) _⟩
  have KX : Aside0 (((W.alloc (.cells #[.pointer (some ⟨g, 0, none⟩)] 72)).alloc (.cells #[.int .i64 14, .int .i64 d, .int .i64 a, .int .i64 b, .int .i64 loc, .int .i64 len, .int .i64 kk, .int .i64 tt] 40)).heap[W.heap.size + 1]? = some (.cells #[.int .i64 14, .int .i64 d, .int .i64 a, .int .i64 b, .int .i64 loc, .int .i64 len, .int .i64 kk, .int .i64 tt] 40 (0, 0))) := ⟨by have h_ := blk_new (W.alloc (.cells #[.pointer (some ⟨g, 0, none⟩)] 72)) (.cells #[.int .i64 14, .int .i64 d, .int .i64 a, .int .i64 b, .int .i64 loc, .int .i64 len, .int .i64 kk, .int .i64 tt] 40); simpa using h_⟩
  have S1 := Aside0.mk ((S.alloc (.cells #[.pointer (some ⟨g, 0, none⟩)] 72)).alloc (.cells #[.int .i64 14, .int .i64 d, .int .i64 a, .int .i64 b, .int .i64 loc, .int .i64 len, .int .i64 kk, .int .i64 tt] 40))
  have HK : Aside0 (KeepBut W ((W.alloc (.cells #[.pointer (some ⟨g, 0, none⟩)] 72)).alloc (.cells #[.int .i64 14, .int .i64 d, .int .i64 a, .int .i64 b, .int .i64 loc, .int .i64 len, .int .i64 kk, .int .i64 tt] 40)) g none) := ⟨keep_alloc (keep_alloc (KeepBut.refl _ _ _) _) _⟩
  have hgb : ¬ W.heap.size = g := by have := S.lt; omega
  have hgx : ¬ W.heap.size + 1 = g := by have := S.lt; omega
  clear S
  unfold aIns
  dsimp only
  go_enter Try.func39, Try.ntmps39
  go_wp2_with fail
  generalize hW1 : ((W.alloc (.cells #[.pointer (some ⟨g, 0, none⟩)] 72)).alloc (.cells #[.int .i64 14, .int .i64 d, .int .i64 a, .int .i64 b, .int .i64 loc, .int .i64 len, .int .i64 kk, .int .i64 tt] 40)) = W1 at KB KX S1 HK ⊢
  clear hW1
  generalize W.heap.size + 1 = bx at KX hgx ⊢
  generalize W.heap.size = bb at KB hgb ⊢
  have hcr := blk_cell KB.out 0
  have x0 := blk_cell KX.out 0
  have x1 := blk_cell KX.out 1
  have x2 := blk_cell KX.out 2
  have x3 := blk_cell KX.out 3
  have x4 := blk_cell KX.out 4
  have x5 := blk_cell KX.out 5
  have x6 := blk_cell KX.out 6
  have x7 := blk_cell KX.out 7
  have hta := S1.out.ctemp a ha0 ha1
  have htb := S1.out.ctemp b hb0 hb1
  go_quiet (fail)
  go_wp2
  go_quiet (fail)
  go_wp2
  go_ret2
  exact ⟨rfl, ⟨_, _, _, S1.out.drewN _⟩, kb_none (kb_then HK.out (keep_drewN (KeepBut.refl _ _ _) _))⟩
set_option maxHeartbeats 4000000 in
set_option maxRecDepth 100000 in
theorem do_16f {w W : World} {g : Nat} {T : List Int} {Aa : Option Addr} {ca : Nat} {ans : List Int} {vt : Value} {acts : List S47} (S : Rn w W g T Aa ca ans vt acts) (i d a b loc len kk tt : Int) (hi : 0 ≤ i) (hi' : i ≤ 1000) (hl : acts.length ≤ 1000)
    (hd0 : 0 ≤ d) (hd1 : d < 400) (ha0 : 0 ≤ a) (ha1 : a < 400) (hb0 : 0 ≤ b) (hb1 : b < 400) (hr : rd T a < rd T b) :
    Calls Try.prog 39 #[.pointer (some ⟨g, 0, none⟩), .int .i64 i, aIns ⟨16, d, a, b, loc, len, kk, tt⟩] W (DoPost w W g vt (i + 1) 0 T ans acts) := by
  have e1 : wrap64 (i + 1) = i + 1 := wrap_of (by omega) (by omega)
  have c1 : decide (rd T b ≤ rd T a) = false := decide_eq_false (by omega)
  clear hr
  have KB : Aside0 (((W.alloc (.cells #[.pointer (some ⟨g, 0, none⟩)] 72)).alloc (.cells #[.int .i64 16, .int .i64 d, .int .i64 a, .int .i64 b, .int .i64 loc, .int .i64 len, .int .i64 kk, .int .i64 tt] 40)).heap[W.heap.size]? = some (.cells #[.pointer (some ⟨g, 0, none⟩)] 72 (0, 0))) := ⟨blk_alloc (blk_new _ _) _⟩
  have KX : Aside0 (((W.alloc (.cells #[.pointer (some ⟨g, 0, none⟩)] 72)).alloc (.cells #[.int .i64 16, .int .i64 d, .int .i64 a, .int .i64 b, .int .i64 loc, .int .i64 len, .int .i64 kk, .int .i64 tt] 40)).heap[W.heap.size + 1]? = some (.cells #[.int .i64 16, .int .i64 d, .int .i64 a, .int .i64 b, .int .i64 loc, .int .i64 len, .int .i64 kk, .int .i64 tt] 40 (0, 0))) := ⟨by have h_ := blk_new (W.alloc (.cells #[.pointer (some ⟨g, 0, none⟩)] 72)) (.cells #[.int .i64 16, .int .i64 d, .int .i64 a, .int .i64 b, .int .i64 loc, .int .i64 len, .int .i64 kk, .int .i64 tt] 40); simpa using h_⟩
  have S1 := Aside0.mk ((S.alloc (.cells #[.pointer (some ⟨g, 0, none⟩)] 72)).alloc (.cells #[.int .i64 16, .int .i64 d, .int .i64 a, .int .i64 b, .int .i64 loc, .int .i64 len, .int .i64 kk, .int .i64 tt] 40))
  have HK : Aside0 (KeepBut W ((W.alloc (.cells #[.pointer (some ⟨g, 0, none⟩)] 72)).alloc (.cells #[.int .i64 16, .int .i64 d, .int .i64 a, .int .i64 b, .int .i64 loc, .int .i64 len, .int .i64 kk, .int .i64 tt] 40)) g none) := ⟨keep_alloc (keep_alloc (KeepBut.refl _ _ _) _) _⟩
  have hgb : ¬ W.heap.size = g := by have := S.lt; omega
  have hgx : ¬ W.heap.size + 1 = g := by have := S.lt; omega
  clear S
  unfold aIns
  dsimp only
  go_enter Try.func39, Try.ntmps39
  go_wp2_with fail
  generalize hW1 : ((W.alloc (.cells #[.pointer (some ⟨g, 0, none⟩)] 72)).alloc (.cells #[.int .i64 16, .int .i64 d, .int .i64 a, .int .i64 b, .int .i64 loc, .int .i64 len, .int .i64 kk, .int .i64 tt] 40)) = W1 at KB KX S1 HK ⊢
  clear hW1
  generalize W.heap.size + 1 = bx at KX hgx ⊢
  generalize W.heap.size = bb at KB hgb ⊢
  have hcr := blk_cell KB.out 0
  have x0 := blk_cell KX.out 0
  have x1 := blk_cell KX.out 1
  have x2 := blk_cell KX.out 2
  have x3 := blk_cell KX.out 3
  have x4 := blk_cell KX.out 4
  have x5 := blk_cell KX.out 5
  have x6 := blk_cell KX.out 6
  have x7 := blk_cell KX.out 7
  have hta := S1.out.ctemp a ha0 ha1
  have htb := S1.out.ctemp b hb0 hb1
  go_quiet (fail)
  go_wp2
  go_quiet (fail)
  go_wp2
  go_ret2
  exact ⟨rfl, ⟨_, _, _, S1.out.drewN _⟩, kb_none (kb_then HK.out (keep_drewN (KeepBut.refl _ _ _) _))⟩
set_option maxHeartbeats 4000000 in
set_option maxRecDepth 100000 in
theorem do_18 {w W : World} {g : Nat} {T : List Int} {Aa : Option Addr} {ca : Nat} {ans : List Int} {vt : Value} {acts : List S47} (S : Rn w W g T Aa ca ans vt acts) (i d a b loc len kk tt : Int) (hi : 0 ≤ i) (hi' : i ≤ 1000) (hl : acts.length ≤ 1000)
    (hd0 : 0 ≤ d) (hd1 : d < 400) (ha0 : 0 ≤ a) (ha1 : a < 400) (hb0 : 0 ≤ b) (hb1 : b < 400) :
    Calls Try.prog 39 #[.pointer (some ⟨g, 0, none⟩), .int .i64 i, aIns ⟨18, d, a, b, loc, len, kk, tt⟩] W (DoPost w W g vt 0 1 T ans acts) := by
  have e1 : wrap64 (i + 1) = i + 1 := wrap_of (by omega) (by omega)
  have KB : Aside0 (((W.alloc (.cells #[.pointer (some ⟨g, 0, none⟩)] 72)).alloc (.cells #[.int .i64 18, .int .i64 d, .int .i64 a, .int .i64 b, .int .i64 loc, .int .i64 len, .int .i64 kk, .int .i64 tt] 40)).heap[W.heap.size]? = some (.cells #[.pointer (some ⟨g, 0, none⟩)] 72 (0, 0))) := ⟨blk_alloc (blk_new _ _) _⟩
  have KX : Aside0 (((W.alloc (.cells #[.pointer (some ⟨g, 0, none⟩)] 72)).alloc (.cells #[.int .i64 18, .int .i64 d, .int .i64 a, .int .i64 b, .int .i64 loc, .int .i64 len, .int .i64 kk, .int .i64 tt] 40)).heap[W.heap.size + 1]? = some (.cells #[.int .i64 18, .int .i64 d, .int .i64 a, .int .i64 b, .int .i64 loc, .int .i64 len, .int .i64 kk, .int .i64 tt] 40 (0, 0))) := ⟨by have h_ := blk_new (W.alloc (.cells #[.pointer (some ⟨g, 0, none⟩)] 72)) (.cells #[.int .i64 18, .int .i64 d, .int .i64 a, .int .i64 b, .int .i64 loc, .int .i64 len, .int .i64 kk, .int .i64 tt] 40); simpa using h_⟩
  have S1 := Aside0.mk ((S.alloc (.cells #[.pointer (some ⟨g, 0, none⟩)] 72)).alloc (.cells #[.int .i64 18, .int .i64 d, .int .i64 a, .int .i64 b, .int .i64 loc, .int .i64 len, .int .i64 kk, .int .i64 tt] 40))
  have HK : Aside0 (KeepBut W ((W.alloc (.cells #[.pointer (some ⟨g, 0, none⟩)] 72)).alloc (.cells #[.int .i64 18, .int .i64 d, .int .i64 a, .int .i64 b, .int .i64 loc, .int .i64 len, .int .i64 kk, .int .i64 tt] 40)) g none) := ⟨keep_alloc (keep_alloc (KeepBut.refl _ _ _) _) _⟩
  have hgb : ¬ W.heap.size = g := by have := S.lt; omega
  have hgx : ¬ W.heap.size + 1 = g := by have := S.lt; omega
  clear S
  unfold aIns
  dsimp only
  go_enter Try.func39, Try.ntmps39
  go_wp2_with fail
  generalize hW1 : ((W.alloc (.cells #[.pointer (some ⟨g, 0, none⟩)] 72)).alloc (.cells #[.int .i64 18, .int .i64 d, .int .i64 a, .int .i64 b, .int .i64 loc, .int .i64 len, .int .i64 kk, .int .i64 tt] 40)) = W1 at KB KX S1 HK ⊢
  clear hW1
  generalize W.heap.size + 1 = bx at KX hgx ⊢
  generalize W.heap.size = bb at KB hgb ⊢
  have hcr := blk_cell KB.out 0
  have x0 := blk_cell KX.out 0
  have x1 := blk_cell KX.out 1
  have x2 := blk_cell KX.out 2
  have x3 := blk_cell KX.out 3
  have x4 := blk_cell KX.out 4
  have x5 := blk_cell KX.out 5
  have x6 := blk_cell KX.out 6
  have x7 := blk_cell KX.out 7
  have hta := S1.out.ctemp a ha0 ha1
  have htb := S1.out.ctemp b hb0 hb1
  go_quiet (fail)
  go_wp2
  go_quiet (fail)
  go_wp2
  go_ret2
  exact ⟨rfl, ⟨_, _, _, S1.out.drewN _⟩, kb_none (kb_then HK.out (keep_drewN (KeepBut.refl _ _ _) _))⟩
set_option maxHeartbeats 4000000 in
set_option maxRecDepth 100000 in
theorem do_12s {w W : World} {g : Nat} {T : List Int} {Aa : Option Addr} {ca : Nat} {n : Int} {ans : List Int} {vt : Value} {acts : List S47} (S : Rn w W g T Aa ca (n :: ans) vt acts) (i d a b loc len kk tt : Int) (hi : 0 ≤ i) (hi' : i ≤ 1000) (hl : acts.length ≤ 1000)
    (hd0 : 0 ≤ d) (hd1 : d < 400) (ha0 : 0 ≤ a) (ha1 : a < 400) (hb0 : 0 ≤ b) (hb1 : b < 400) (hr : n = rd T a) :
    Calls Try.prog 39 #[.pointer (some ⟨g, 0, none⟩), .int .i64 i, aIns ⟨12, d, a, b, loc, len, kk, tt⟩] W (DoPost w W g vt (i + 1) 0 T ans (acts ++ [⟨5, loc, n, rd T b⟩])) := by
  have e1 : wrap64 (i + 1) = i + 1 := wrap_of (by omega) (by omega)
  have HR := Aside0.mk hr
  clear hr
  have KB : Aside0 (((W.alloc (.cells #[.pointer (some ⟨g, 0, none⟩)] 72)).alloc (.cells #[.int .i64 12, .int .i64 d, .int .i64 a, .int .i64 b, .int .i64 loc, .int .i64 len, .int .i64 kk, .int .i64 tt] 40)).heap[W.heap.size]? = some (.cells #[.pointer (some ⟨g, 0, none⟩)] 72 (0, 0))) := ⟨blk_alloc (blk_new _ _) _⟩
  have KX : Aside0 (((W.alloc (.cells #[.pointer (some ⟨g, 0, none⟩)] 72)).alloc (.cells #[.int .i64 12, .int .i64 d, .int .i64 a, .int .i64 b, .int .i64 loc, .int .i64 len, .int .i64 kk, .int .i64 tt] 40)).heap[W.heap.size + 1]? = some (.cells #[.int .i64 12, .int .i64 d, .int .i64 a, .int .i64 b, .int .i64 loc, .int .i64 len, .int .i64 kk, .int .i64 tt] 40 (0, 0))) := ⟨by have h_ := blk_new (W.alloc (.cells #[.pointer (some ⟨g, 0, none⟩)] 72)) (.cells #[.int .i64 12, .int .i64 d, .int .i64 a, .int .i64 b, .int .i64 loc, .int .i64 len, .int .i64 kk, .int .i64 tt] 40); simpa using h_⟩
  have S1 := Aside0.mk ((S.alloc (.cells #[.pointer (some ⟨g, 0, none⟩)] 72)).alloc (.cells #[.int .i64 12, .int .i64 d, .int .i64 a, .int .i64 b, .int .i64 loc, .int .i64 len, .int .i64 kk, .int .i64 tt] 40))
  have HK : Aside0 (KeepBut W ((W.alloc (.cells #[.pointer (some ⟨g, 0, none⟩)] 72)).alloc (.cells #[.int .i64 12, .int .i64 d, .int .i64 a, .int .i64 b, .int .i64 loc, .int .i64 len, .int .i64 kk, .int .i64 tt] 40)) g none) := ⟨keep_alloc (keep_alloc (KeepBut.refl _ _ _) _) _⟩
  have hgb : ¬ W.heap.size = g := by have := S.lt; omega
  have hgx : ¬ W.heap.size + 1 = g := by have := S.lt; omega
  clear S
  unfold aIns
  dsimp only
  go_enter Try.func39, Try.ntmps39
  go_wp2_with fail
  generalize hW1 : ((W.alloc (.cells #[.pointer (some ⟨g, 0, none⟩)] 72)).alloc (.cells #[.int .i64 12, .int .i64 d, .int .i64 a, .int .i64 b, .int .i64 loc, .int .i64 len, .int .i64 kk, .int .i64 tt] 40)) = W1 at KB KX S1 HK ⊢
  clear hW1
  generalize W.heap.size + 1 = bx at KX hgx ⊢
  generalize W.heap.size = bb at KB hgb ⊢
  have hcr := blk_cell KB.out 0
  have x0 := blk_cell KX.out 0
  have x1 := blk_cell KX.out 1
  have x2 := blk_cell KX.out 2
  have x3 := blk_cell KX.out 3
  have x4 := blk_cell KX.out 4
  have x5 := blk_cell KX.out 5
  have x6 := blk_cell KX.out 6
  have x7 := blk_cell KX.out 7
  have hta := S1.out.ctemp a ha0 ha1
  have htb := S1.out.ctemp b hb0 hb1
  go_quiet (fail)
  go_wp2
  go_quiet (fail)
  go_wp2_with (go_at_call 48; refine (cases_eq' (S1.out.drewN _) i ⟨12, d, a, b, loc, len, kk, tt⟩ (rd T a) (rd T b) HR.out hi hi' hl).mono ?_; rintro e w2 ⟨rfl, hs, hk⟩; have S2 := Aside0.mk hs; have HK2 := Aside0.mk hk; clear hs hk)
  go_ret2
  obtain ⟨Ab, v1, hs⟩ := S2.out
  exact ⟨rfl, ⟨_, _, _, hs⟩, kb_then HK.out (kb_then (keep_drewN (KeepBut.refl _ _ _) _) HK2.out)⟩
end Go.Proofs.Ytdmbnlpcfgphpaa.Q
namespace Go.Proofs.Ytdmbnlpcfgphpaa.Q
open Go.RowKit Go.Proofs.YtdmbnlpcfgphpaaW.PrintWords Go.Proofs.YtdmbnlpcfgphpaaW.PrintLast Go.Proofs.YtdmbnlpcfgphpaaW.PrintMore
set_option linter.unusedVariables false
set_option linter.unusedSimpArgs false
set_option maxHeartbeats 4000000 in
set_option maxRecDepth 100000 in
theorem do_3 {w W : World} {g : Nat} {T : List Int} {Aa : Option Addr} {ca : Nat} {ans : List Int} {vt : Value} {acts : List S47} (S : Rn w W g T Aa ca ans vt acts) (i d a b loc len kk tt : Int) (hi : 0 ≤ i) (hi' : i ≤ 1000) (hl : acts.length ≤ 1000)
    (hd0 : 0 ≤ d) (hd1 : d < 400) (ha0 : 0 ≤ a) (ha1 : a < 400) (hb0 : 0 ≤ b) (hb1 : b < 400) :
    Calls Try.prog 39 #[.pointer (some ⟨g, 0, none⟩), .int .i64 i, aIns ⟨3, d, a, b, loc, len, kk, tt⟩] W (DoPost w W g vt (i + 1) 0 (T.set d.toNat (wrap64 (rd T a - rd T b))) ans acts) := by
  have e1 : wrap64 (i + 1) = i + 1 := wrap_of (by omega) (by omega)
  have KB : Aside0 (((W.alloc (.cells #[.pointer (some ⟨g, 0, none⟩)] 72)).alloc (.cells #[.int .i64 3, .int .i64 d, .int .i64 a, .int .i64 b, .int .i64 loc, .int .i64 len, .int .i64 kk, .int .i64 tt] 40)).heap[W.heap.size]? = some (.cells #[.pointer (some ⟨g, 0, none⟩)] 72 (0, 0))) := ⟨blk_alloc (blk_new _ _) _⟩
  have KX : Aside0 (((W.alloc (.cells #[.pointer (some ⟨g, 0, none⟩)] 72)).alloc (.cells #[.int .i64 3, .int .i64 d, .int .i64 a, .int .i64 b, .int .i64 loc, .int .i64 len, .int .i64 kk, .int .i64 tt] 40)).heap[W.heap.size + 1]? = some (.cells #[.int .i64 3, .int .i64 d, .int .i64 a, .int .i64 b, .int .i64 loc, .int .i64 len, .int .i64 kk, .int .i64 tt] 40 (0, 0))) := ⟨by have h_ := blk_new (W.alloc (.cells #[.pointer (some ⟨g, 0, none⟩)] 72)) (.cells #[.int .i64 3, .int .i64 d, .int .i64 a, .int .i64 b, .int .i64 loc, .int .i64 len, .int .i64 kk, .int .i64 tt] 40); simpa using h_⟩
  have S1 := Aside0.mk ((S.alloc (.cells #[.pointer (some ⟨g, 0, none⟩)] 72)).alloc (.cells #[.int .i64 3, .int .i64 d, .int .i64 a, .int .i64 b, .int .i64 loc, .int .i64 len, .int .i64 kk, .int .i64 tt] 40))
  have HK : Aside0 (KeepBut W ((W.alloc (.cells #[.pointer (some ⟨g, 0, none⟩)] 72)).alloc (.cells #[.int .i64 3, .int .i64 d, .int .i64 a, .int .i64 b, .int .i64 loc, .int .i64 len, .int .i64 kk, .int .i64 tt] 40)) g none) := ⟨keep_alloc (keep_alloc (KeepBut.refl _ _ _) _) _⟩
  have hgb : ¬ W.heap.size = g := by have := S.lt; omega
  have hgx : ¬ W.heap.size + 1 = g := by have := S.lt; omega
  clear S
  unfold aIns
  dsimp only
  go_enter Try.func39, Try.ntmps39
  go_wp2_with fail
  generalize hW1 : ((W.alloc (.cells #[.pointer (some ⟨g, 0, none⟩)] 72)).alloc (.cells #[.int .i64 3, .int .i64 d, .int .i64 a, .int .i64 b, .int .i64 loc, .int .i64 len, .int .i64 kk, .int .i64 tt] 40)) = W1 at KB KX S1 HK ⊢
  clear hW1
  generalize W.heap.size + 1 = bx at KX hgx ⊢
  generalize W.heap.size = bb at KB hgb ⊢
  have hcr := blk_cell KB.out 0
  have x0 := blk_cell KX.out 0
  have x1 := blk_cell KX.out 1
  have x2 := blk_cell KX.out 2
  have x3 := blk_cell KX.out 3
  have x4 := blk_cell KX.out 4
  have x5 := blk_cell KX.out 5
  have x6 := blk_cell KX.out 6
  have x7 := blk_cell KX.out 7
  have hta := S1.out.ctemp a ha0 ha1
  have htb := S1.out.ctemp b hb0 hb1
  go_quiet (fail)
  go_wp2
  go_quiet (fail)
  have hcd := S1.out.ctemp d hd0 hd1
  have hfd := S1.out.frozen d.toNat
  go_wp2
  go_region_held3 (fun w' => w'.cell? ⟨bb, 0, none⟩ = some (.pointer (some ⟨g, 0, none⟩)) ∧ w'.cell? ⟨bx, 1, none⟩ = some (.int .i64 d))
    (first | go_keep | exact ⟨(cell_far hgb _).trans hcr, (cell_far hgx _).trans x1⟩)
    (fail)
  go_wp2
  go_ret2
  exact ⟨rfl, ⟨_, _, _, by rw [← IntWalk.i64_left]; exact (S1.out.drewN _).put_temp d hd0 hd1 _⟩, kb_none (kb_then HK.out (KeepBut.set_ (keep_drewN (KeepBut.refl _ _ _) _) _ _))⟩
set_option maxHeartbeats 4000000 in
set_option maxRecDepth 100000 in
theorem do_5 {w W : World} {g : Nat} {T : List Int} {Aa : Option Addr} {ca : Nat} {ans : List Int} {vt : Value} {acts : List S47} (S : Rn w W g T Aa ca ans vt acts) (i d a b loc len kk tt : Int) (hi : 0 ≤ i) (hi' : i ≤ 1000) (hl : acts.length ≤ 1000)
    (hd0 : 0 ≤ d) (hd1 : d < 400) (ha0 : 0 ≤ a) (ha1 : a < 400) (hb0 : 0 ≤ b) (hb1 : b < 400) (hz : rd T b ≠ 0) :
    Calls Try.prog 39 #[.pointer (some ⟨g, 0, none⟩), .int .i64 i, aIns ⟨5, d, a, b, loc, len, kk, tt⟩] W (DoPost w W g vt (i + 1) 0 (T.set d.toNat (wrap64 ((rd T a).tdiv (rd T b)))) ans acts) := by
  have e1 : wrap64 (i + 1) = i + 1 := wrap_of (by omega) (by omega)
  have c1 : (rd T b == 0) = false := beq_eq_false_iff_ne.2 hz
  have KB : Aside0 (((W.alloc (.cells #[.pointer (some ⟨g, 0, none⟩)] 72)).alloc (.cells #[.int .i64 5, .int .i64 d, .int .i64 a, .int .i64 b, .int .i64 loc, .int .i64 len, .int .i64 kk, .int .i64 tt] 40)).heap[W.heap.size]? = some (.cells #[.pointer (some ⟨g, 0, none⟩)] 72 (0, 0))) := ⟨blk_alloc (blk_new _ _) _⟩
  have KX : Aside0 (((W.alloc (.cells #[.pointer (some ⟨g, 0, none⟩)] 72)).alloc (.cells #[.int .i64 5, .int .i64 d, .int .i64 a, .int .i64 b, .int .i64 loc, .int .i64 len, .int .i64 kk, .int .i64 tt] 40)).heap[W.heap.size + 1]? = some (.cells #[.int .i64 5, .int .i64 d, .int .i64 a, .int .i64 b, .int .i64 loc, .int .i64 len, .int .i64 kk, .int .i64 tt] 40 (0, 0))) := ⟨by have h_ := blk_new (W.alloc (.cells #[.pointer (some ⟨g, 0, none⟩)] 72)) (.cells #[.int .i64 5, .int .i64 d, .int .i64 a, .int .i64 b, .int .i64 loc, .int .i64 len, .int .i64 kk, .int .i64 tt] 40); simpa using h_⟩
  have S1 := Aside0.mk ((S.alloc (.cells #[.pointer (some ⟨g, 0, none⟩)] 72)).alloc (.cells #[.int .i64 5, .int .i64 d, .int .i64 a, .int .i64 b, .int .i64 loc, .int .i64 len, .int .i64 kk, .int .i64 tt] 40))
  have HK : Aside0 (KeepBut W ((W.alloc (.cells #[.pointer (some ⟨g, 0, none⟩)] 72)).alloc (.cells #[.int .i64 5, .int .i64 d, .int .i64 a, .int .i64 b, .int .i64 loc, .int .i64 len, .int .i64 kk, .int .i64 tt] 40)) g none) := ⟨keep_alloc (keep_alloc (KeepBut.refl _ _ _) _) _⟩
  have hgb : ¬ W.heap.size = g := by have := S.lt; omega
  have hgx : ¬ W.heap.size + 1 = g := by have := S.lt; omega
  clear S
  unfold aIns
  dsimp only
  go_enter Try.func39, Try.ntmps39
  go_wp2_with fail
  generalize hW1 : ((W.alloc (.cells #[.pointer (some ⟨g, 0, none⟩)] 72)).alloc (.cells #[.int .i64 5, .int .i64 d, .int .i64 a, .int .i64 b, .int .i64 loc, .int .i64 len, .int .i64 kk, .int .i64 tt] 40)) = W1 at KB KX S1 HK ⊢
  clear hW1
  generalize W.heap.size + 1 = bx at KX hgx ⊢
  generalize W.heap.size = bb at KB hgb ⊢
  have hcr := blk_cell KB.out 0
  have x0 := blk_cell KX.out 0
  have x1 := blk_cell KX.out 1
  have x2 := blk_cell KX.out 2
  have x3 := blk_cell KX.out 3
  have x4 := blk_cell KX.out 4
  have x5 := blk_cell KX.out 5
  have x6 := blk_cell KX.out 6
  have x7 := blk_cell KX.out 7
  have hta := S1.out.ctemp a ha0 ha1
  have htb := S1.out.ctemp b hb0 hb1
  go_quiet (fail)
  go_wp2
  go_quiet (fail)
  have hcd := S1.out.ctemp d hd0 hd1
  have hfd := S1.out.frozen d.toNat
  go_wp2
  go_region_held3 (fun w' => w'.cell? ⟨bb, 0, none⟩ = some (.pointer (some ⟨g, 0, none⟩)) ∧ w'.cell? ⟨bx, 1, none⟩ = some (.int .i64 d))
    (first | go_keep | exact ⟨(cell_far hgb _).trans hcr, (cell_far hgx _).trans x1⟩)
    (fail)
  go_wp2
  go_ret2
  exact ⟨rfl, ⟨_, _, _, by rw [← IntWalk.i64_left]; exact (S1.out.drewN _).put_temp d hd0 hd1 _⟩, kb_none (kb_then HK.out (KeepBut.set_ (keep_drewN (KeepBut.refl _ _ _) _) _ _))⟩
set_option maxHeartbeats 4000000 in
set_option maxRecDepth 100000 in
theorem do_8n {w W : World} {g : Nat} {T : List Int} {Aa : Option Addr} {ca : Nat} {vt : Value} {acts : List S47} (S : Rn w W g T Aa ca [] vt acts) (i d a b loc len kk tt : Int) (hi : 0 ≤ i) (hi' : i ≤ 1000) (hl : acts.length ≤ 1000)
    (hd0 : 0 ≤ d) (hd1 : d < 400) (ha0 : 0 ≤ a) (ha1 : a < 400) (hb0 : 0 ≤ b) (hb1 : b < 400) :
    Calls Try.prog 39 #[.pointer (some ⟨g, 0, none⟩), .int .i64 i, aIns ⟨8, d, a, b, loc, len, kk, tt⟩] W (DoPost w W g vt 0 4 T [] acts) := by
  have e1 : wrap64 (i + 1) = i + 1 := wrap_of (by omega) (by omega)
  have KB : Aside0 (((W.alloc (.cells #[.pointer (some ⟨g, 0, none⟩)] 72)).alloc (.cells #[.int .i64 8, .int .i64 d, .int .i64 a, .int .i64 b, .int .i64 loc, .int .i64 len, .int .i64 kk, .int .i64 tt] 40)).heap[W.heap.size]? = some (.cells #[.pointer (some ⟨g, 0, none⟩)] 72 (0, 0))) := ⟨blk_alloc (blk_new _ _) _⟩
  have KX : Aside0 (((W.alloc (.cells #[.pointer (some ⟨g, 0, none⟩)] 72)).alloc (.cells #[.int .i64 8, .int .i64 d, .int .i64 a, .int .i64 b, .int .i64 loc, .int .i64 len, .int .i64 kk, .int .i64 tt] 40)).heap[W.heap.size + 1]? = some (.cells #[.int .i64 8, .int .i64 d, .int .i64 a, .int .i64 b, .int .i64 loc, .int .i64 len, .int .i64 kk, .int .i64 tt] 40 (0, 0))) := ⟨by have h_ := blk_new (W.alloc (.cells #[.pointer (some ⟨g, 0, none⟩)] 72)) (.cells #[.int .i64 8, .int .i64 d, .int .i64 a, .int .i64 b, .int .i64 loc, .int .i64 len, .int .i64 kk, .int .i64 tt] 40); simpa using h_⟩
  have S1 := Aside0.mk ((S.alloc (.cells #[.pointer (some ⟨g, 0, none⟩)] 72)).alloc (.cells #[.int .i64 8, .int .i64 d, .int .i64 a, .int .i64 b, .int .i64 loc, .int .i64 len, .int .i64 kk, .int .i64 tt] 40))
  have HK : Aside0 (KeepBut W ((W.alloc (.cells #[.pointer (some ⟨g, 0, none⟩)] 72)).alloc (.cells #[.int .i64 8, .int .i64 d, .int .i64 a, .int .i64 b, .int .i64 loc, .int .i64 len, .int .i64 kk, .int .i64 tt] 40)) g none) := ⟨keep_alloc (keep_alloc (KeepBut.refl _ _ _) _) _⟩
  have hgb : ¬ W.heap.size = g := by have := S.lt; omega
  have hgx : ¬ W.heap.size + 1 = g := by have := S.lt; omega
  clear S
  unfold aIns
  dsimp only
  go_enter Try.func39, Try.ntmps39
  go_wp2_with fail
  generalize hW1 : ((W.alloc (.cells #[.pointer (some ⟨g, 0, none⟩)] 72)).alloc (.cells #[.int .i64 8, .int .i64 d, .int .i64 a, .int .i64 b, .int .i64 loc, .int .i64 len, .int .i64 kk, .int .i64 tt] 40)) = W1 at KB KX S1 HK ⊢
  clear hW1
  generalize W.heap.size + 1 = bx at KX hgx ⊢
  generalize W.heap.size = bb at KB hgb ⊢
  have hcr := blk_cell KB.out 0
  have x0 := blk_cell KX.out 0
  have x1 := blk_cell KX.out 1
  have x2 := blk_cell KX.out 2
  have x3 := blk_cell KX.out 3
  have x4 := blk_cell KX.out 4
  have x5 := blk_cell KX.out 5
  have x6 := blk_cell KX.out 6
  have x7 := blk_cell KX.out 7
  have hta := S1.out.ctemp a ha0 ha1
  have htb := S1.out.ctemp b hb0 hb1
  go_quiet (fail)
  go_wp2
  go_quiet (fail)
  go_wp2_with (go_at_call 49; refine (ask_nil (S1.out.drewN _) ⟨8, d, a, b, loc, len, kk, tt⟩ 3 loc).mono ?_; rintro e w2 ⟨rfl, hs, hk⟩; have S2 := Aside0.mk hs; have HK2 := Aside0.mk hk; clear hs hk)
  go_ret2
  exact ⟨rfl, ⟨_, _, _, S2.out⟩, kb_none (kb_then HK.out (kb_then (keep_drewN (KeepBut.refl _ _ _) _) HK2.out))⟩
set_option maxHeartbeats 4000000 in
set_option maxRecDepth 100000 in
theorem do_10 {w W : World} {g : Nat} {T : List Int} {Aa : Option Addr} {ca : Nat} {n : Int} {ans : List Int} {vt : Value} {acts : List S47} (S : Rn w W g T Aa ca (n :: ans) vt acts) (i d a b loc len kk tt : Int) (hi : 0 ≤ i) (hi' : i ≤ 1000) (hl : acts.length ≤ 1000)
    (hd0 : 0 ≤ d) (hd1 : d < 400) (ha0 : 0 ≤ a) (ha1 : a < 400) (hb0 : 0 ≤ b) (hb1 : b < 400) :
    Calls Try.prog 39 #[.pointer (some ⟨g, 0, none⟩), .int .i64 i, aIns ⟨10, d, a, b, loc, len, kk, tt⟩] W (DoPost w W g vt (i + 1) 0 (T.set d.toNat n) ans (acts ++ [⟨5, loc, n, rd T a⟩])) := by
  have e1 : wrap64 (i + 1) = i + 1 := wrap_of (by omega) (by omega)
  have KB : Aside0 (((W.alloc (.cells #[.pointer (some ⟨g, 0, none⟩)] 72)).alloc (.cells #[.int .i64 10, .int .i64 d, .int .i64 a, .int .i64 b, .int .i64 loc, .int .i64 len, .int .i64 kk, .int .i64 tt] 40)).heap[W.heap.size]? = some (.cells #[.pointer (some ⟨g, 0, none⟩)] 72 (0, 0))) := ⟨blk_alloc (blk_new _ _) _⟩
  have KX : Aside0 (((W.alloc (.cells #[.pointer (some ⟨g, 0, none⟩)] 72)).alloc (.cells #[.int .i64 10, .int .i64 d, .int .i64 a, .int .i64 b, .int .i64 loc, .int .i64 len, .int .i64 kk, .int .i64 tt] 40)).heap[W.heap.size + 1]? = some (.cells #[.int .i64 10, .int .i64 d, .int .i64 a, .int .i64 b, .int .i64 loc, .int .i64 len, .int .i64 kk, .int .i64 tt] 40 (0, 0))) := ⟨by have h_ := blk_new (W.alloc (.cells #[.pointer (some ⟨g, 0, none⟩)] 72)) (.cells #[.int .i64 10, .int .i64 d, .int .i64 a, .int .i64 b, .int .i64 loc, .int .i64 len, .int .i64 kk, .int .i64 tt] 40); simpa using h_⟩
  have S1 := Aside0.mk ((S.alloc (.cells #[.pointer (some ⟨g, 0, none⟩)] 72)).alloc (.cells #[.int .i64 10, .int .i64 d, .int .i64 a, .int .i64 b, .int .i64 loc, .int .i64 len, .int .i64 kk, .int .i64 tt] 40))
  have HK : Aside0 (KeepBut W ((W.alloc (.cells #[.pointer (some ⟨g, 0, none⟩)] 72)).alloc (.cells #[.int .i64 10, .int .i64 d, .int .i64 a, .int .i64 b, .int .i64 loc, .int .i64 len, .int .i64 kk, .int .i64 tt] 40)) g none) := ⟨keep_alloc (keep_alloc (KeepBut.refl _ _ _) _) _⟩
  have hgb : ¬ W.heap.size = g := by have := S.lt; omega
  have hgx : ¬ W.heap.size + 1 = g := by have := S.lt; omega
  clear S
  unfold aIns
  dsimp only
  go_enter Try.func39, Try.ntmps39
  go_wp2_with fail
  generalize hW1 : ((W.alloc (.cells #[.pointer (some ⟨g, 0, none⟩)] 72)).alloc (.cells #[.int .i64 10, .int .i64 d, .int .i64 a, .int .i64 b, .int .i64 loc, .int .i64 len, .int .i64 kk, .int .i64 tt] 40)) = W1 at KB KX S1 HK ⊢
  clear hW1
  generalize W.heap.size + 1 = bx at KX hgx ⊢
  generalize W.heap.size = bb at KB hgb ⊢
  have hcr := blk_cell KB.out 0
  have x0 := blk_cell KX.out 0
  have x1 := blk_cell KX.out 1
  have x2 := blk_cell KX.out 2
  have x3 := blk_cell KX.out 3
  have x4 := blk_cell KX.out 4
  have x5 := blk_cell KX.out 5
  have x6 := blk_cell KX.out 6
  have x7 := blk_cell KX.out 7
  have hta := S1.out.ctemp a ha0 ha1
  have htb := S1.out.ctemp b hb0 hb1
  go_quiet (fail)
  go_wp2
  go_quiet (fail)
  go_wp2_with (go_at_call 49; refine (ask_swap (S1.out.drewN _) ⟨10, d, a, b, loc, len, kk, tt⟩ 5 loc rfl ha0 ha1 hd0 hd1 hl).mono ?_; rintro e w2 ⟨rfl, hs, hk⟩; have S2 := Aside0.mk hs; have HK2 := Aside0.mk hk; clear hs hk)
  go_ret2
  obtain ⟨Ab, v1, hs⟩ := S2.out
  exact ⟨rfl, ⟨_, _, _, hs⟩, kb_then HK.out (kb_then (keep_drewN (KeepBut.refl _ _ _) _) HK2.out)⟩
set_option maxHeartbeats 4000000 in
set_option maxRecDepth 100000 in
theorem do_7 {w W : World} {g : Nat} {T : List Int} {Aa : Option Addr} {ca : Nat} {ans : List Int} {vt : Value} {acts : List S47} (S : Rn w W g T Aa ca ans vt acts) (i d a b loc len kk tt : Int) (hi : 0 ≤ i) (hi' : i ≤ 1000) (hl : acts.length ≤ 1000)
    (hd0 : 0 ≤ d) (hd1 : d < 400) (ha0 : 0 ≤ a) (ha1 : a < 400) (hb0 : 0 ≤ b) (hb1 : b < 400) :
    Calls Try.prog 39 #[.pointer (some ⟨g, 0, none⟩), .int .i64 i, aIns ⟨7, d, a, b, loc, len, kk, tt⟩] W (DoPost w W g vt (i + 1) 0 T ans (acts ++ [⟨2, loc, 0, rd T a⟩])) := by
  have e1 : wrap64 (i + 1) = i + 1 := wrap_of (by omega) (by omega)
  have KB : Aside0 (((W.alloc (.cells #[.pointer (some ⟨g, 0, none⟩)] 72)).alloc (.cells #[.int .i64 7, .int .i64 d, .int .i64 a, .int .i64 b, .int .i64 loc, .int .i64 len, .int .i64 kk, .int .i64 tt] 40)).heap[W.heap.size]? = some (.cells #[.pointer (some ⟨g, 0, none⟩)] 72 (0, 0))) := ⟨blk_alloc (blk_new _ _) _⟩
  have KX : Aside0 (((W.alloc (.cells #[.pointer (some ⟨g, 0, none⟩)] 72)).alloc (.cells #[.int .i64 7, .int .i64 d, .int .i64 a, .int .i64 b, .int .i64 loc, .int .i64 len, .int .i64 kk, .int .i64 tt] 40)).heap[W.heap.size + 1]? = some (.cells #[.int .i64 7, .int .i64 d, .int .i64 a, .int .i64 b, .int .i64 loc, .int .i64 len, .int .i64 kk, .int .i64 tt] 40 (0, 0))) := ⟨by have h_ := blk_new (W.alloc (.cells #[.pointer (some ⟨g, 0, none⟩)] 72)) (.cells #[.int .i64 7, .int .i64 d, .int .i64 a, .int .i64 b, .int .i64 loc, .int .i64 len, .int .i64 kk, .int .i64 tt] 40); simpa using h_⟩
  have S1 := Aside0.mk ((S.alloc (.cells #[.pointer (some ⟨g, 0, none⟩)] 72)).alloc (.cells #[.int .i64 7, .int .i64 d, .int .i64 a, .int .i64 b, .int .i64 loc, .int .i64 len, .int .i64 kk, .int .i64 tt] 40))
  have HK : Aside0 (KeepBut W ((W.alloc (.cells #[.pointer (some ⟨g, 0, none⟩)] 72)).alloc (.cells #[.int .i64 7, .int .i64 d, .int .i64 a, .int .i64 b, .int .i64 loc, .int .i64 len, .int .i64 kk, .int .i64 tt] 40)) g none) := ⟨keep_alloc (keep_alloc (KeepBut.refl _ _ _) _) _⟩
  have hgb : ¬ W.heap.size = g := by have := S.lt; omega
  have hgx : ¬ W.heap.size + 1 = g := by have := S.lt; omega
  clear S
  unfold aIns
  dsimp only
  go_enter Try.func39, Try.ntmps39
  go_wp2_with fail
  generalize hW1 : ((W.alloc (.cells #[.pointer (some ⟨g, 0, none⟩)] 72)).alloc (.cells #[.int .i64 7, .int .i64 d, .int .i64 a, .int .i64 b, .int .i64 loc, .int .i64 len, .int .i64 kk, .int .i64 tt] 40)) = W1 at KB KX S1 HK ⊢
  clear hW1
  generalize W.heap.size + 1 = bx at KX hgx ⊢
  generalize W.heap.size = bb at KB hgb ⊢
  have hcr := blk_cell KB.out 0
  have x0 := blk_cell KX.out 0
  have x1 := blk_cell KX.out 1
  have x2 := blk_cell KX.out 2
  have x3 := blk_cell KX.out 3
  have x4 := blk_cell KX.out 4
  have x5 := blk_cell KX.out 5
  have x6 := blk_cell KX.out 6
  have x7 := blk_cell KX.out 7
  have hta := S1.out.ctemp a ha0 ha1
  have htb := S1.out.ctemp b hb0 hb1
  go_quiet (fail)
  go_wp2
  go_quiet (fail)
  go_wp2_with (go_at_call 47; refine (write_any (S1.out.drewN _) (blk_drewN KB.out _) 2 (loc) (rd T a) hl).mono ?_; rintro e w2 ⟨rfl, v1, hs, hk⟩; have S2 := Aside0.mk hs; have HK2 := Aside0.mk hk; clear hs hk)
  go_ret2
  exact ⟨rfl, ⟨_, _, _, S2.out⟩, kb_then HK.out (kb_then (keep_drewN (KeepBut.refl _ _ _) _) HK2.out)⟩
set_option maxHeartbeats 4000000 in
set_option maxRecDepth 100000 in
theorem do_14 {w W : World} {g : Nat} {T : List Int} {Aa : Option Addr} {ca : Nat} {ans : List Int} {vt : Value} {acts : List S47} (S : Rn w W g T Aa ca ans vt acts) (i d a b loc len kk tt : Int) (hi : 0 ≤ i) (hi' : i ≤ 1000) (hl : acts.length ≤ 1000)
    (hd0 : 0 ≤ d) (hd1 : d < 400) (ha0 : 0 ≤ a) (ha1 : a < 400) (hb0 : 0 ≤ b) (hb1 : b < 400) (hr0 : 0 ≤ rd T a) (hr1 : rd T a < len) :
    Calls Try.prog 39 #[.pointer (some ⟨g, 0, none⟩), .int .i64 i, aIns ⟨14, d, a, b, loc, len, kk, tt⟩] W (DoPost w W g vt (i + 1) 0 T ans (acts ++ [⟨2, wrap64 (loc + rd T a), 0, rd T b⟩])) := by
  have e1 : wrap64 (i + 1) = i + 1 := wrap_of (by omega) (by omega)
  have c1 : decide (rd T a < 0) = false := decide_eq_false (by omega)
  have c2 : decide (len ≤ rd T a) = false := decide_eq_false (by omega)
  have KB : Aside0 (((W.alloc (.cells #[.pointer (some ⟨g, 0, none⟩)] 72)).alloc (.cells #[.int .i64 14, .int .i64 d, .int .i64 a, .int .i64 b, .int .i64 loc, .int .i64 len, .int .i64 kk, .int .i64 tt] 40)).heap[W.heap.size]? = some (.cells #[.pointer (some ⟨g, 0, none⟩)] 72 (0, 0))) := ⟨blk_alloc (blk_new _ _) _⟩
  have KX : Aside0 (((W.alloc (.cells #[.pointer (some ⟨g, 0, none⟩)] 72)).alloc (.cells #[.int .i64 14, .int .i64 d, .int .i64 a, .int .i64 b, .int .i64 loc, .int .i64 len, .int .i64 kk, .int .i64 tt] 40)).heap[W.heap.size + 1]? = some (.cells #[.int .i64 14, .int .i64 d, .int .i64 a, .int .i64 b, .int .i64 loc, .int .i64 len, .int .i64 kk, .int .i64 tt] 40 (0, 0))) := ⟨by have h_ := blk_new (W.alloc (.cells #[.pointer (some ⟨g, 0, none⟩)] 72)) (.cells #[.int .i64 14, .int .i64 d, .int .i64 a, .int .i64 b, .int .i64 loc, .int .i64 len, .int .i64 kk, .int .i64 tt] 40); simpa using h_⟩
  have S1 := Aside0.mk ((S.alloc (.cells #[.pointer (some ⟨g, 0, none⟩)] 72)).alloc (.cells #[.int .i64 14, .int .i64 d, .int .i64 a, .int .i64 b, .int .i64 loc, .int .i64 len, .int .i64 kk, .int .i64 tt] 40))
  have HK : Aside0 (KeepBut W ((W.alloc (.cells #[.pointer (some ⟨g, 0, none⟩)] 72)).alloc (.cells #[.int .i64 14, .int .i64 d, .int .i64 a, .int .i64 b, .int .i64 loc, .int .i64 len, .int .i64 kk, .int .i64 tt] 40)) g none) := ⟨keep_alloc (keep_alloc (KeepBut.refl _ _ _) _) _⟩
  have hgb : ¬ W.heap.size = g := by have := S.lt; omega
  have hgx : ¬ W.heap.size + 1 = g := by have := S.lt; omega
  clear S
  unfold aIns
  dsimp only
  go_enter Try.func39, Try.ntmps39
  go_wp2_with fail
  generalize hW1 : ((W.alloc (.cells #[.pointer (some ⟨g, 0, none⟩)] 72)).alloc (.cells #[.int .i64 14, .int .i64 d, .int .i64 a, .int .i64 b, .int .i64 loc, .int .i64 len, .int .i64 kk, .int .i64 tt] 40)) = W1 at KB KX S1 HK ⊢
  clear hW1
  generalize W.heap.size + 1 = bx at KX hgx ⊢
  generalize W.heap.size = bb at KB hgb ⊢
  have hcr := blk_cell KB.out 0
  have x0 := blk_cell KX.out 0
  have x1 := blk_cell KX.out 1
  have x2 := blk_cell KX.out 2
  have x3 := blk_cell KX.out 3
  have x4 := blk_cell KX.out 4
  have x5 := blk_cell KX.out 5
  have x6 := blk_cell KX.out 6
  have x7 := blk_cell KX.out 7
  have hta := S1.out.ctemp a ha0 ha1
  have htb := S1.out.ctemp b hb0 hb1
  go_quiet (fail)
  go_wp2
  go_quiet (fail)
  go_wp2_with (go_at_call 47; refine (write_any (S1.out.drewN _) (blk_drewN KB.out _) 2 (wrap64 (loc + rd T a)) (rd T b) hl).mono ?_; rintro e w2 ⟨rfl, v1, hs, hk⟩; have S2 := Aside0.mk hs; have HK2 := Aside0.mk hk; clear hs hk)
  go_ret2
  exact ⟨rfl, ⟨_, _, _, S2.out⟩, kb_then HK.out (kb_then (keep_drewN (KeepBut.refl _ _ _) _) HK2.out)⟩
set_option maxHeartbeats 4000000 in
set_option maxRecDepth 100000 in
theorem do_13l {w W : World} {g : Nat} {T : List Int} {Aa : Option Addr} {ca : Nat} {ans : List Int} {vt : Value} {acts : List S47} (S : Rn w W g T Aa ca ans vt acts) (i d a b loc len kk tt : Int) (hi : 0 ≤ i) (hi' : i ≤ 1000) (hl : acts.length ≤ 1000)
    (hd0 : 0 ≤ d) (hd1 : d < 400) (ha0 : 0 ≤ a) (ha1 : a < 400) (hb0 : 0 ≤ b) (hb1 : b < 400) (hr : rd T a < 0) :
    Calls Try.prog 39 #[.pointer (some ⟨g, 0, none⟩), .int .i64 i, aIns ⟨13, d, a, b, loc, len, kk, tt⟩] W (DoPost w W g vt 0 3 T ans acts) := by
  have e1 : wrap64 (i + 1) = i + 1 := wrap_of (by omega) (by omega)
  have c1 : decide (rd T a < 0) = true := decide_eq_true hr
  clear hr
  have KB : Aside0 (((W.alloc (.cells #[.pointer (some ⟨g, 0, none⟩)] 72)).alloc (.cells #[.int .i64 13, .int .i64 d, .int .i64 a, .int .i64 b, .int .i64 loc, .int .i64 len, .int .i64 kk, .int .i64 tt] 40)).heap[W.heap.size]? = some (.cells #[.pointer (some ⟨g, 0, none⟩)] 72 (0, 0))) := ⟨blk_alloc (blk_new _ _) _⟩
  have KX : Aside0 (((W.alloc (.cells #[.pointer (some ⟨g, 0, none⟩)] 72)).alloc (.cells #[.int .i64 13, .int .i64 d, .int .i64 a, .int .i64 b, .int .i64 loc, .int .i64 len, .int .i64 kk, .int .i64 tt] 40)).heap[W.heap.size + 1]? = some (.cells #[.int .i64 13, .int .i64 d, .int .i64 a, .int .i64 b, .int .i64 loc, .int .i64 len, .int .i64 kk, .int .i64 tt] 40 (0, 0))) := ⟨by have h_ := blk_new (W.alloc (.cells #[.pointer (some ⟨g, 0, none⟩)] 72)) (.cells #[.int .i64 13, .int .i64 d, .int .i64 a, .int .i64 b, .int .i64 loc, .int .i64 len, .int .i64 kk, .int .i64 tt] 40); simpa using h_⟩
  have S1 := Aside0.mk ((S.alloc (.cells #[.pointer (some ⟨g, 0, none⟩)] 72)).alloc (.cells #[.int .i64 13, .int .i64 d, .int .i64 a, .int .i64 b, .int .i64 loc, .int .i64 len, .int .i64 kk, .int .i64 tt] 40))
  have HK : Aside0 (KeepBut W ((W.alloc (.cells #[.pointer (some ⟨g, 0, none⟩)] 72)).alloc (.cells #[.int .i64 13, .int .i64 d, .int .i64 a, .int .i64 b, .int .i64 loc, .int .i64 len, .int .i64 kk, .int .i64 tt] 40)) g none) := ⟨keep_alloc (keep_alloc (KeepBut.refl _ _ _) _) _⟩
  have hgb : ¬ W.heap.size = g := by have := S.lt; omega
  have hgx : ¬ W.heap.size + 1 = g := by have := S.lt; omega
  clear S
  unfold aIns
  dsimp only
  go_enter Try.func39, Try.ntmps39
  go_wp2_with fail
  generalize hW1 : ((W.alloc (.cells #[.pointer (some ⟨g, 0, none⟩)] 72)).alloc (.cells #[.int .i64 13, .int .i64 d, .int .i64 a, .int .i64 b, .int .i64 loc, .int .i64 len, .int .i64 kk, .int .i64 tt] 40)) = W1 at KB KX S1 HK ⊢
  clear hW1
  generalize W.heap.size + 1 = bx at KX hgx ⊢
  generalize W.heap.size = bb at KB hgb ⊢
  have hcr := blk_cell KB.out 0
  have x0 := blk_cell KX.out 0
  have x1 := blk_cell KX.out 1
  have x2 := blk_cell KX.out 2
  have x3 := blk_cell KX.out 3
  have x4 := blk_cell KX.out 4
  have x5 := blk_cell KX.out 5
  have x6 := blk_cell KX.out 6
  have x7 := blk_cell KX.out 7
  have hta := S1.out.ctemp a ha0 ha1
  have htb := S1.out.ctemp b hb0 hb1
  go_quiet (fail)
  go_wp2
  go_quiet (fail)
  go_wp2
  go_ret2
  exact ⟨rfl, ⟨_, _, _, S1.out.drewN _⟩, kb_none (kb_then HK.out (keep_drewN (KeepBut.refl _ _ _) _))⟩
set_option maxHeartbeats 4000000 in
set_option maxRecDepth 100000 in
theorem do_14h {w W : World} {g : Nat} {T : List Int} {Aa : Option Addr} {ca : Nat} {ans : List Int} {vt : Value} {acts : List S47} (S : Rn w W g T Aa ca ans vt acts) (i d a b loc len kk tt : Int) (hi : 0 ≤ i) (hi' : i ≤ 1000) (hl : acts.length ≤ 1000)
    (hd0 : 0 ≤ d) (hd1 : d < 400) (ha0 : 0 ≤ a) (ha1 : a < 400) (hb0 : 0 ≤ b) (hb1 : b < 400) (hr0 : 0 ≤ rd T a) (hr1 : len ≤ rd T a) :
    Calls Try.prog 39 #[.pointer (some ⟨g, 0, none⟩), .int .i64 i, aIns ⟨14, d, a, b, loc, len, kk, tt⟩] W (DoPost w W g vt 0 3 T ans acts) := by
  have e1 : wrap64 (i + 1) = i + 1 := wrap_of (by omega) (by omega)
  have c1 : decide (rd T a < 0) = false := decide_eq_false (by omega)
  have c2 : decide (len ≤ rd T a) = true := decide_eq_true hr1
  have KB : Aside0 (((W.alloc (.cells #[.pointer (some ⟨g, 0, none⟩)] 72)).alloc (.cells #[.int .i64 14, .int .i64 d, .int .i64 a, .int .i64 b, .int .i64 loc, .int .i64 len, .int .i64 kk, .int .i64 tt] 40)).heap[W.heap.size]? = some (.cells #[.pointer (some ⟨g, 0, none⟩)] 72 (0, 0))) := ⟨blk_alloc (blk_new _ _) _⟩
  have KX : Aside0 (((W.alloc (.cells #[.pointer (some ⟨g, 0, none⟩)] 72)).alloc (.cells #[.int .i64 14, .int .i64 d, .int .i64 a, .int .i64 b, .int .i64 loc, .int .i64 len, .int .i64 kk, .int .i64 tt] 40)).heap[W.heap.size + 1]? = some (.cells #[.int .i64 14, .int .i64 d, .int .i64 a, .int .i64 b, .int .i64 loc, .int .i64 len, .int .i64 kk, .int .i64 tt] 40 (0, 0))) := ⟨by have h_ := blk_new (W.alloc (.cells #[.pointer (some ⟨g, 0, none⟩)] 72)) (.cells #[.int .i64 14, .int .i64 d, .int .i64 a, .int .i64 b, .int .i64 loc, .int .i64 len, .int .i64 kk, .int .i64 tt] 40); simpa using h_⟩
  have S1 := Aside0.mk ((S.alloc (.cells #[.pointer (some ⟨g, 0, none⟩)] 72)).alloc (.cells #[.int .i64 14, .int .i64 d, .int .i64 a, .int .i64 b, .int .i64 loc, .int .i64 len, .int .i64 kk, .int .i64 tt] 40))
  have HK : Aside0 (KeepBut W ((W.alloc (.cells #[.pointer (some ⟨g, 0, none⟩)] 72)).alloc (.cells #[.int .i64 14, .int .i64 d, .int .i64 a, .int .i64 b, .int .i64 loc, .int .i64 len, .int .i64 kk, .int .i64 tt] 40)) g none) := ⟨keep_alloc (keep_alloc (KeepBut.refl _ _ _) _) _⟩
  have hgb : ¬ W.heap.size = g := by have := S.lt; omega
  have hgx : ¬ W.heap.size + 1 = g := by have := S.lt; omega
  clear S
  unfold aIns
  dsimp only
  go_enter Try.func39, Try.ntmps39
  go_wp2_with fail
  generalize hW1 : ((W.alloc (.cells #[.pointer (some ⟨g, 0, none⟩)] 72)).alloc (.cells #[.int .i64 14, .int .i64 d, .int .i64 a, .int .i64 b, .int .i64 loc, .int .i64 len, .int .i64 kk, .int .i64 tt] 40)) = W1 at KB KX S1 HK ⊢
  clear hW1
  generalize W.heap.size + 1 = bx at KX hgx ⊢
  generalize W.heap.size = bb at KB hgb ⊢
  have hcr := blk_cell KB.out 0
  have x0 := blk_cell KX.out 0
  have x1 := blk_cell KX.out 1
  have x2 := blk_cell KX.out 2
  have x3 := blk_cell KX.out 3
  have x4 := blk_cell KX.out 4
  have x5 := blk_cell KX.out 5
  have x6 := blk_cell KX.out 6
  have x7 := blk_cell KX.out 7
  have hta := S1.out.ctemp a ha0 ha1
  have htb := S1.out.ctemp b hb0 hb1
  go_quiet (fail)
  go_wp2
  go_quiet (fail)
  go_wp2
  go_ret2
  exact ⟨rfl, ⟨_, _, _, S1.out.drewN _⟩, kb_none (kb_then HK.out (keep_drewN (KeepBut.refl _ _ _) _))⟩
set_option maxHeartbeats 4000000 in
set_option maxRecDepth 100000 in
theorem do_17t {w W : World} {g : Nat} {T : List Int} {Aa : Option Addr} {ca : Nat} {ans : List Int} {vt : Value} {acts : List S47} (S : Rn w W g T Aa ca ans vt acts) (i d a b loc len kk tt : Int) (hi : 0 ≤ i) (hi' : i ≤ 1000) (hl : acts.length ≤ 1000)
    (hd0 : 0 ≤ d) (hd1 : d < 400) (ha0 : 0 ≤ a) (ha1 : a < 400) (hb0 : 0 ≤ b) (hb1 : b < 400) (hr : rd T a ≠ rd T b) :
    Calls Try.prog 39 #[.pointer (some ⟨g, 0, none⟩), .int .i64 i, aIns ⟨17, d, a, b, loc, len, kk, tt⟩] W (DoPost w W g vt tt 0 T ans acts) := by
  have e1 : wrap64 (i + 1) = i + 1 := wrap_of (by omega) (by omega)
  have c1 : (rd T a != rd T b) = true := by simpa using hr
  clear hr
  have KB : Aside0 (((W.alloc (.cells #[.pointer (some ⟨g, 0, none⟩)] 72)).alloc (.cells #[.int .i64 17, .int .i64 d, .int .i64 a, .int .i64 b, .int .i64 loc, .int .i64 len, .int .i64 kk, .int .i64 tt] 40)).heap[W.heap.size]? = some (.cells #[.pointer (some ⟨g, 0, none⟩)] 72 (0, 0))) := ⟨blk_alloc (blk_new _ _) _⟩
  have KX : Aside0 (((W.alloc (.cells #[.pointer (some ⟨g, 0, none⟩)] 72)).alloc (.cells #[.int .i64 17, .int .i64 d, .int .i64 a, .int .i64 b, .int .i64 loc, .int .i64 len, .int .i64 kk, .int .i64 tt] 40)).heap[W.heap.size + 1]? = some (.cells #[.int .i64 17, .int .i64 d, .int .i64 a, .int .i64 b, .int .i64 loc, .int .i64 len, .int .i64 kk, .int .i64 tt] 40 (0, 0))) := ⟨by have h_ := blk_new (W.alloc (.cells #[.pointer (some ⟨g, 0, none⟩)] 72)) (.cells #[.int .i64 17, .int .i64 d, .int .i64 a, .int .i64 b, .int .i64 loc, .int .i64 len, .int .i64 kk, .int .i64 tt] 40); simpa using h_⟩
  have S1 := Aside0.mk ((S.alloc (.cells #[.pointer (some ⟨g, 0, none⟩)] 72)).alloc (.cells #[.int .i64 17, .int .i64 d, .int .i64 a, .int .i64 b, .int .i64 loc, .int .i64 len, .int .i64 kk, .int .i64 tt] 40))
  have HK : Aside0 (KeepBut W ((W.alloc (.cells #[.pointer (some ⟨g, 0, none⟩)] 72)).alloc (.cells #[.int .i64 17, .int .i64 d, .int .i64 a, .int .i64 b, .int .i64 loc, .int .i64 len, .int .i64 kk, .int .i64 tt] 40)) g none) := ⟨keep_alloc (keep_alloc (KeepBut.refl _ _ _) _) _⟩
  have hgb : ¬ W.heap.size = g := by have := S.lt; omega
  have hgx : ¬ W.heap.size + 1 = g := by have := S.lt; omega
  clear S
  unfold aIns
  dsimp only
  go_enter Try.func39, Try.ntmps39
  go_wp2_with fail
  generalize hW1 : ((W.alloc (.cells #[.pointer (some ⟨g, 0, none⟩)] 72)).alloc (.cells #[.int .i64 17, .int .i64 d, .int .i64 a, .int .i64 b, .int .i64 loc, .int .i64 len, .int .i64 kk, .int .i64 tt] 40)) = W1 at KB KX S1 HK ⊢
  clear hW1
  generalize W.heap.size + 1 = bx at KX hgx ⊢
  generalize W.heap.size = bb at KB hgb ⊢
  have hcr := blk_cell KB.out 0
  have x0 := blk_cell KX.out 0
  have x1 := blk_cell KX.out 1
  have x2 := blk_cell KX.out 2
  have x3 := blk_cell KX.out 3
  have x4 := blk_cell KX.out 4
  have x5 := blk_cell KX.out 5
  have x6 := blk_cell KX.out 6
  have x7 := blk_cell KX.out 7
  have hta := S1.out.ctemp a ha0 ha1
  have htb := S1.out.ctemp b hb0 hb1
  go_quiet (fail)
  go_wp2
  go_quiet (fail)
  go_wp2
  go_ret2
  exact ⟨rfl, ⟨_, _, _, S1.out.drewN _⟩, kb_none (kb_then HK.out (keep_drewN (KeepBut.refl _ _ _) _))⟩
set_option maxHeartbeats 4000000 in
set_option maxRecDepth 100000 in
theorem do_12n {w W : World} {g : Nat} {T : List Int} {Aa : Option Addr} {ca : Nat} {vt : Value} {acts : List S47} (S : Rn w W g T Aa ca [] vt acts) (i d a b loc len kk tt : Int) (hi : 0 ≤ i) (hi' : i ≤ 1000) (hl : acts.length ≤ 1000)
    (hd0 : 0 ≤ d) (hd1 : d < 400) (ha0 : 0 ≤ a) (ha1 : a < 400) (hb0 : 0 ≤ b) (hb1 : b < 400) :
    Calls Try.prog 39 #[.pointer (some ⟨g, 0, none⟩), .int .i64 i, aIns ⟨12, d, a, b, loc, len, kk, tt⟩] W (DoPost w W g vt 0 4 T [] acts) := by
  have e1 : wrap64 (i + 1) = i + 1 := wrap_of (by omega) (by omega)
  have KB : Aside0 (((W.alloc (.cells #[.pointer (some ⟨g, 0, none⟩)] 72)).alloc (.cells #[.int .i64 12, .int .i64 d, .int .i64 a, .int .i64 b, .int .i64 loc, .int .i64 len, .int .i64 kk, .int .i64 tt] 40)).heap[W.heap.size]? = some (.cells #[.pointer (some ⟨g, 0, none⟩)] 72 (0, 0))) := ⟨blk_alloc (blk_new _ _) _⟩
  have KX : Aside0 (((W.alloc (.cells #[.pointer (some ⟨g, 0, none⟩)] 72)).alloc (.cells #[.int .i64 12, .int .i64 d, .int .i64 a, .int .i64 b, .int .i64 loc, .int .i64 len, .int .i64 kk, .int .i64 tt] 40)).heap[W.heap.size + 1]? = some (.cells #[.int .i64 12, .int .i64 d, .int .i64 a, .int .i64 b, .int .i64 loc, .int .i64 len, .int .i64 kk, .int .i64 tt] 40 (0, 0))) := ⟨by have h_ := blk_new (W.alloc (.cells #[.pointer (some ⟨g, 0, none⟩)] 72)) (.cells #[.int .i64 12, .int .i64 d, .int .i64 a, .int .i64 b, .int .i64 loc, .int .i64 len, .int .i64 kk, .int .i64 tt] 40); simpa using h_⟩
  have S1 := Aside0.mk ((S.alloc (.cells #[.pointer (some ⟨g, 0, none⟩)] 72)).alloc (.cells #[.int .i64 12, .int .i64 d, .int .i64 a, .int .i64 b, .int .i64 loc, .int .i64 len, .int .i64 kk, .int .i64 tt] 40))
  have HK : Aside0 (KeepBut W ((W.alloc (.cells #[.pointer (some ⟨g, 0, none⟩)] 72)).alloc (.cells #[.int .i64 12, .int .i64 d, .int .i64 a, .int .i64 b, .int .i64 loc, .int .i64 len, .int .i64 kk, .int .i64 tt] 40)) g none) := ⟨keep_alloc (keep_alloc (KeepBut.refl _ _ _) _) _⟩
  have hgb : ¬ W.heap.size = g := by have := S.lt; omega
  have hgx : ¬ W.heap.size + 1 = g := by have := S.lt; omega
  clear S
  unfold aIns
  dsimp only
  go_enter Try.func39, Try.ntmps39
  go_wp2_with fail
  generalize hW1 : ((W.alloc (.cells #[.pointer (some ⟨g, 0, none⟩)] 72)).alloc (.cells #[.int .i64 12, .int .i64 d, .int .i64 a, .int .i64 b, .int .i64 loc, .int .i64 len, .int .i64 kk, .int .i64 tt] 40)) = W1 at KB KX S1 HK ⊢
  clear hW1
  generalize W.heap.size + 1 = bx at KX hgx ⊢
  generalize W.heap.size = bb at KB hgb ⊢
  have hcr := blk_cell KB.out 0
  have x0 := blk_cell KX.out 0
  have x1 := blk_cell KX.out 1
  have x2 := blk_cell KX.out 2
  have x3 := blk_cell KX.out 3
  have x4 := blk_cell KX.out 4
  have x5 := blk_cell KX.out 5
  have x6 := blk_cell KX.out 6
  have x7 := blk_cell KX.out 7
  have hta := S1.out.ctemp a ha0 ha1
  have htb := S1.out.ctemp b hb0 hb1
  go_quiet (fail)
  go_wp2
  go_quiet (fail)
  go_wp2_with (go_at_call 48; refine (cases_nil (S1.out.drewN _) i ⟨12, d, a, b, loc, len, kk, tt⟩ (rd T a) (rd T b)).mono ?_; rintro e w2 ⟨rfl, hs, hk⟩; have S2 := Aside0.mk hs; have HK2 := Aside0.mk hk; clear hs hk)
  go_ret2
  exact ⟨rfl, ⟨_, _, _, S2.out⟩, kb_none (kb_then HK.out (kb_then (keep_drewN (KeepBut.refl _ _ _) _) HK2.out))⟩
end Go.Proofs.Ytdmbnlpcfgphpaa.Q
namespace Go.Proofs.Ytdmbnlpcfgphpaa.Q
open Go.RowKit Go.Proofs.YtdmbnlpcfgphpaaW.PrintWords Go.Proofs.YtdmbnlpcfgphpaaW.PrintLast Go.Proofs.YtdmbnlpcfgphpaaW.PrintMore
set_option linter.unusedVariables false
set_option linter.unusedSimpArgs false
theorem do_any {w W : World} {g : Nat} {T : List Int} {Aa : Option Addr} {ca : Nat} {ans : List Int} {vt : Value} {acts : List S47} (S : Rn w W g T Aa ca ans vt acts) (i : Int) (x : S40) (hi : 0 ≤ i) (hi' : i ≤ 1000) (hl : acts.length ≤ 1000) (hok : okO x.f0 = true)
    (hd : 0 ≤ x.f1 ∧ x.f1 < 400) (ha : 0 ≤ x.f2 ∧ x.f2 < 400) (hb : 0 ≤ x.f3 ∧ x.f3 < 400) :
    Calls Try.prog 39 #[.pointer (some ⟨g, 0, none⟩), .int .i64 i, aIns x] W (DoPost w W g vt (stp x i T ans).next (stp x i T ans).fin (stp x i T ans).T (stp x i T ans).ans (acts ++ (stp x i T ans).new)) := by
  obtain ⟨o, d, a, b, loc, len, kk, tt⟩ := x
  obtain ⟨hd0, hd1⟩ := hd
  obtain ⟨ha0, ha1⟩ := ha
  obtain ⟨hb0, hb1⟩ := hb
  dsimp only at hok hd0 hd1 ha0 ha1 hb0 hb1
  have en : acts ++ [] = acts := List.append_nil _
  rcases op_cases hok with rfl | rfl | rfl | rfl | rfl | rfl | rfl | rfl | rfl | rfl | rfl | rfl | rfl | rfl | rfl | rfl | rfl | rfl
  · rw [show stp ⟨1, d, a, b, loc, len, kk, tt⟩ i T ans = stSet ⟨1, d, a, b, loc, len, kk, tt⟩ i T ans kk from rfl]; simp only [stSet, en]; exact do_1 S i d a b loc len kk tt hi hi' hl hd0 hd1 ha0 ha1 hb0 hb1
  · rw [show stp ⟨2, d, a, b, loc, len, kk, tt⟩ i T ans = stSet ⟨2, d, a, b, loc, len, kk, tt⟩ i T ans (wrap64 (rd T a + rd T b)) from rfl]; simp only [stSet, en]; exact do_2 S i d a b loc len kk tt hi hi' hl hd0 hd1 ha0 ha1 hb0 hb1
  · rw [show stp ⟨3, d, a, b, loc, len, kk, tt⟩ i T ans = stSet ⟨3, d, a, b, loc, len, kk, tt⟩ i T ans (wrap64 (rd T a - rd T b)) from rfl]; simp only [stSet, en]; exact do_3 S i d a b loc len kk tt hi hi' hl hd0 hd1 ha0 ha1 hb0 hb1
  · rw [show stp ⟨4, d, a, b, loc, len, kk, tt⟩ i T ans = stSet ⟨4, d, a, b, loc, len, kk, tt⟩ i T ans (wrap64 (rd T a * rd T b)) from rfl]; simp only [stSet, en]; exact do_4 S i d a b loc len kk tt hi hi' hl hd0 hd1 ha0 ha1 hb0 hb1
  · rw [show stp ⟨5, d, a, b, loc, len, kk, tt⟩ i T ans = if rd T b = 0 then stGo 0 2 T ans else stSet ⟨5, d, a, b, loc, len, kk, tt⟩ i T ans (wrap64 ((rd T a).tdiv (rd T b))) from rfl]
    by_cases h : rd T b = 0
    · rw [if_pos h]; simp only [stGo, en]; exact do_5z S i d a b loc len kk tt hi hi' hl hd0 hd1 ha0 ha1 hb0 hb1 h
    · rw [if_neg h]; simp only [stSet, en]; exact do_5 S i d a b loc len kk tt hi hi' hl hd0 hd1 ha0 ha1 hb0 hb1 h
  · rw [show stp ⟨6, d, a, b, loc, len, kk, tt⟩ i T ans = stAsk ⟨6, d, a, b, loc, len, kk, tt⟩ i T ans 1 loc (fun _ => 0) from rfl]
    cases ans with
    | nil => simp only [stAsk, en]; exact do_6n S i d a b loc len kk tt hi hi' hl hd0 hd1 ha0 ha1 hb0 hb1
    | cons n r => simp only [stAsk]; exact do_6 S i d a b loc len kk tt hi hi' hl hd0 hd1 ha0 ha1 hb0 hb1
  · rw [show stp ⟨7, d, a, b, loc, len, kk, tt⟩ i T ans = stTell i T ans 2 loc (rd T a) from rfl]; simp only [stTell]; exact do_7 S i d a b loc len kk tt hi hi' hl hd0 hd1 ha0 ha1 hb0 hb1
  · rw [show stp ⟨8, d, a, b, loc, len, kk, tt⟩ i T ans = stAsk ⟨8, d, a, b, loc, len, kk, tt⟩ i T ans 3 loc (fun _ => 0) from rfl]
    cases ans with
    | nil => simp only [stAsk, en]; exact do_8n S i d a b loc len kk tt hi hi' hl hd0 hd1 ha0 ha1 hb0 hb1
    | cons n r => simp only [stAsk]; exact do_8 S i d a b loc len kk tt hi hi' hl hd0 hd1 ha0 ha1 hb0 hb1
  · rw [show stp ⟨9, d, a, b, loc, len, kk, tt⟩ i T ans = stTell i T ans 4 loc (rd T a) from rfl]; simp only [stTell]; exact do_9 S i d a b loc len kk tt hi hi' hl hd0 hd1 ha0 ha1 hb0 hb1
  · rw [show stp ⟨10, d, a, b, loc, len, kk, tt⟩ i T ans = stAsk ⟨10, d, a, b, loc, len, kk, tt⟩ i T ans 5 loc (fun _ => rd T a) from rfl]
    cases ans with
    | nil => simp only [stAsk, en]; exact do_10n S i d a b loc len kk tt hi hi' hl hd0 hd1 ha0 ha1 hb0 hb1
    | cons n r => simp only [stAsk]; exact do_10 S i d a b loc len kk tt hi hi' hl hd0 hd1 ha0 ha1 hb0 hb1
  · rw [show stp ⟨11, d, a, b, loc, len, kk, tt⟩ i T ans = stAsk ⟨11, d, a, b, loc, len, kk, tt⟩ i T ans 5 loc (fun n => wrap64 (n + rd T a)) from rfl]
    cases ans with
    | nil => simp only [stAsk, en]; exact do_11n S i d a b loc len kk tt hi hi' hl hd0 hd1 ha0 ha1 hb0 hb1
    | cons n r => simp only [stAsk]; rw [← IntWalk.i64_left]; exact do_11 S i d a b loc len kk tt hi hi' hl hd0 hd1 ha0 ha1 hb0 hb1
  · rw [show stp ⟨12, d, a, b, loc, len, kk, tt⟩ i T ans = stCas ⟨12, d, a, b, loc, len, kk, tt⟩ i T ans from rfl]
    cases ans with
    | nil => simp only [stCas, en]; exact do_12n S i d a b loc len kk tt hi hi' hl hd0 hd1 ha0 ha1 hb0 hb1
    | cons n r =>
      simp only [stCas]
      by_cases h : n = rd T a
      · rw [if_pos h]; exact do_12s S i d a b loc len kk tt hi hi' hl hd0 hd1 ha0 ha1 hb0 hb1 h
      · rw [if_neg h]; exact do_12d S i d a b loc len kk tt hi hi' hl hd0 hd1 ha0 ha1 hb0 hb1 h
  · rw [show stp ⟨13, d, a, b, loc, len, kk, tt⟩ i T ans = if outb ⟨13, d, a, b, loc, len, kk, tt⟩ T then stGo 0 3 T ans else stAsk ⟨13, d, a, b, loc, len, kk, tt⟩ i T ans 1 (wrap64 (loc + rd T a)) (fun _ => 0) from rfl]
    by_cases h1 : rd T a < 0
    · rw [if_pos (by simp [outb, h1])]; simp only [stGo, en]; exact do_13l S i d a b loc len kk tt hi hi' hl hd0 hd1 ha0 ha1 hb0 hb1 h1
    by_cases h2 : len ≤ rd T a
    · rw [if_pos (by simp [outb, h2])]; simp only [stGo, en]; exact do_13h S i d a b loc len kk tt hi hi' hl hd0 hd1 ha0 ha1 hb0 hb1 (by omega) h2
    rw [if_neg (by simp [outb, h1, h2])]
    cases ans with
    | nil => simp only [stAsk, en]; exact do_13n S i d a b loc len kk tt hi hi' hl hd0 hd1 ha0 ha1 hb0 hb1 (by omega) (by omega)
    | cons n r => simp only [stAsk]; exact do_13 S i d a b loc len kk tt hi hi' hl hd0 hd1 ha0 ha1 hb0 hb1 (by omega) (by omega)
  · rw [show stp ⟨14, d, a, b, loc, len, kk, tt⟩ i T ans = if outb ⟨14, d, a, b, loc, len, kk, tt⟩ T then stGo 0 3 T ans else stTell i T ans 2 (wrap64 (loc + rd T a)) (rd T b) from rfl]
    by_cases h1 : rd T a < 0
    · rw [if_pos (by simp [outb, h1])]; simp only [stGo, en]; exact do_14l S i d a b loc len kk tt hi hi' hl hd0 hd1 ha0 ha1 hb0 hb1 h1
    by_cases h2 : len ≤ rd T a
    · rw [if_pos (by simp [outb, h2])]; simp only [stGo, en]; exact do_14h S i d a b loc len kk tt hi hi' hl hd0 hd1 ha0 ha1 hb0 hb1 (by omega) h2
    rw [if_neg (by simp [outb, h1, h2])]
    simp only [stTell]; exact do_14 S i d a b loc len kk tt hi hi' hl hd0 hd1 ha0 ha1 hb0 hb1 (by omega) (by omega)
  · rw [show stp ⟨15, d, a, b, loc, len, kk, tt⟩ i T ans = stTell i T ans 6 0 (rd T a) from rfl]; simp only [stTell]; exact do_15 S i d a b loc len kk tt hi hi' hl hd0 hd1 ha0 ha1 hb0 hb1
  · rw [show stp ⟨16, d, a, b, loc, len, kk, tt⟩ i T ans = if rd T a < rd T b then stGo (i + 1) 0 T ans else stGo tt 0 T ans from rfl]
    by_cases h : rd T a < rd T b
    · rw [if_pos h]; simp only [stGo, en]; exact do_16f S i d a b loc len kk tt hi hi' hl hd0 hd1 ha0 ha1 hb0 hb1 h
    · rw [if_neg h]; simp only [stGo, en]; exact do_16t S i d a b loc len kk tt hi hi' hl hd0 hd1 ha0 ha1 hb0 hb1 (by omega)
  · rw [show stp ⟨17, d, a, b, loc, len, kk, tt⟩ i T ans = if rd T a = rd T b then stGo (i + 1) 0 T ans else stGo tt 0 T ans from rfl]
    by_cases h : rd T a = rd T b
    · rw [if_pos h]; simp only [stGo, en]; exact do_17f S i d a b loc len kk tt hi hi' hl hd0 hd1 ha0 ha1 hb0 hb1 h
    · rw [if_neg h]; simp only [stGo, en]; exact do_17t S i d a b loc len kk tt hi hi' hl hd0 hd1 ha0 ha1 hb0 hb1 h
  · rw [show stp ⟨18, d, a, b, loc, len, kk, tt⟩ i T ans = stGo 0 1 T ans from rfl]; simp only [stGo, en]; exact do_18 S i d a b loc len kk tt hi hi' hl hd0 hd1 ha0 ha1 hb0 hb1
end Go.Proofs.Ytdmbnlpcfgphpaa.Q
namespace Go.Proofs.Ytdmbnlpcfgphpaa.Q
open Go.RowKit Go.Proofs.YtdmbnlpcfgphpaaW.PrintWords Go.Proofs.YtdmbnlpcfgphpaaW.PrintLast Go.Proofs.YtdmbnlpcfgphpaaW.PrintMore
set_option linter.unusedVariables false
set_option linter.unusedSimpArgs false
def RunEnd (R : List S47 × Int) (w : World) (e : Ending) (w' : World) : Prop := ∃ v : Value, e = .returned (.agg #[v, .int .i64 R.2]) ∧ Kd.R k47 47 w' w.heap.size (fun _ => True) v R.1 ∧ Below w.heap.size w w'
set_option maxHeartbeats 4000000 in
set_option maxRecDepth 100000 in
theorem run_wrong (A : Option Addr) (c : Nat) (code : List S40) (Al : Option Addr) (cl : Nat) (l : List S80) (An : Option Addr) (cn : Nat) (answers : List Int) (w : World) (hr : Kd.C k40 w A code.length code) (hc : code.length ≤ c) (hrl : Kd.C k80 w Al l.length l) (hcl : l.length ≤ cl) (hl : l.length ≤ 1000) (hR : right code l = false) :
    Calls Try.prog 16 #[.slice A code.length c, .slice Al l.length cl, .slice An answers.length cn] w (RunEnd (runAll code l answers) w) := by
  have e0 : runAll code l answers = ([], 0) := by unfold runAll; rw [hR]; rfl
  rw [e0]
  have HC := Aside0.mk hr
  have HL := Aside0.mk hrl
  have HCc := Aside0.mk hc
  have HCl := Aside0.mk hcl
  have HLl := Aside0.mk hl
  clear hr hrl hc hcl hl e0
  go_enter Try.func16, Try.ntmps16
  go_wp2_with (go_at_call 13; refine (right_any A c code Al cl l _ (Kd.C_alloc HC.out _) HCc.out (Kd.C_alloc HL.out _) HCl.out HLl.out).mono ?_; rintro e w2 ⟨rfl, hb⟩; rw [hR]; have K6 := Aside0.mk (blk_below (blk_new w (.cells #[.slice none 0 0, .int .i64 0] 31)) hb); have HB := Aside0.mk (below_step (below_alloc (Below.refl _ _) _) hb); clear hb; have y0 := blk_cell K6.out 0; have y1 := blk_cell K6.out 1; have f0 := blk_frozen K6.out)
  refine bodyPost_ret (v := .agg #[.slice none 0 0, .int .i64 0]) ?_ rfl ⟨_, rfl, Kd.R_nil _ _ _ _ _, ?_⟩
  · simp [results, Try.results16, go_sem, y0, y1]
  · repeat (first | exact HB.out | (refine below_set ?_ (Nat.le_refl _)))
theorem built75 (A : Option Addr) (n c : Nat) (w : World) : (Instr.build 75 #[(1, .slice A n c)]).run Try.prog w = .ok (.agg (rcells zT (.slice A n c) (.slice none 0 0))) w := by kernel_rfl
theorem size75 : (Try.prog.info? 75).map (·.size) = some 402 := by kernel_rfl
theorem Rn.born {w W w1 : World} {g : Nat} {A : Option Addr} {c : Nat} {ans : List Int} (hB : Below w.heap.size w W) (hr : (Kd.int .i64).C w A ans.length ans) (hc : ans.length ≤ c) (hg : g = W.heap.size)
    (h1 : w1.heap[g]? = some (.cells (rcells zT (.slice A ans.length c) (.slice none 0 0)) 75 (0, 0))) (hb : Below W.heap.size W w1) : Rn w w1 g zT A c ans (.slice none 0 0) [] :=
  ⟨below_step hB hb, h1, zT_len, hr, hc, Kd.R_nil _ _ _ _ _, hg ▸ hB.size⟩
theorem ne47 : ∀ q, q ∈ 47 :: k47.E → q ≠ 31 := by
  intro q hq
  have h : k47.E = [] := rfl
  rw [h] at hq
  simp at hq
  omega
set_option maxHeartbeats 8000000 in
set_option maxRecDepth 100000 in
theorem run_right (A : Option Addr) (c : Nat) (code : List S40) (Al : Option Addr) (cl : Nat) (l : List S80) (An : Option Addr) (cn : Nat) (answers : List Int) (w : World) (hr : Kd.C k40 w A code.length code) (hc : code.length ≤ c) (hrl : Kd.C k80 w Al l.length l) (hcl : l.length ≤ cl) (hl : l.length ≤ 1000) (hra : (Kd.int .i64).C w An answers.length answers) (hca : answers.length ≤ cn) (hR : right code l = true) :
    Calls Try.prog 16 #[.slice A code.length c, .slice Al l.length cl, .slice An answers.length cn] w (RunEnd (runAll code l answers) w) := by
  have e0 : runAll code l answers = runF code code.length 0 zT answers [] := by unfold runAll; rw [hR]; rfl
  rw [e0]
  obtain ⟨hn1, hn2, h18, hchk, -⟩ := right_parts hR
  have HC := Aside0.mk hr
  have HL := Aside0.mk hrl
  have HCc := Aside0.mk hc
  have HCl := Aside0.mk hcl
  have HLl := Aside0.mk hl
  have HA := Aside0.mk hra
  have HCA := Aside0.mk hca
  have H18 := Aside0.mk h18
  have HK := Aside0.mk hchk
  clear hr hrl hc hcl hl e0 hra hca h18 hchk
  go_enter Try.func16, Try.ntmps16
  go_wp2_with (first
    | (go_at_call 13; refine (right_any A c code Al cl l _ (Kd.C_alloc HC.out _) HCc.out (Kd.C_alloc HL.out _) HCl.out HLl.out).mono ?_; rintro e w2 ⟨rfl, hb⟩; rw [hR]; have K6 := Aside0.mk (blk_below (blk_new w (.cells #[.slice none 0 0, .int .i64 0] 31)) hb); have HB := Aside0.mk (below_step (below_alloc (Below.refl _ _) _) hb); clear hb)
    | ((with_reducible refine gate_ (.build 75 #[(1, .tmp 16)]) rfl ?_); go_loud (refine Kd.event_run (w1 := w2) (v := .agg (rcells zT (.slice An answers.length cn) (.slice none 0 0))) rfl ?hb75 ?_; (case hb75 => kernel_rfl)))
    | ((with_reducible refine gate_ (.box 75 (.tmp 17)) rfl ?_); refine box_event (cs := rcells zT (.slice An answers.length cn) (.slice none 0 0)) (t := 75) rfl (N := 18) rfl ?hb76 ?_; (case hb76 => kernel_rfl); intro g hg w3 hb3 hB3; have S0 := Aside0.mk (Rn.born HB.out HA.out HCA.out hg hb3 hB3); have K63 := Aside0.mk (blk_below K6.out hB3); clear hg hb3 hB3))
  obtain ⟨RR, hRR⟩ : ∃ RR, runF code code.length 0 zT answers [] = RR := ⟨_, rfl⟩
  rw [hRR]
  have HI := Aside0.mk hRR
  clear hRR
  go_loopw [8] (fun v wr => ∃ (i f : Nat) (T ans : List Int) (acts : List S47) (Ab : Option Addr) (cb : Nat) (vt : Value), v = .int .i64 (i : Int) ∧ i < code.length ∧ code.length - i ≤ f ∧ Aside0 (acts.length ≤ i) ∧ Aside0 (runF code f i T ans acts = RR) ∧ Aside0 (Rn w wr g T Ab cb ans vt acts) ∧ Aside0 (wr.heap[w.heap.size]? = some (.cells #[.slice none 0 0, .int .i64 0] 31 (0, 0)))) (fun v _ => code.length - (intOf v).toNat)
  case atStart => exact ⟨0, code.length, zT, answers, [], _, _, _, rfl, by omega, by omega, ⟨Nat.le_refl _⟩, ⟨HI.out⟩, S0, K63⟩
  case round =>
    clear S0 K63 HI
    obtain ⟨i, f, T, ans, acts, Ab, cb, vt, rfl, hi, hf, HLn, HI, S0, K6⟩ := hrel
    obtain ⟨f, rfl⟩ : ∃ f', f = f' + 1 := ⟨f - 1, by omega⟩
    obtain ⟨ad1, ea, k0, k1, k2, k3, k4, k5, k6, k7⟩ := at_T40 (Kd.C_below HC.out S0.out.HB) (i : Int) (by omega) (by omega)
    cases ea
    simp only [Int.toNat_natCast] at k0 k1 k2 k3 k4 k5 k6 k7
    rw [ins_at] at k0 k1 k2 k3 k4 k5 k6 k7
    have q1 : ((i : Int) < (code.length : Int)) = True := eq_true (by omega)
    have q0 : (0 ≤ (i : Int)) = True := eq_true (by omega)
    obtain ⟨hok, hd, ha, hb⟩ := chk_bd (HK.out i hi)
    have HD := Aside0.mk (fun (W : World) (S : Rn w W g T Ab cb ans vt acts) => do_any S (i : Int) (ins code i) (by omega) (by omega) (by have := HLn.out; omega) hok hd ha hb)
    clear hok hd ha hb
    have HN := Aside0.mk (next_in hn2 H18.out hi (HK.out i hi) T ans)
    have HW := Aside0.mk (stp_new (ins code i) i T ans)
    have e9 : runF code (f + 1) i T ans acts = if (stp (ins code i) i T ans).fin = 0 then runF code f (stp (ins code i) i T ans).next (stp (ins code i) i T ans).T (stp (ins code i) i T ans).ans (acts ++ (stp (ins code i) i T ans).new) else (acts ++ (stp (ins code i) i T ans).new, (stp (ins code i) i T ans).fin) := rfl
    have HE := Aside0.mk e9
    clear e9
    obtain ⟨X, hX⟩ : ∃ X, X = ins code i := ⟨_, rfl⟩
    rw [← hX] at k0 k1 k2 k3 k4 k5 k6 k7 HD HE HN HW
    clear hX
    obtain ⟨s, hs⟩ : ∃ s, s = stp X i T ans := ⟨_, rfl⟩
    rw [← hs] at HE HD HN HW
    clear hs
    by_cases hfin : s.fin = 0
    · have c1 : (s.fin != 0) = false := by simpa using hfin
      obtain ⟨hn3, hn4⟩ := HN.out hfin
      have HF := Aside0.mk hfin
      clear hfin
      go_wp2_with (go_at_call 39; refine (HD.out _ S0.out).mono ?_; rintro e w4 ⟨rfl, hs, hk⟩; have S4 := Aside0.mk hs; have HK4 := Aside0.mk hk; clear hs hk)
      obtain ⟨j, hj⟩ : ∃ j : Nat, s.next = (j : Int) := ⟨s.next.toNat, by omega⟩
      obtain ⟨Ab', cb', v1, hs'⟩ := S4.out
      refine ⟨⟨j, f, s.T, s.ans, acts ++ s.new, Ab', cb', v1, by rw [hj], by omega, by omega, ⟨by have h1 := HLn.out; have h2 := HW.out; rw [List.length_append]; omega⟩, ⟨by rw [← HI.out, HE.out, if_pos HF.out, hj]⟩, ⟨hs'⟩, ⟨?_⟩⟩, by rw [hj]; simp [intOf]; omega⟩
      exact HK4.out.blk K6.out (blk_ne K6.out S0.out.blk (by decide)) (Kd.R_ne S0.out.RT K6.out (by decide))
    · have c1 : (s.fin != 0) = true := by simpa using hfin
      have HF := Aside0.mk hfin
      clear hfin HN
      go_wp2_with (go_at_call 39; refine (HD.out _ S0.out).mono ?_; rintro e w4 ⟨rfl, ⟨Ab4, cb4, v4, hs4⟩, hk⟩; have HK4 := Aside0.mk hk; have S4 := Aside0.mk hs4; obtain ⟨A4, c4, rfl⟩ := Kd.R_slice hs4.RT; have hca := hs4.cacts; have K64 := Aside0.mk (hk.blk K6.out (blk_ne K6.out S0.out.blk (by decide)) (Kd.R_ne S0.out.RT K6.out (by decide))); clear hs4 hk; have y0 := blk_cell K64.out 0; have y1 := blk_cell K64.out 1; have f0 := blk_frozen K64.out)
      refine bodyPost_ret (v := .agg #[.slice A4 (acts ++ s.new).length c4, .int .i64 s.fin]) ?_ rfl ⟨_, by rw [show RR = (acts ++ s.new, s.fin) by rw [← HI.out, HE.out, if_neg HF.out]], ?_, ?_⟩
      · simp [results, Try.results16, go_sem, y0, y1]
      · rw [show RR = (acts ++ s.new, s.fin) by rw [← HI.out, HE.out, if_neg HF.out]]
        exact Kd.R_mono (Kd.R_set (Kd.R_set S4.out.RT K64.out ne47 0 _) (blk_put K64.out 0 _ rfl) ne47 1 _) (fun _ _ => trivial)
      · exact below_set (below_set S4.out.HB (Nat.le_refl _)) (Nat.le_refl _)
end Go.Proofs.Ytdmbnlpcfgphpaa.Q
