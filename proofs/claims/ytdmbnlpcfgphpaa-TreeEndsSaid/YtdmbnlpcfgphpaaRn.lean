/- The state of a run of code behind its pointer, and the words that it is written by. -/
import Derived.Test.YtdmbnlpcfgphpaaTree
import Derived.Lib.Hide
namespace Go.Proofs.Ytdmbnlpcfgphpaa.Q
open Go.RowKit Go.Proofs.YtdmbnlpcfgphpaaW.PrintWords Go.Proofs.YtdmbnlpcfgphpaaW.PrintLast Go.Proofs.YtdmbnlpcfgphpaaW.PrintMore
set_option linter.unusedVariables false
set_option linter.unusedSimpArgs false
def rcells (T : List Int) (va vt : Value) : Array Value := ((T.map (Value.int .i64)) ++ [va, vt]).toArray
theorem rcells_size (T : List Int) (va vt : Value) (h : T.length = 400) : (rcells T va vt).size = 402 := by simp [rcells, h]
theorem rcells_temp (T : List Int) (va vt : Value) (h : T.length = 400) (i : Int) (h0 : 0 ≤ i) (h1 : i < 400) : (rcells T va vt)[i.toNat]? = some (.int .i64 (rd T i)) := by
  have : i.toNat < T.length := by omega
  simp [rcells, rd, List.getD, List.getElem?_append, this]
theorem rcells_ans (T : List Int) (va vt : Value) (h : T.length = 400) : (rcells T va vt)[400]? = some va := by
  simp [rcells, List.getElem?_append, h]
theorem rcells_acts (T : List Int) (va vt : Value) (h : T.length = 400) : (rcells T va vt)[401]? = some vt := by
  simp [rcells, List.getElem?_append, h]
theorem rcells_set_temp (T : List Int) (va vt : Value) (h : T.length = 400) (i : Nat) (h1 : i < 400) (n : Int) : (rcells T va vt).setIfInBounds i (.int .i64 n) = rcells (T.set i n) va vt := by
  simp [rcells, List.set_append, h, h1]
theorem rcells_set_ans (T : List Int) (va vt u : Value) (h : T.length = 400) : (rcells T va vt).setIfInBounds 400 u = rcells T u vt := by
  simp [rcells, List.set_append, h]
theorem rcells_set_acts (T : List Int) (va vt u : Value) (h : T.length = 400) : (rcells T va vt).setIfInBounds 401 u = rcells T va u := by
  simp [rcells, List.set_append, h]
/-- Block g is a runner: temps T, answers that are left, acts that are done; made since w. -/
structure Rn (w W : World) (g : Nat) (T : List Int) (Aa : Option Addr) (ca : Nat) (ans : List Int) (vt : Value) (acts : List S47) : Prop where
  HB : Below w.heap.size w W
  blk : W.heap[g]? = some (.cells (rcells T (.slice Aa ans.length ca) vt) 75 (0, 0))
  TL : T.length = 400
  RA : (Kd.int .i64).C w Aa ans.length ans
  cA : ans.length ≤ ca
  RT : Kd.R k47 47 W w.heap.size (fun q => q ≠ g) vt acts
  bg : w.heap.size ≤ g
section
variable {w W W' : World} {g : Nat} {T : List Int} {Aa : Option Addr} {ca : Nat} {ans : List Int} {vt : Value} {acts : List S47}
theorem Rn.lt (S : Rn w W g T Aa ca ans vt acts) : g < W.heap.size := blk_lt S.blk
theorem Rn.below (S : Rn w W g T Aa ca ans vt acts) (hb : Below W.heap.size W W') : Rn w W' g T Aa ca ans vt acts :=
  ⟨below_step S.HB hb, blk_below S.blk hb, S.TL, S.RA, S.cA, Kd.R_below S.RT hb, S.bg⟩
theorem Rn.alloc (S : Rn w W g T Aa ca ans vt acts) (o : Obj) : Rn w (W.alloc o) g T Aa ca ans vt acts := S.below (below_alloc (Below.refl _ _) o)
theorem Rn.drewN (S : Rn w W g T Aa ca ans vt acts) (j : Nat) : Rn w (W.drewN j) g T Aa ca ans vt acts := S.below (pw_below_drewN (Below.refl _ _) j)
theorem Rn.drew (S : Rn w W g T Aa ca ans vt acts) : Rn w W.drew g T Aa ca ans vt acts := S.below (below_drew1 (Below.refl _ _))
theorem Rn.cans (S : Rn w W g T Aa ca ans vt acts) : W.cell? ⟨g, 400, none⟩ = some (.slice Aa ans.length ca) := (blk_cell S.blk 400).trans (rcells_ans _ _ _ S.TL)
theorem Rn.cacts (S : Rn w W g T Aa ca ans vt acts) : W.cell? ⟨g, 401, none⟩ = some vt := (blk_cell S.blk 401).trans (rcells_acts _ _ _ S.TL)
theorem Rn.ctemp (S : Rn w W g T Aa ca ans vt acts) (i : Int) (h0 : 0 ≤ i) (h1 : i < 400) : W.cell? ⟨g, i.toNat, none⟩ = some (.int .i64 (rd T i)) := (blk_cell S.blk _).trans (rcells_temp _ _ _ S.TL i h0 h1)
theorem Rn.frozen (S : Rn w W g T Aa ca ans vt acts) (j : Nat) : W.frozen? ⟨g, j, none⟩ = false := blk_frozen S.blk j
theorem Rn.put_temp (S : Rn w W g T Aa ca ans vt acts) (i : Int) (h0 : 0 ≤ i) (h1 : i < 400) (n : Int) : Rn w (W.setCell ⟨g, i.toNat, none⟩ (.int .i64 n)) g (T.set i.toNat n) Aa ca ans vt acts :=
  ⟨below_set S.HB S.bg, blk_put S.blk _ _ (rcells_set_temp _ _ _ S.TL _ (by omega) _), by rw [List.length_set]; exact S.TL, S.RA, S.cA, Kd.R_far S.RT (fun _ hk => hk) _, S.bg⟩
theorem Rn.put_ans (S : Rn w W g T Aa ca ans vt acts) {Ab : Option Addr} {cb : Nat} {ans' : List Int} (h1 : (Kd.int .i64).C w Ab ans'.length ans') (h2 : ans'.length ≤ cb) : Rn w (W.setCell ⟨g, 400, none⟩ (.slice Ab ans'.length cb)) g T Ab cb ans' vt acts :=
  ⟨below_set S.HB S.bg, blk_put S.blk _ _ (rcells_set_ans _ _ _ _ S.TL), S.TL, h1, h2, Kd.R_far S.RT (fun _ hk => hk) _, S.bg⟩
/-- The acts are another row now. -/
theorem Rn.put_acts (S : Rn w W g T Aa ca ans vt acts) {v1 : Value} {acts' : List S47} {row : Option Nat} (hg : W.grownBy W' row) (hB : Below w.heap.size w W') (hr : some g ≠ row) (h1 : Kd.R k47 47 W' w.heap.size (fun q => q ≠ g) v1 acts') : Rn w (W'.setCell ⟨g, 401, none⟩ v1) g T Aa ca ans v1 acts' :=
  ⟨below_set hB S.bg, blk_put (blk_grown S.blk hg hr) _ _ (rcells_set_acts _ _ _ _ S.TL), S.TL, S.RA, S.cA, Kd.R_far h1 (fun _ hk => hk) _, S.bg⟩
theorem Rn.own_ne (S : Rn w W g T Aa ca ans vt acts) : some g ≠ vt.ownBlock := fun he => S.RT.1 g he.symm rfl
end
end Go.Proofs.Ytdmbnlpcfgphpaa.Q
