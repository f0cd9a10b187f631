/- again.Again: its state in memory; the plain words for what it gives back. -/
import Derived.Test.YtdmbnlpcfgphpaaBeg
namespace Go.Proofs.Ytdmbnlpcfgphpaa.Q
open Go.RowKit Go.Maps Go.Proofs.YtdmbnlpcfgphpaaW.PrintWords Go.Proofs.YtdmbnlpcfgphpaaW.PrintLast Go.Proofs.YtdmbnlpcfgphpaaW.PrintMore
set_option linter.unusedVariables false
set_option linter.unusedSimpArgs false
/-- How many of the first j pieces are not spare. -/
def nsp (code : List S40) : Nat → Nat
  | 0 => 0
  | j + 1 => nsp code j + (if spr code j = true then 0 else 1)
theorem nsp_le (code : List S40) : ∀ j, nsp code j ≤ j
  | 0 => Nat.le_refl _
  | j + 1 => by have := nsp_le code j; unfold nsp; split <;> omega
def atL (code : List S40) (i : Nat) : List Int := (List.range code.length).map fun j => if j < i then (nsp code j : Int) else 0
theorem atL_len (code : List S40) (i : Nat) : (atL code i).length = code.length := by simp [atL]
theorem atL_zero (code : List S40) : atL code 0 = List.replicate code.length 0 := by
  apply List.ext_getElem <;> simp [atL]
theorem atL_succ (code : List S40) (i : Nat) : (atL code i).set i (nsp code i : Int) = atL code (i + 1) := by
  apply List.ext_getElem
  · simp [atL]
  intro k h1 h2
  simp only [atL, List.getElem_set, List.getElem_map, List.getElem_range]
  by_cases e : i = k
  · subst e; simp
  · rw [if_neg e]
    by_cases h : k < i
    · rw [if_pos h, if_pos (by omega)]
    · rw [if_neg h, if_neg (by omega)]
theorem atL_at (code : List S40) (j : Nat) (hj : j < code.length) : (atL code code.length).getD j 0 = (nsp code j : Int) := by
  simp [atL, List.getD, hj]
def noA (o : Int) : Bool := decide (o ≤ 1) || o == 6 || o == 8 || o == 18
def noB (o : Int) : Bool := o == 7 || o == 9 || o == 10 || o == 11 || o == 13 || o == 15
/-- A piece that stays, over the temps that stand for its own ones. -/
def agI (code : List S40) (x : S40) : S40 := ⟨x.f0, x.f1, if noA x.f0 = true then 0 else mea code x.f2, if noA x.f0 = true then 0 else if noB x.f0 = true then 0 else mea code x.f3, x.f4, x.f5, x.f6, if x.f7 = 0 then 0 else (nsp code x.f7.toNat : Int)⟩
/-- .. of the first i pieces. -/
def outL (code : List S40) : Nat → List S40
  | 0 => []
  | i + 1 => if spr code i = true then outL code i else outL code i ++ [agI code (ins code i)]
theorem outL_len (code : List S40) : ∀ i, (outL code i).length = nsp code i
  | 0 => rfl
  | i + 1 => by
    unfold outL nsp
    split
    · rw [outL_len code i]; omega
    · rw [List.length_append, outL_len code i]; rfl
def agA (code : List S40) (l : List S80) : List S40 × Int := if right code l = true then (outL code code.length, 0) else ([], 3)
theorem ag_grown {α : Type} {d : Kd α} {e base : Nat} {ok : Nat → Prop} {W w1 : World} {v : Value} {xs : List α} (h : d.R e W base ok v xs) (hE : d.E = []) {g : Nat} (hg : W.grownBy w1 (some g)) (hne : some g ≠ v.ownBlock) : d.R e w1 base ok v xs :=
  Kd.R_mono (Kd.R_grown (Kd.R_tight hE h) hg (fun _ hk e_ => hne (e_.symm.trans hk))) (fun k hk => h.1 k hk.symm)
theorem ag_grown0 {α : Type} {d : Kd α} {e base : Nat} {ok : Nat → Prop} {W w1 : World} {v : Value} {xs : List α} (h : d.R e W base ok v xs) (hE : d.E = []) {row : Option Nat} (hg : W.grownBy w1 row) (hne : ∀ k, row = some k → some k ≠ v.ownBlock) : d.R e w1 base ok v xs :=
  Kd.R_mono (Kd.R_grown (Kd.R_tight hE h) hg (fun k hk e_ => hne k e_.symm hk)) (fun k hk => h.1 k hk.symm)
theorem grown_cell (W : World) (g j : Nat) (v : Value) : W.grownBy (W.setCell ⟨g, j, none⟩ v) (some g) :=
  ⟨rfl, rfl, rfl, by simp [World.setCell], fun k _ hk => Below.heap_setCell W _ _ k (fun e => hk (by rw [e]))⟩
/-- A walker, a row of numbers (block ga) and the pieces so far. -/
structure Ag (w W : World) (A : Option Addr) (n c b gs cs gm km : Nat) (sp : List Bool) (M : KM) (ga ca : Nat) (xs : List Int) (vo : Value) (out : List S40) : Prop where
  K : Wk w W A n c b gs cs gm km sp M
  RA : (Kd.int .i64).R 3 W w.heap.size (fun q => q = ga) (.slice (some ⟨ga, 0, none⟩) n ca) xs
  RO : Kd.R k40 40 W w.heap.size (fun q => q ≠ b ∧ q ≠ gs ∧ q ≠ gm ∧ q ≠ ga) vo out
  ba : w.heap.size ≤ ga
  la : ga < W.heap.size
  nab : ga ≠ b
  nas : ga ≠ gs
  nam : ga ≠ gm
section
variable {w W W' : World} {A : Option Addr} {n c b gs cs gm km : Nat} {sp : List Bool} {M : KM} {ga ca : Nat} {xs : List Int} {vo : Value} {out : List S40}
theorem Ag.below (S : Ag w W A n c b gs cs gm km sp M ga ca xs vo out) (hb : Below W.heap.size W W') : Ag w W' A n c b gs cs gm km sp M ga ca xs vo out :=
  ⟨S.K.below hb, Kd.R_below S.RA hb, Kd.R_below S.RO hb, S.ba, Nat.lt_of_lt_of_le S.la hb.size, S.nab, S.nas, S.nam⟩
theorem Ag.alloc (S : Ag w W A n c b gs cs gm km sp M ga ca xs vo out) (o : Obj) : Ag w (W.alloc o) A n c b gs cs gm km sp M ga ca xs vo out := S.below (below_alloc (Below.refl _ _) o)
theorem Ag.drewN (S : Ag w W A n c b gs cs gm km sp M ga ca xs vo out) (j : Nat) : Ag w (W.drewN j) A n c b gs cs gm km sp M ga ca xs vo out := S.below (pw_below_drewN (Below.refl _ _) j)
theorem Ag.drew (S : Ag w W A n c b gs cs gm km sp M ga ca xs vo out) : Ag w W.drew A n c b gs cs gm km sp M ga ca xs vo out := S.below (below_drew1 (Below.refl _ _))
/-- Another block is written. -/
theorem Ag.grown (S : Ag w W A n c b gs cs gm km sp M ga ca xs vo out) {g : Nat} (hg : W.grownBy W' (some g)) (hbg : w.heap.size ≤ g) (h1 : g ≠ b) (h2 : g ≠ gs) (h3 : g ≠ gm) (h4 : g ≠ ga) (h5 : some g ≠ vo.ownBlock) : Ag w W' A n c b gs cs gm km sp M ga ca xs vo out :=
  ⟨S.K.grown hg hbg h1 h2 h3, Kd.R_grown S.RA hg (fun q hq he => h4 (by subst hq; exact (Option.some.inj he).symm)), ag_grown S.RO rfl hg h5, S.ba, Nat.lt_of_lt_of_le S.la hg.size, S.nab, S.nas, S.nam⟩
/-- A number is laid into the row. -/
theorem Ag.at_ (S : Ag w W A n c b gs cs gm km sp M ga ca xs vo out) (j v : Int) : Ag w (W.setCell ⟨ga, j.toNat, none⟩ (.int .i64 v)) A n c b gs cs gm km sp M ga ca (xs.set j.toNat v) vo out :=
  ⟨S.K.grown (Kd.R_putg S.RA j v).2 S.ba S.nab S.nas S.nam, (Kd.R_putg S.RA j v).1, ag_grown S.RO rfl (Kd.R_putg S.RA j v).2 (fun he => (S.RO.1 ga he.symm).2.2.2 rfl), S.ba, Nat.lt_of_lt_of_le S.la (Kd.R_putg S.RA j v).2.size, S.nab, S.nas, S.nam⟩
/-- A piece more. -/
theorem Ag.more (S : Ag w W A n c b gs cs gm km sp M ga ca xs vo out) {v1 : Value} {out' : List S40} (hg : W.grownBy W' vo.ownBlock) (hB : Below w.heap.size w W') (h1 : Kd.R k40 40 W' w.heap.size (fun q => q ≠ b ∧ q ≠ gs ∧ q ≠ gm ∧ q ≠ ga) v1 out') : Ag w W' A n c b gs cs gm km sp M ga ca xs v1 out' := by
  have hne : ∀ q, (q = b ∨ q = gs ∨ q = gm ∨ q = ga) → some q ≠ vo.ownBlock := fun q hq he => by
    have := S.RO.1 q he.symm
    omega
  have hk : Wk w W' A n c b gs cs gm km sp M := by
    cases hv : vo.ownBlock with
    | some g =>
      rw [hv] at hg hne
      have hb := Kd.R_base S.RO g hv
      exact S.K.grown hg hb (fun e => hne g (Or.inl e) rfl) (fun e => hne g (Or.inr (Or.inl e)) rfl) (fun e => hne g (Or.inr (Or.inr (Or.inl e))) rfl)
    | none =>
      rw [hv] at hg
      exact S.K.below ⟨hg.os, hg.tape, hg.output, hg.size, fun k hk => hg.block k hk (by simp)⟩
  exact ⟨hk, Kd.R_grown S.RA hg (fun q hq => hne q (Or.inr (Or.inr (Or.inr hq)))), h1, S.ba, Nat.lt_of_lt_of_le S.la hg.size, S.nab, S.nas, S.nam⟩
theorem Ag.ca_ (S : Ag w W A n c b gs cs gm km sp M ga ca xs vo out) (j : Int) (h0 : 0 ≤ j) (h1 : j < n) : W.cell? ⟨ga, j.toNat, none⟩ = some (.int .i64 (xs.getD j.toNat 0)) ∧ W.frozen? ⟨ga, j.toNat, none⟩ = false := Kd.R_celln 0 S.RA j h0 h1
end
section
variable {ops : Array Oper} {rest : List Oper} {o : Oper} {a : Act} {Q : Exit → Act → World → Prop}
variable {w W W' : World} {A : Option Addr} {n c b gs cs gm km : Nat} {sp : List Bool} {M : KM} {ga ca : Nat} {xs : List Int} {vo : Value} {out : List S40}
theorem Ag.store_at (S : Ag w W A n c b gs cs gm km sp M ga ca xs vo out) (hgd : o.guard = none) (hN : o.dst = none) (p x : Operand) (ho : o.op = .store 3 p x) (j v : Int) (h0 : 0 ≤ j) (h1 : j < n) (haddr : a.eval p = .pointer (some ⟨ga, j.toNat, none⟩)) (hx : a.eval x = .int .i64 v)
    (h : ∀ w1, Ag w w1 A n c b gs cs gm km sp M ga ca (xs.set j.toNat v) vo out → wpList Try.prog ops Q rest a w1) : wpList Try.prog ops Q (o :: rest) a W := by
  refine wpList_plain hgd fun K hK => ?_
  obtain ⟨hc, hf⟩ := S.ca_ j h0 h1
  have hrun : (execOp a.eval o).run Try.prog W = .ok .skip (W.setCell ⟨ga, j.toNat, none⟩ (.int .i64 v)) := by
    unfold execOp
    simp only [ho, haddr, hx]
    go_simp
  unfold Oper.wp
  rw [hrun]
  show K (a.put o.dst undef) _
  rw [hN]
  exact hK a _ (h _ (S.at_ j v))
/-- A store into a block that is known whole. -/
theorem blk_store {g j : Nat} {cells cells' : Array Value} {t : TypeId} (hb : W.heap[g]? = some (.cells cells t (0, 0))) (hgd : o.guard = none) (hN : o.dst = none) (p x : Operand) (ho : o.op = .store 3 p x) (v u : Int) (hc : cells[j]? = some (.int .i64 u)) (haddr : a.eval p = .pointer (some ⟨g, j, none⟩)) (hx : a.eval x = .int .i64 v) (he : cells.setIfInBounds j (.int .i64 v) = cells')
    (h : ∀ w1, w1.heap[g]? = some (.cells cells' t (0, 0)) → W.grownBy w1 (some g) → wpList Try.prog ops Q rest a w1) : wpList Try.prog ops Q (o :: rest) a W := by
  refine wpList_plain hgd fun K hK => ?_
  have hcell : W.cell? ⟨g, j, none⟩ = some (.int .i64 u) := (blk_cell hb j).trans hc
  have hf : W.frozen? ⟨g, j, none⟩ = false := blk_frozen hb j
  have hrun : (execOp a.eval o).run Try.prog W = .ok .skip (W.setCell ⟨g, j, none⟩ (.int .i64 v)) := by
    unfold execOp
    simp only [ho, haddr, hx]
    go_simp
  unfold Oper.wp
  rw [hrun]
  show K (a.put o.dst undef) _
  rw [hN]
  exact hK a _ (h _ (blk_put hb j _ he) (grown_cell W g j _))
end
end Go.Proofs.Ytdmbnlpcfgphpaa.Q
