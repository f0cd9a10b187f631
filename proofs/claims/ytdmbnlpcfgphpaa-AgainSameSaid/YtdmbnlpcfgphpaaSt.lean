/- The tables of tree.Right as one word. -/
import Derived.Test.YtdmbnlpcfgphpaaSpec
namespace Go.Proofs.Ytdmbnlpcfgphpaa.Q
open Go.RowKit Go.Maps Go.Proofs.YtdmbnlpcfgphpaaW.PrintWords Go.Proofs.YtdmbnlpcfgphpaaW.PrintLast Go.Proofs.YtdmbnlpcfgphpaaW.PrintMore
set_option linter.unusedVariables false
set_option linter.unusedSimpArgs false
/-- Two rows of n numbers and a map, made since w. -/
structure St (w W : World) (n g6 c6 : Nat) (xs6 : List Int) (g7 c7 : Nat) (xs7 : List Int) (g8 k : Nat) (m : Int → Option Int) : Prop where
  HB : Below w.heap.size w W
  R6 : (Kd.int .i64).R 3 W w.heap.size (fun q => q = g6) (.slice (some ⟨g6, 0, none⟩) n c6) xs6
  R7 : (Kd.int .i64).R 3 W w.heap.size (fun q => q = g7) (.slice (some ⟨g7, 0, none⟩) n c7) xs7
  M8 : MapI W g8 k m
  b6 : w.heap.size ≤ g6
  b7 : w.heap.size ≤ g7
  b8 : w.heap.size ≤ g8
  l6 : g6 < W.heap.size
  l7 : g7 < W.heap.size
  n67 : g6 ≠ g7
  n68 : g6 ≠ g8
  n78 : g7 ≠ g8
section
variable {w W W' : World} {n g6 c6 : Nat} {xs6 : List Int} {g7 c7 : Nat} {xs7 : List Int} {g8 k : Nat} {m : Int → Option Int}
theorem St.l8 (S : St w W n g6 c6 xs6 g7 c7 xs7 g8 k m) : g8 < W.heap.size := S.M8.lt
theorem St.below (S : St w W n g6 c6 xs6 g7 c7 xs7 g8 k m) (hb : Below W.heap.size W W') : St w W' n g6 c6 xs6 g7 c7 xs7 g8 k m :=
  ⟨below_step S.HB hb, Kd.R_below S.R6 hb, Kd.R_below S.R7 hb, S.M8.below hb, S.b6, S.b7, S.b8, Nat.lt_of_lt_of_le S.l6 hb.size, Nat.lt_of_lt_of_le S.l7 hb.size, S.n67, S.n68, S.n78⟩
theorem St.alloc (S : St w W n g6 c6 xs6 g7 c7 xs7 g8 k m) (o : Obj) : St w (W.alloc o) n g6 c6 xs6 g7 c7 xs7 g8 k m := S.below (below_alloc (Below.refl _ _) o)
theorem St.drewN (S : St w W n g6 c6 xs6 g7 c7 xs7 g8 k m) (j : Nat) : St w (W.drewN j) n g6 c6 xs6 g7 c7 xs7 g8 k m := S.below (pw_below_drewN (Below.refl _ _) j)
theorem St.drew (S : St w W n g6 c6 xs6 g7 c7 xs7 g8 k m) : St w W.drew n g6 c6 xs6 g7 c7 xs7 g8 k m := S.below (below_drew1 (Below.refl _ _))
theorem St.grown (S : St w W n g6 c6 xs6 g7 c7 xs7 g8 k m) {g : Nat} (hg : W.grownBy W' (some g)) (hB : Below w.heap.size w W') (h6 : g6 ≠ g) (h7 : g7 ≠ g) (h8 : g8 ≠ g) : St w W' n g6 c6 xs6 g7 c7 xs7 g8 k m :=
  ⟨hB, Kd.R_grown S.R6 hg (fun q hq he => h6 (by subst hq; injection he)), Kd.R_grown S.R7 hg (fun q hq he => h7 (by subst hq; injection he)), S.M8.kept hg (fun he => h8 (by injection he)), S.b6, S.b7, S.b8, Nat.lt_of_lt_of_le S.l6 hg.size, Nat.lt_of_lt_of_le S.l7 hg.size, S.n67, S.n68, S.n78⟩
theorem St.put6 (S : St w W n g6 c6 xs6 g7 c7 xs7 g8 k m) (j : Int) (v : Int) : St w (W.setCell ⟨g6, j.toNat, none⟩ (.int .i64 v)) n g6 c6 (xs6.set j.toNat v) g7 c7 xs7 g8 k m := by
  have hg := (Kd.R_putg S.R6 j v).2
  exact ⟨below_set S.HB S.b6, (Kd.R_putg S.R6 j v).1, Kd.R_far S.R7 (fun q hq => by subst hq; exact S.n67.symm) _, S.M8.set S.n68.symm _ _, S.b6, S.b7, S.b8, Nat.lt_of_lt_of_le S.l6 hg.size, Nat.lt_of_lt_of_le S.l7 hg.size, S.n67, S.n68, S.n78⟩
theorem St.put7 (S : St w W n g6 c6 xs6 g7 c7 xs7 g8 k m) (j : Int) (v : Int) : St w (W.setCell ⟨g7, j.toNat, none⟩ (.int .i64 v)) n g6 c6 xs6 g7 c7 (xs7.set j.toNat v) g8 k m := by
  have hg := (Kd.R_putg S.R7 j v).2
  exact ⟨below_set S.HB S.b7, Kd.R_far S.R6 (fun q hq => by subst hq; exact S.n67) _, (Kd.R_putg S.R7 j v).1, S.M8.set S.n78.symm _ _, S.b6, S.b7, S.b8, Nat.lt_of_lt_of_le S.l6 hg.size, Nat.lt_of_lt_of_le S.l7 hg.size, S.n67, S.n68, S.n78⟩
theorem St.map (S : St w W n g6 c6 xs6 g7 c7 xs7 g8 k m) {m' : Int → Option Int} (hg : W.grownBy W' (some g8)) (hm : MapI W' g8 (k + 1) m') : St w W' n g6 c6 xs6 g7 c7 xs7 g8 (k + 1) m' :=
  ⟨S.HB.grown hg S.HB.size (fun j hj => by cases hj; exact S.b8), Kd.R_grown S.R6 hg (fun q hq he => S.n68 (by subst hq; injection he)), Kd.R_grown S.R7 hg (fun q hq he => S.n78 (by subst hq; injection he)), hm, S.b6, S.b7, S.b8, Nat.lt_of_lt_of_le S.l6 hg.size, Nat.lt_of_lt_of_le S.l7 hg.size, S.n67, S.n68, S.n78⟩
theorem St.cell6 (S : St w W n g6 c6 xs6 g7 c7 xs7 g8 k m) (j : Int) (h0 : 0 ≤ j) (h1 : j < n) : W.cell? ⟨g6, j.toNat, none⟩ = some (.int .i64 (rd xs6 j)) ∧ W.frozen? ⟨g6, j.toNat, none⟩ = false := Kd.R_celln 0 S.R6 j h0 h1
theorem St.cell7 (S : St w W n g6 c6 xs6 g7 c7 xs7 g8 k m) (j : Int) (h0 : 0 ≤ j) (h1 : j < n) : W.cell? ⟨g7, j.toNat, none⟩ = some (.int .i64 (rd xs7 j)) ∧ W.frozen? ⟨g7, j.toNat, none⟩ = false := Kd.R_celln 0 S.R7 j h0 h1
theorem St.len6 (S : St w W n g6 c6 xs6 g7 c7 xs7 g8 k m) : xs6.length = n := (Kd.R_reads' S.R6).1.symm
theorem St.len7 (S : St w W n g6 c6 xs6 g7 c7 xs7 g8 k m) : xs7.length = n := (Kd.R_reads' S.R7).1.symm
theorem St.row7 (S : St w W n g6 c6 xs6 g7 c7 xs7 g8 k m) : (Kd.int .i64).C W (some ⟨g7, 0, none⟩) xs7.length xs7 ∧ xs7.length ≤ c7 := by
  obtain ⟨h1, h2, h3⟩ := Kd.R_reads' S.R7
  exact ⟨h3, h1 ▸ h2⟩
theorem St.ext (S : St w W n g6 c6 xs6 g7 c7 xs7 g8 k m) {ys6 ys7 : List Int} {k' : Nat} {m' : Int → Option Int} (h6 : xs6 = ys6) (h7 : xs7 = ys7) (hk : k ≤ k') (hm : m = m') : St w W n g6 c6 ys6 g7 c7 ys7 g8 k' m' := by
  subst h6; subst h7; subst hm
  obtain ⟨D, h1, h2⟩ := S.M8
  exact { S with M8 := ⟨D, h1.mono hk, h2⟩ }
/-- The tables as they are made. -/
theorem St.made {v6 v7 : Value} {W1 W2 : World} (hn : 1 ≤ n) (h6 : (Kd.int .i64).R 3 W1 w.heap.size (fun _ => True) v6 xs6) (hl6 : xs6.length = n) (hb : Below W1.heap.size W1 W2) (h7 : (Kd.int .i64).R 3 W2 w.heap.size (fun _ => True) v7 xs7) (hl7 : xs7.length = n)
    (hnew : ∃ b, v7.ownBlock = some b ∧ W1.heap.size ≤ b) (HB : Below w.heap.size w W2) : ∃ g6 c6 g7 c7, v6 = .slice (some ⟨g6, 0, none⟩) n c6 ∧ v7 = .slice (some ⟨g7, 0, none⟩) n c7 ∧ St w (W2.alloc (.map #[] 0)) n g6 c6 xs6 g7 c7 xs7 W2.heap.size 0 (fun _ => none) := by
  obtain ⟨g6, c6, rfl, hb6, hl6', _⟩ := Kd.R_form h6 (by omega)
  obtain ⟨g7, c7, rfl, hb7, hl7', _⟩ := Kd.R_form h7 (by omega)
  obtain ⟨b, hb1, hb2⟩ := hnew
  have e : g7 = b := by simpa [Value.ownBlock] using hb1
  subst e
  rw [hl6] at h6
  rw [hl7] at h7
  have a2 : Below W2.heap.size W2 (W2.alloc (.map #[] 0)) := below_alloc (Below.refl _ _) _
  have l2 := hb.size
  refine ⟨g6, c6, g7, c7, by rw [hl6], by rw [hl7], below_alloc HB _, Kd.R_alloc (Kd.R_below (Kd.R_mono (Kd.R_tight rfl h6) ?_) hb) _, Kd.R_alloc (Kd.R_mono (Kd.R_tight rfl h7) ?_) _, MapI.made _, hb6, hb7, HB.size, Nat.lt_of_lt_of_le (Nat.lt_of_lt_of_le hl6' l2) a2.size, Nat.lt_of_lt_of_le hl7' a2.size, ?_, ?_, ?_⟩
  · intro q hq; simpa [Value.ownBlock] using hq
  · intro q hq; simpa [Value.ownBlock] using hq
  · omega
  · omega
  · omega
end
section
variable {ops : Array Oper} {rest : List Oper} {o : Oper} {a : Act} {Q : Exit → Act → World → Prop}
variable {w W W' : World} {n g6 c6 : Nat} {xs6 : List Int} {g7 c7 : Nat} {xs7 : List Int} {g8 k : Nat} {m : Int → Option Int}
theorem St.store6 (S : St w W n g6 c6 xs6 g7 c7 xs7 g8 k m) (hgd : o.guard = none) (hN : o.dst = none) (p x : Operand) (ho : o.op = .store 3 p x) (j v : Int) (h0 : 0 ≤ j) (h1 : j < n) (haddr : a.eval p = .pointer (some ⟨g6, j.toNat, none⟩)) (hx : a.eval x = .int .i64 v)
    (h : ∀ w1, St w w1 n g6 c6 (xs6.set j.toNat v) g7 c7 xs7 g8 k m → W.grownBy w1 (some g6) → wpList Try.prog ops Q rest a w1) : wpList Try.prog ops Q (o :: rest) a W := by
  refine wpList_plain hgd fun K hK => ?_
  obtain ⟨hc, hf⟩ := S.cell6 j h0 h1
  have hrun : (execOp a.eval o).run Try.prog W = .ok .skip (W.setCell ⟨g6, j.toNat, none⟩ (.int .i64 v)) := by
    unfold execOp
    simp only [ho, haddr, hx]
    go_simp
  unfold Oper.wp
  rw [hrun]
  show K (a.put o.dst undef) _
  rw [hN]
  exact hK a _ (h _ (S.put6 j v) (Kd.R_putg S.R6 j v).2)
theorem St.store7 (S : St w W n g6 c6 xs6 g7 c7 xs7 g8 k m) (hgd : o.guard = none) (hN : o.dst = none) (p x : Operand) (ho : o.op = .store 3 p x) (j v : Int) (h0 : 0 ≤ j) (h1 : j < n) (haddr : a.eval p = .pointer (some ⟨g7, j.toNat, none⟩)) (hx : a.eval x = .int .i64 v)
    (h : ∀ w1, St w w1 n g6 c6 xs6 g7 c7 (xs7.set j.toNat v) g8 k m → W.grownBy w1 (some g7) → wpList Try.prog ops Q rest a w1) : wpList Try.prog ops Q (o :: rest) a W := by
  refine wpList_plain hgd fun K hK => ?_
  obtain ⟨hc, hf⟩ := S.cell7 j h0 h1
  have hrun : (execOp a.eval o).run Try.prog W = .ok .skip (W.setCell ⟨g7, j.toNat, none⟩ (.int .i64 v)) := by
    unfold execOp
    simp only [ho, haddr, hx]
    go_simp
  unfold Oper.wp
  rw [hrun]
  show K (a.put o.dst undef) _
  rw [hN]
  exact hK a _ (h _ (S.put7 j v) (Kd.R_putg S.R7 j v).2)
end
end Go.Proofs.Ytdmbnlpcfgphpaa.Q
