/- The walker of again in memory: its code, its marks, its means; the contract of meant. -/
import Derived.Test.YtdmbnlpcfgphpaaMapc
import Derived.Test.YtdmbnlpcfgphpaaAg
import Derived.Lib.Hide
import Derived.Deep.RegionLaw
import Derived.StillTailTactics
namespace Go.Proofs.Ytdmbnlpcfgphpaa.Q
open Go.RowKit Go.Maps Go.Proofs.YtdmbnlpcfgphpaaW.PrintWords Go.Proofs.YtdmbnlpcfgphpaaW.PrintLast Go.Proofs.YtdmbnlpcfgphpaaW.PrintMore
set_option linter.unusedVariables false
set_option linter.unusedSimpArgs false
/-- Block b is a walker, made since w: the code, marks sp (block gs), means M (block gm). -/
structure Wk (w W : World) (A : Option Addr) (n c b gs cs gm km : Nat) (sp : List Bool) (M : KM) : Prop where
  HB : Below w.heap.size w W
  blk : W.heap[b]? = some (.cells #[.slice A n c, .slice (some ⟨gs, 0, none⟩) n cs, .map (some gm)] 85 (0, 0))
  RS : Kd.bool.R 4 W w.heap.size (fun q => q = gs) (.slice (some ⟨gs, 0, none⟩) n cs) sp
  MM : MapI W gm km M
  bb : w.heap.size ≤ b
  bs : w.heap.size ≤ gs
  bm : w.heap.size ≤ gm
  ls : gs < W.heap.size
  nbs : b ≠ gs
  nbm : b ≠ gm
  nsm : gs ≠ gm
/-- All blocks but three are as they were. -/
def KpB (W W' : World) (g1 g2 g3 : Nat) : Prop := W.heap.size ≤ W'.heap.size ∧ ∀ i, i < W.heap.size → i ≠ g1 → i ≠ g2 → i ≠ g3 → W'.heap[i]? = W.heap[i]?
theorem KpB.refl (W : World) (g1 g2 g3 : Nat) : KpB W W g1 g2 g3 := ⟨Nat.le_refl _, fun _ _ _ _ _ => rfl⟩
theorem KpB.trans {W W1 W2 : World} {g1 g2 g3 : Nat} (h : KpB W W1 g1 g2 g3) (k : KpB W1 W2 g1 g2 g3) : KpB W W2 g1 g2 g3 :=
  ⟨Nat.le_trans h.1 k.1, fun i h0 h1 h2 h3 => (k.2 i (Nat.lt_of_lt_of_le h0 h.1) h1 h2 h3).trans (h.2 i h0 h1 h2 h3)⟩
/-- .. of a call whose third block is new. -/
theorem KpB.trans_new {W W1 W2 : World} {g1 g2 g3 g4 : Nat} (h : KpB W W1 g1 g2 g3) (k : KpB W1 W2 g1 g2 g4) (h4 : W.heap.size ≤ g4) : KpB W W2 g1 g2 g3 :=
  ⟨Nat.le_trans h.1 k.1, fun i h0 h1 h2 h3 => (k.2 i (Nat.lt_of_lt_of_le h0 h.1) h1 h2 (by omega)).trans (h.2 i h0 h1 h2 h3)⟩
theorem KpB.below {W W1 : World} {g1 g2 g3 : Nat} (hb : Below W.heap.size W W1) : KpB W W1 g1 g2 g3 := ⟨hb.size, fun i h0 _ _ _ => hb.block i h0⟩
theorem KpB.grown {W W1 : World} {g1 g2 g3 g : Nat} (hg : W.grownBy W1 (some g)) (h : g = g1 ∨ g = g2 ∨ g = g3) : KpB W W1 g1 g2 g3 :=
  ⟨hg.size, fun i h0 h1 h2 h3 => hg.block i h0 (fun he => by cases he; omega)⟩
section
variable {w W W' : World} {A : Option Addr} {n c b gs cs gm km : Nat} {sp : List Bool} {M : KM}
theorem Wk.lb (S : Wk w W A n c b gs cs gm km sp M) : b < W.heap.size := blk_lt S.blk
theorem Wk.lm (S : Wk w W A n c b gs cs gm km sp M) : gm < W.heap.size := S.MM.lt
theorem Wk.below (S : Wk w W A n c b gs cs gm km sp M) (hb : Below W.heap.size W W') : Wk w W' A n c b gs cs gm km sp M :=
  ⟨below_step S.HB hb, blk_below S.blk hb, Kd.R_below S.RS hb, S.MM.below hb, S.bb, S.bs, S.bm, Nat.lt_of_lt_of_le S.ls hb.size, S.nbs, S.nbm, S.nsm⟩
theorem Wk.alloc (S : Wk w W A n c b gs cs gm km sp M) (o : Obj) : Wk w (W.alloc o) A n c b gs cs gm km sp M := S.below (below_alloc (Below.refl _ _) o)
theorem Wk.drewN (S : Wk w W A n c b gs cs gm km sp M) (j : Nat) : Wk w (W.drewN j) A n c b gs cs gm km sp M := S.below (pw_below_drewN (Below.refl _ _) j)
theorem Wk.drew (S : Wk w W A n c b gs cs gm km sp M) : Wk w W.drew A n c b gs cs gm km sp M := S.below (below_drew1 (Below.refl _ _))
theorem Wk.grown (S : Wk w W A n c b gs cs gm km sp M) {g : Nat} (hg : W.grownBy W' (some g)) (hbg : w.heap.size ≤ g) (h1 : g ≠ b) (h2 : g ≠ gs) (h3 : g ≠ gm) : Wk w W' A n c b gs cs gm km sp M :=
  ⟨S.HB.grown hg S.HB.size (fun j hj => by cases hj; exact hbg), blk_grown S.blk hg (fun he => h1 (Option.some.inj he).symm), Kd.R_grown S.RS hg (fun q hq he => h2 (by subst hq; exact (Option.some.inj he).symm)), S.MM.kept hg (fun he => h3 (Option.some.inj he).symm), S.bb, S.bs, S.bm, Nat.lt_of_lt_of_le S.ls hg.size, S.nbs, S.nbm, S.nsm⟩
theorem Wk.mark (S : Wk w W A n c b gs cs gm km sp M) (i : Int) (v : Bool) : Wk w (W.setCell ⟨gs, i.toNat, none⟩ (.bool v)) A n c b gs cs gm km (sp.set i.toNat v) M :=
  ⟨below_set S.HB S.bs, blk_grown S.blk (Kd.R_putg S.RS i v).2 (fun he => S.nbs (Option.some.inj he)), (Kd.R_putg S.RS i v).1, S.MM.set S.nsm.symm _ _, S.bb, S.bs, S.bm, Nat.lt_of_lt_of_le S.ls (Kd.R_putg S.RS i v).2.size, S.nbs, S.nbm, S.nsm⟩
theorem Wk.mean (S : Wk w W A n c b gs cs gm km sp M) {k' : Nat} {M' : KM} (hg : W.grownBy W' (some gm)) (hm : MapI W' gm k' M') : Wk w W' A n c b gs cs gm k' sp M' :=
  ⟨S.HB.grown hg S.HB.size (fun j hj => by cases hj; exact S.bm), blk_grown S.blk hg (fun he => S.nbm (Option.some.inj he)), Kd.R_grown S.RS hg (fun q hq he => S.nsm (by subst hq; exact Option.some.inj he)), hm, S.bb, S.bs, S.bm, Nat.lt_of_lt_of_le S.ls hg.size, S.nbs, S.nbm, S.nsm⟩
theorem Wk.len (S : Wk w W A n c b gs cs gm km sp M) : sp.length = n := (Kd.R_reads' S.RS).1.symm
theorem Wk.c0 (S : Wk w W A n c b gs cs gm km sp M) : W.cell? ⟨b, 0, none⟩ = some (.slice A n c) := blk_cell S.blk 0
theorem Wk.c1 (S : Wk w W A n c b gs cs gm km sp M) : W.cell? ⟨b, 1, none⟩ = some (.slice (some ⟨gs, 0, none⟩) n cs) := blk_cell S.blk 1
theorem Wk.c2 (S : Wk w W A n c b gs cs gm km sp M) : W.cell? ⟨b, 2, none⟩ = some (.map (some gm)) := blk_cell S.blk 2
theorem Wk.cs_ (S : Wk w W A n c b gs cs gm km sp M) (i : Int) (h0 : 0 ≤ i) (h1 : i < n) : W.cell? ⟨gs, i.toNat, none⟩ = some (.bool (sp.getD i.toNat false)) ∧ W.frozen? ⟨gs, i.toNat, none⟩ = false := Kd.R_celln false S.RS i h0 h1
set_option maxRecDepth 100000 in
/-- The temp that stands for one. -/
theorem meant_any (S : Wk w W A n c b gs cs gm km sp M) (t : Int) (ht : wf64 t) :
    Calls Try.prog 42 #[.pointer (some ⟨b, 0, none⟩), .int .i64 t] W fun e W' => e = .returned (.int .i64 (mnt M t)) ∧ W' = W := by
  have c2 := S.c2
  have MM := Aside0.mk S.MM
  clear S
  cases hM : M t with
  | none =>
    go_enter Try.func42, Try.ntmps42
    go_wp2_with (at_lookup; refine MapI.look MM.out rfl _ _ rfl rfl t rfl ht ?_; rw [hM])
    go_ret
    exact ⟨by unfold mnt; rw [hM]; rfl, rfl⟩
  | some v =>
    go_enter Try.func42, Try.ntmps42
    go_wp2_with (at_lookup; refine MapI.look MM.out rfl _ _ rfl rfl t rfl ht ?_; rw [hM])
    go_ret
    exact ⟨by unfold mnt; rw [hM]; rfl, rfl⟩
end
end Go.Proofs.Ytdmbnlpcfgphpaa.Q
