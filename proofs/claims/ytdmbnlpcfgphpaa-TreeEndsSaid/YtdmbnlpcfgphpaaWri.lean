/- The contract of do's closure: an act is laid behind those that are done. -/
import Derived.Test.YtdmbnlpcfgphpaaRn
import Derived.Deep.RegionLaw
namespace Go.Proofs.Ytdmbnlpcfgphpaa.Q
open Go.RowKit Go.Proofs.YtdmbnlpcfgphpaaW.PrintWords Go.Proofs.YtdmbnlpcfgphpaaW.PrintLast Go.Proofs.YtdmbnlpcfgphpaaW.PrintMore
set_option linter.unusedVariables false
set_option linter.unusedSimpArgs false
/-- What an append of an act leaves, behind the store of the new row. -/
theorem Rn.appended {w W w1 : World} {g : Nat} {T : List Int} {Aa : Option Addr} {ca : Nat} {ans : List Int} {vt v1 : Value} {acts acts' : List S47} {o : Obj} (S : Rn w W g T Aa ca ans vt acts)
    (h1 : Kd.R k47 47 w1 w.heap.size (fun q => q ≠ g) v1 acts') (hB : Below w.heap.size w w1) (hg : W.grownBy w1 vt.ownBlock) : Rn w (w1.setCell ⟨g, 401, none⟩ v1) g T Aa ca ans v1 acts' ∧ KeepBut W (w1.setCell ⟨g, 401, none⟩ v1) g vt.ownBlock :=
  ⟨S.put_acts hg hB S.own_ne h1, (KeepBut.of_grown hg g).set_ _ _⟩
set_option maxHeartbeats 1000000 in
set_option maxRecDepth 100000 in
theorem write_any {w W : World} {g gb : Nat} {T : List Int} {Aa : Option Addr} {ca : Nat} {ans : List Int} {vt : Value} {acts : List S47} (S : Rn w W g T Aa ca ans vt acts)
    (hb : W.heap[gb]? = some (.cells #[.pointer (some ⟨g, 0, none⟩)] 72 (0, 0))) (kind loc v : Int) (hl : acts.length ≤ 1000) :
    Calls Try.prog 47 #[.int .i64 kind, .int .i64 loc, .int .i64 v, .pointer (some ⟨gb, 0, none⟩)] W fun e W' => e = .returned (.tuple #[]) ∧
      ∃ v1, Rn w W' g T Aa ca ans v1 (acts ++ [⟨kind, loc, 0, v⟩]) ∧ KeepBut W W' g vt.ownBlock := by
  have hlt := S.lt
  have hltb := blk_lt hb
  have hne : gb ≠ g := blk_ne hb S.blk (by decide)
  have hcb : W.cell? ⟨gb, 0, none⟩ = some (.pointer (some ⟨g, 0, none⟩)) := blk_cell hb 0
  have hca := S.cacts
  have hown := S.own_ne
  have SS := Aside0.mk S
  have HBK := Aside0.mk hb
  have HO : Aside0 (some gb ≠ vt.ownBlock) := ⟨Kd.R_ne S.RT hb (by decide)⟩
  clear S hb hown hca
  have hown := SS.out.own_ne
  have hca := SS.out.cacts
  go_enter Try.func47, Try.ntmps47
  go_wp2_with fail
  go_region_law
    ((refine Kd.R_append_step k47 (w0 := w) w.heap.size (by rfl) _ _ 29 47 _ 32 rfl Try.underlying29 info47 rfl (by decide) (by decide) vt acts ⟨kind, loc, 0, v⟩ [.int .i64 kind, .int .i64 loc, .int .i64 0, .int .i64 v] (fun q => q ≠ g) (fun _ => False) (by rfl) (by rfl) (k47_mkM _ _ _ ⟨kind, loc, 0, v⟩) (fun _ h => h.elim) (fun k hk he => absurd hk (by subst he; simp; omega)) SS.out.drew.RT SS.out.drew.HB SS.out.drew.HB.size (by omega) ?_; intro v1 w1 hR hB hg hat; obtain ⟨A1, c1, rfl⟩ := Kd.R_slice hR; have HE := Aside0.mk (SS.out.drew.appended (o := .cells #[] 0) hR hB hg); have hc1 := blk_cell (blk_grown SS.out.drew.blk hg hown) 401; rw [rcells_acts _ _ _ SS.out.TL] at hc1; have hf1 := blk_frozen (blk_grown SS.out.drew.blk hg hown) 401; have hb1 := blk_cell (blk_grown (blk_drew HBK.out) hg HO.out) 0; clear hR hB hg hat))
  all_goals (go_end0; have h_ := HE.out; simp only [List.length_append, List.length_cons, List.length_nil, Nat.zero_add] at h_; exact ⟨rfl, _, h_.1, h_.2⟩)
end Go.Proofs.Ytdmbnlpcfgphpaa.Q
