/- Maps of ints that a function has made, read as plain functions: delete, clear, clone; the like for elements of type int64. -/
import Derived.Test.YtdmbnlpcfgphpaaMapi
import Derived.Shelf.SlMaps.Clone
namespace Go.Proofs.Ytdmbnlpcfgphpaa.Q
open Go.RowKit Go.Maps Go.Proofs.YtdmbnlpcfgphpaaW.PrintWords Go.Proofs.YtdmbnlpcfgphpaaW.PrintLast Go.Proofs.YtdmbnlpcfgphpaaW.PrintMore
set_option linter.unusedVariables false
set_option linter.unusedSimpArgs false
section
variable {ops : Array Oper} {rest : List Oper} {o : Oper} {a : Act} {Q : Exit → Act → World → Prop} {w : World} {b n : Nat} {m : Int → Option Int}
theorem MapI.ext (h : MapI w b n m) {m' : Int → Option Int} {n' : Nat} (hn : n ≤ n') (hm : ∀ t, wf64 t → m t = m' t) : MapI w b n' m' := by
  obtain ⟨D, h1, h2, h3⟩ := h
  exact ⟨D, h1.mono hn, h2, fun t ht => by rw [← hm t ht]; exact h3 t ht⟩
/-- 'm[t]'. -/
theorem MapI.look1 (h : MapI w b n m) (hg : o.guard = none) (y x : Operand) (hop : o.op = .lookup 61 y x false) (hm : a.eval y = .map (some b)) (t : Int) (hx : a.eval x = .int .i64 t) (ht : wf64 t)
    (hK : wpList Try.prog ops Q rest (a.put o.dst (.int .i64 ((m t).getD 0))) w) : wpList Try.prog ops Q (o :: rest) a w := by
  obtain ⟨D, h1, h2, h3⟩ := h
  obtain ⟨e1, e2⟩ := h3 t ht
  refine wpList_lookup_own_int w hg y x 61 hop 3 3 .i64 int3 Try.underlying61 Try.underlying3 (zero3 _) b n D hm h1 _ _ hx (keyOf_int_mk Try.underlying3 ht) fun c hc _ => ?_
  rw [e2] at hc
  have hc' : (m t).getD 0 = c := by simpa using hc
  rw [← hc']
  exact hK
theorem MapI.run1 (h : MapI w b n m) (t : Int) (ht : wf64 t) : (Instr.lookup 61 (.map (some b)) (.int .i64 t) false).run Try.prog w = .ok (.int .i64 ((m t).getD 0)) w := by
  obtain ⟨D, h1, h2, h3⟩ := h
  obtain ⟨e1, e2⟩ := h3 t ht
  obtain ⟨c, hrun, hat, hwc⟩ := h1.lookup_int int3 Try.underlying61 Try.underlying3 (zero3 _) (keyOf_int_mk Try.underlying3 ht)
  rw [e2] at hat
  have hc' : (m t).getD 0 = c := by simpa using hat
  rw [hrun, hc']
/-- 'delete(m, t)'. -/
theorem MapI.del (h : MapI w b n m) (hg : o.guard = none) (y x : Operand) (hop : o.op = Op.call { callee := Callee.builtin Builtin.delete, args := #[y, x], argTypes := #[61, 3] }) (hm : a.eval y = .map (some b)) (t : Int) (hx : a.eval x = .int .i64 t) (ht : wf64 t)
    (hK : ∀ w', MapI w' b n (fun u => if u = t then none else m u) → w.grownBy w' (some b) → wpList Try.prog ops Q rest (a.put o.dst (.tuple #[])) w') : wpList Try.prog ops Q (o :: rest) a w := by
  obtain ⟨D, h1, h2, h3⟩ := h
  refine wpList_delete_own w hg y x 61 3 hop 3 int3 Try.underlying61 _ b n D hm h1 (.int .i64 t) _ hx (keyOf_int_mk Try.underlying3 ht) ?_
  intro w' o' g'
  refine hK w' ⟨_, o', ?_, fun u hu => ?_⟩ g'.grown
  · obtain ⟨es, rfl⟩ := h2
    exact ⟨_, rfl⟩
  · by_cases hut : u = t
    · subst hut
      simp only [if_pos]
      exact ⟨has_del_same, by rw [atKey_del_same]; rfl⟩
    · simp only [if_neg hut]
      have hne : Lit.int .i64 u ≠ Lit.int .i64 t := fun e => hut (by simpa using e)
      rw [has_del_other hne, atKey_del_other hne]
      exact h3 u hu
theorem run_clear_map {ty : TypeId} {es : Array MapEntry} {clock : Nat} (hb : w.heap[b]? = some (.map es clock)) : (Builtin.clear_ #[61] ty #[.map (some b)]).run Try.prog w = .ok (.tuple #[]) { w with heap := w.heap.setIfInBounds b (.map #[] clock) } := by
  simp [Builtin.clear_, run_underlying Try.underlying61, MapKept.run_getObj_map hb, MapKept.run_setObj_map _ hb, Result.andThen]
/-- 'clear(m)'. -/
theorem MapI.clr (h : MapI w b n m) (hg : o.guard = none) (y : Operand) (hop : o.op = Op.call { callee := Callee.builtin Builtin.clear, args := #[y], argTypes := #[61] }) (hm : a.eval y = .map (some b))
    (hK : ∀ w', MapI w' b n (fun _ => none) → w.grownBy w' (some b) → wpList Try.prog ops Q rest (a.put o.dst (.tuple #[])) w') : wpList Try.prog ops Q (o :: rest) a w := by
  obtain ⟨D, ⟨es, clock, hb, F, hs, hD⟩, h2, h3⟩ := h
  refine wpList_plain hg fun K' hK' => ?_
  unfold Oper.wp
  simp [execOp, hop, resolve, invoke, builtin, hm, run_clear_map hb, Result.andThen]
  refine hK' _ _ (hK _ ⟨.map [], ⟨#[], clock, (MapKept.heap_set hb).1, ⟨by simp, MapKept.stamped_empty _, by simp⟩, by simp, rfl⟩, ⟨[], rfl⟩, fun _ _ => ⟨rfl, rfl⟩⟩ ⟨rfl, rfl, rfl, by simp, fun k _ hk => (MapKept.heap_set hb).2 k (fun e => hk (by rw [e]))⟩)
/-- 'm[t] = v' as an equation. -/
theorem MapI.put_own (h : MapI w b n m) (t v : Int) (ht : wf64 t) (hv' : wf64 v) (hn : n < 1000) : ∃ w', (Instr.mapUpdate 61 (.map (some b)) (.int .i64 t) (.int .i64 v)).run Try.prog w = .ok () w' ∧ MapI w' b (n + 1) (fun u => if u = t then some v else m u) ∧ w.grownBy w' (some b) := by
  obtain ⟨D, h1, h2, h3⟩ := h
  obtain ⟨w', hrun, o', g'⟩ := h1.store int3 Try.underlying61 (by unfold maxLen; omega) (key := .int .i64 t) (val := .int .i64 v) (keyOf_int_mk Try.underlying3 ht) (plainElem_int Try.underlying3 hv')
  refine ⟨w', hrun, ⟨_, o', ?_, fun u hu => ?_⟩, g'.grown⟩
  · obtain ⟨es, rfl⟩ := h2
    exact ⟨_, rfl⟩
  · by_cases hut : u = t
    · subst hut
      simp only [if_pos]; rw [has_put_same h2 (int3.key (keyOf_int_mk Try.underlying3 ht)), atKey_put_same h2 (int3.key (keyOf_int_mk Try.underlying3 ht))]
      exact ⟨rfl, rfl⟩
    · simp only [if_neg hut]
      have hne : Lit.int .i64 u ≠ Lit.int .i64 t := fun e => hut (by simpa using e)
      rw [has_put_other hne, atKey_put_other hne]
      exact h3 u hu
end
set_option maxRecDepth 100000 in
set_option maxHeartbeats 2000000 in
/-- maps.Clone of a map of ints. -/
theorem clone_any {w : World} {b n : Nat} {m : Int → Option Int} (h : MapI w b n m) :
    Calls Try.prog 53 #[.map (some b)] w fun e w' => e = .returned (.map (some w.heap.size)) ∧ MapI w' w.heap.size n m ∧ ∃ o, w' = w.alloc o := by
  obtain ⟨D, ⟨es, clock, hb, F, hs, hD⟩, h2⟩ := h
  have hq := fun w => run_eql_map_nil_sl (P := Try.prog) w 61 _ _ (some b) Try.underlying61
  go_enter Try.func53, Try.ntmps53
  go_wp2
  rw [run_callFunc_extern Try.func54 (by kernel_rfl) (by kernel_rfl) (by kernel_rfl) (e := Extern.MapsClone.clone) (by kernel_rfl), run_maps_clone_sl w 61 hb]
  simp only [Result.andThen]
  rw [Oper.upon_value]
  go_wp2
  rw [run_typeAssert_map_sl _ 61 20 _ _ _ Try.underlying61]
  simp only [Result.andThen]
  rw [Oper.upon_value]
  go_wp2
  go_ret
  exact ⟨rfl, ⟨D, ⟨es, clock, (MapKept.heap_alloc w _).1, F, hs, hD⟩, h2⟩, _, rfl⟩
theorem clone_new {w : World} {b n : Nat} {m : Int → Option Int} (h : MapI w b n m) :
    Calls Try.prog 53 #[.map (some b)] w fun e w' => ∃ g2, e = .returned (.map (some g2)) ∧ MapI w' g2 n m ∧ w.heap.size ≤ g2 ∧ Below w.heap.size w w' :=
  (clone_any h).mono fun e w' ⟨he, hm, o, ho⟩ => ⟨_, he, hm, Nat.le_refl _, by rw [ho]; exact below_alloc (Below.refl _ _) _⟩
theorem MapI.drew {w : World} {b n : Nat} {m : Int → Option Int} (h : MapI w b n m) : MapI w.drew b n m := h.below (below_drew1 (Below.refl _ _))
/-! ### elements of type int64 -/
theorem zero2 (w : World) : (zeroValue 2).run Try.prog w = .ok (.int .i64 0) w := by kernel_rfl
def MapJ (w : World) (b n : Nat) (m : Int → Option Int) : Prop :=
  ∃ D : DataW Unit, w.ownsMap Try.prog 3 (plainElem Try.prog 2) b n D ∧ IsMap D ∧ ∀ t, wf64 t → has D (.int .i64 t) = (m t).isSome ∧ D.atKey (.int .i64 t) (.lit (.int .i64 0)) = .lit (.int .i64 ((m t).getD 0))
theorem MapJ.made (w : World) : MapJ (w.alloc (.map #[] 0)) w.heap.size 0 (fun _ => none) :=
  ⟨.map [], World.ownsMap_made _ _ _ _, ⟨[], rfl⟩, fun _ _ => ⟨rfl, rfl⟩⟩
theorem MapJ.kept {w w' : World} {b n : Nat} {m : Int → Option Int} {row : Option Nat} (h : MapJ w b n m) (hg : w.grownBy w' row) (hne : some b ≠ row) : MapJ w' b n m := by
  obtain ⟨D, h1, h2⟩ := h
  exact ⟨D, h1.kept hg hne, h2⟩
theorem MapJ.lt {w : World} {b n : Nat} {m : Int → Option Int} (h : MapJ w b n m) : b < w.heap.size := by
  obtain ⟨D, h1, _⟩ := h
  exact h1.lt
theorem MapJ.same {w w' : World} {b n : Nat} {m : Int → Option Int} (h : MapJ w b n m) (hb : w'.heap[b]? = w.heap[b]?) : MapJ w' b n m := by
  obtain ⟨D, ⟨es, clock, h1, h2⟩, h3⟩ := h
  exact ⟨D, ⟨es, clock, hb.trans h1, h2⟩, h3⟩
theorem MapJ.below {w w' : World} {b n : Nat} {m : Int → Option Int} (h : MapJ w b n m) (hb : Below w.heap.size w w') : MapJ w' b n m := h.same (hb.block b h.lt)
theorem MapJ.alloc {w : World} {b n : Nat} {m : Int → Option Int} (h : MapJ w b n m) (o : Obj) : MapJ (w.alloc o) b n m := h.below (below_alloc (Below.refl _ _) o)
theorem MapJ.drewN {w : World} {b n : Nat} {m : Int → Option Int} (h : MapJ w b n m) (k : Nat) : MapJ (w.drewN k) b n m := h.below (pw_below_drewN (Below.refl _ _) k)
section
variable {ops : Array Oper} {rest : List Oper} {o : Oper} {a : Act} {Q : Exit → Act → World → Prop} {w : World} {b n : Nat} {m : Int → Option Int}
theorem MapJ.run1 (h : MapJ w b n m) (t : Int) (ht : wf64 t) : (Instr.lookup 87 (.map (some b)) (.int .i64 t) false).run Try.prog w = .ok (.int .i64 ((m t).getD 0)) w := by
  obtain ⟨D, h1, h2, h3⟩ := h
  obtain ⟨e1, e2⟩ := h3 t ht
  obtain ⟨c, hrun, hat, hwc⟩ := h1.lookup_int int3 Try.underlying87 Try.underlying2 (zero2 _) (keyOf_int_mk Try.underlying3 ht)
  rw [e2] at hat
  have hc' : (m t).getD 0 = c := by simpa using hat
  rw [hrun, hc']
/-- 't[x]'. -/
theorem MapJ.look1 (h : MapJ w b n m) (hg : o.guard = none) (y x : Operand) (hop : o.op = .lookup 87 y x false) (hm : a.eval y = .map (some b)) (t : Int) (hx : a.eval x = .int .i64 t) (ht : wf64 t)
    (hK : wpList Try.prog ops Q rest (a.put o.dst (.int .i64 ((m t).getD 0))) w) : wpList Try.prog ops Q (o :: rest) a w := by
  obtain ⟨D, h1, h2, h3⟩ := h
  obtain ⟨e1, e2⟩ := h3 t ht
  refine wpList_lookup_own_int w hg y x 87 hop 3 2 .i64 int3 Try.underlying87 Try.underlying2 (zero2 _) b n D hm h1 _ _ hx (keyOf_int_mk Try.underlying3 ht) fun c hc _ => ?_
  rw [e2] at hc
  have hc' : (m t).getD 0 = c := by simpa using hc
  rw [← hc']
  exact hK
theorem MapJ.put_own (h : MapJ w b n m) (t v : Int) (ht : wf64 t) (hv' : wf64 v) (hn : n < 1000) : ∃ w', (Instr.mapUpdate 87 (.map (some b)) (.int .i64 t) (.int .i64 v)).run Try.prog w = .ok () w' ∧ MapJ w' b (n + 1) (fun u => if u = t then some v else m u) ∧ w.grownBy w' (some b) := by
  obtain ⟨D, h1, h2, h3⟩ := h
  obtain ⟨w', hrun, o', g'⟩ := h1.store int3 Try.underlying87 (by unfold maxLen; omega) (key := .int .i64 t) (val := .int .i64 v) (keyOf_int_mk Try.underlying3 ht) (plainElem_int Try.underlying2 hv')
  refine ⟨w', hrun, ⟨_, o', ?_, fun u hu => ?_⟩, g'.grown⟩
  · obtain ⟨es, rfl⟩ := h2
    exact ⟨_, rfl⟩
  · by_cases hut : u = t
    · subst hut
      simp only [if_pos]; rw [has_put_same h2 (int3.key (keyOf_int_mk Try.underlying3 ht)), atKey_put_same h2 (int3.key (keyOf_int_mk Try.underlying3 ht))]
      exact ⟨rfl, rfl⟩
    · simp only [if_neg hut]
      have hne : Lit.int .i64 u ≠ Lit.int .i64 t := fun e => hut (by simpa using e)
      rw [has_put_other hne, atKey_put_other hne]
      exact h3 u hu
/-- 't[x] = v'. -/
theorem MapJ.put (h : MapJ w b n m) (hg : o.guard = none) (y x z : Operand) (hop : o.op = .mapUpdate 87 y x z) (hm : a.eval y = .map (some b)) (t v : Int) (hx : a.eval x = .int .i64 t) (hv : a.eval z = .int .i64 v) (ht : wf64 t) (hv' : wf64 v) (hn : n < 1000)
    (hK : ∀ w', MapJ w' b (n + 1) (fun u => if u = t then some v else m u) → w.grownBy w' (some b) → wpList Try.prog ops Q rest (a.put o.dst undef) w') : wpList Try.prog ops Q (o :: rest) a w := by
  obtain ⟨w', hrun, h1, h2⟩ := h.put_own t v ht hv' hn
  refine wpList_plain hg fun K' hK' => ?_
  unfold Oper.wp
  simp [execOp, hop, hm, hx, hv, hrun, Result.andThen]
  exact hK' _ _ (hK w' h1 h2)
theorem MapJ.put_step {K : Act → World → Prop} {E : Prop} (h : MapJ w b n m) (hg : o.guard = none) (y x z : Operand) (hop : o.op = .mapUpdate 87 y x z) (hm : a.eval y = .map (some b)) (t v : Int) (hx : a.eval x = .int .i64 t) (hv : a.eval z = .int .i64 v) (ht : wf64 t) (hv' : wf64 v) (hn : n < 1000)
    (hK : ∀ w', MapJ w' b (n + 1) (fun u => if u = t then some v else m u) → w.grownBy w' (some b) → K (a.put o.dst undef) w') : if Region.wanted o (yielded ops a.tmps) = true then Oper.wp Try.prog o a w K Q else E := by
  have hw : Region.wanted o (yielded ops a.tmps) = true := by simp [Region.wanted, hg]
  rw [if_pos hw]
  obtain ⟨w', hrun, h1, h2⟩ := h.put_own t v ht hv' hn
  unfold Oper.wp
  simp [execOp, hop, hm, hx, hv, hrun, Result.andThen]
  exact hK w' h1 h2
end
end Go.Proofs.Ytdmbnlpcfgphpaa.Q
