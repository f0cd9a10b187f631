/- A map of ints that a function has made, read as a plain function. -/
import Derived.Test.YtdmbnlpcfgphpaaQx0
import Derived.Maps.OwnSet
import Derived.Maps.OwnOps
import Derived.Maps.Views
namespace Go.Proofs.Ytdmbnlpcfgphpaa.Q
open Go.RowKit Go.Maps Go.Proofs.YtdmbnlpcfgphpaaW.PrintWords Go.Proofs.YtdmbnlpcfgphpaaW.PrintLast Go.Proofs.YtdmbnlpcfgphpaaW.PrintMore
theorem int3 : Keyed Try.prog 3 := int_keyed Try.underlying3
theorem zero3 (w : World) : (zeroValue 3).run Try.prog w = .ok (.int .i64 0) w := by kernel_rfl
def wf64 (n : Int) : Prop := (Lit.int .i64 n).wf = true
theorem wf64_of {n : Int} (h0 : -9223372036854775808 ≤ n) (h1 : n < 9223372036854775808) : wf64 n := by
  unfold wf64
  simp only [Lit.wf]
  have e1 : IntKind.i64.min = -9223372036854775808 := by decide
  have e2 : IntKind.i64.max = 9223372036854775807 := by decide
  rw [e1, e2]
  simp
  omega
/-- Block b is a map of at most n entries that holds what m says. -/
def MapI (w : World) (b n : Nat) (m : Int → Option Int) : Prop :=
  ∃ D : DataW Unit, w.ownsMap Try.prog 3 (plainElem Try.prog 3) b n D ∧ IsMap D ∧ ∀ t, wf64 t → has D (.int .i64 t) = (m t).isSome ∧ D.atKey (.int .i64 t) (.lit (.int .i64 0)) = .lit (.int .i64 ((m t).getD 0))
theorem MapI.made (w : World) : MapI (w.alloc (.map #[] 0)) w.heap.size 0 (fun _ => none) :=
  ⟨.map [], World.ownsMap_made _ _ _ _, ⟨[], rfl⟩, fun _ _ => ⟨rfl, rfl⟩⟩
theorem MapI.kept {w w' : World} {b n : Nat} {m : Int → Option Int} {row : Option Nat} (h : MapI w b n m) (hg : w.grownBy w' row) (hne : some b ≠ row) : MapI w' b n m := by
  obtain ⟨D, h1, h2⟩ := h
  exact ⟨D, h1.kept hg hne, h2⟩
theorem MapI.lt {w : World} {b n : Nat} {m : Int → Option Int} (h : MapI w b n m) : b < w.heap.size := by
  obtain ⟨D, h1, _⟩ := h
  exact h1.lt
theorem MapI.same {w w' : World} {b n : Nat} {m : Int → Option Int} (h : MapI w b n m) (hb : w'.heap[b]? = w.heap[b]?) : MapI w' b n m := by
  obtain ⟨D, ⟨es, clock, h1, h2⟩, h3⟩ := h
  exact ⟨D, ⟨es, clock, hb.trans h1, h2⟩, h3⟩
theorem MapI.below {w w' : World} {b n : Nat} {m : Int → Option Int} (h : MapI w b n m) (hb : Below w.heap.size w w') : MapI w' b n m := h.same (hb.block b h.lt)
theorem MapI.set {w : World} {b n : Nat} {m : Int → Option Int} (h : MapI w b n m) {g : Nat} (hne : b ≠ g) (j : Nat) (u : Value) : MapI (w.setCell ⟨g, j, none⟩ u) b n m := h.same (Below.heap_setCell w ⟨g, j, none⟩ u b hne)
theorem MapI.alloc {w : World} {b n : Nat} {m : Int → Option Int} (h : MapI w b n m) (o : Obj) : MapI (w.alloc o) b n m := h.below (below_alloc (Below.refl _ _) o)
theorem MapI.drewN {w : World} {b n : Nat} {m : Int → Option Int} (h : MapI w b n m) (k : Nat) : MapI (w.drewN k) b n m := h.below (pw_below_drewN (Below.refl _ _) k)
/-- 'v, ok := m[t]'. -/
theorem MapI.look {ops : Array Oper} {rest : List Oper} {o : Oper} {a : Act} {Q : Exit → Act → World → Prop} {w : World} {b n : Nat} {m : Int → Option Int} (h : MapI w b n m) (hg : o.guard = none) (y x : Operand) (hop : o.op = Op.lookup 61 y x true)
    (hm : a.eval y = .map (some b)) (t : Int) (hx : a.eval x = .int .i64 t) (ht : wf64 t)
    (hK : wpList Try.prog ops Q rest (a.put o.dst (.tuple #[.int .i64 ((m t).getD 0), .bool (m t).isSome])) w) : wpList Try.prog ops Q (o :: rest) a w := by
  obtain ⟨D, h1, h2, h3⟩ := h
  obtain ⟨e1, e2⟩ := h3 t ht
  refine wpList_lookup_own_ok_int w hg y x 61 hop 3 3 .i64 int3 Try.underlying61 Try.underlying3 (zero3 _) b n D hm h1 _ _ hx (keyOf_int_mk Try.underlying3 ht) fun c hc _ => ?_
  rw [e2] at hc
  have hc' : (m t).getD 0 = c := by simpa using hc
  rw [e1, ← hc']
  exact hK
/-- 'm[t] = v'. -/
theorem MapI.put {ops : Array Oper} {rest : List Oper} {o : Oper} {a : Act} {Q : Exit → Act → World → Prop} {w : World} {b n : Nat} {m : Int → Option Int} (h : MapI w b n m) (hg : o.guard = none) (y x z : Operand) (hop : o.op = Op.mapUpdate 61 y x z)
    (hm : a.eval y = .map (some b)) (t v : Int) (hx : a.eval x = .int .i64 t) (hv : a.eval z = .int .i64 v) (ht : wf64 t) (hv' : wf64 v) (hn : n < 1000)
    (hK : ∀ w', MapI w' b (n + 1) (fun u => if u = t then some v else m u) → w.grownBy w' (some b) → wpList Try.prog ops Q rest (a.put o.dst undef) w') : wpList Try.prog ops Q (o :: rest) a w := by
  obtain ⟨D, h1, h2, h3⟩ := h
  refine wpList_mapUpdate_own w hg y x z 61 hop 3 3 int3 Try.underlying61 _ b n D hm h1 (by unfold maxLen; omega) _ _ (.int .i64 t) hx hv (keyOf_int_mk Try.underlying3 ht) (.lit (.int .i64 v)) [] (plainElem_int Try.underlying3 hv') fun w' o' g' => ?_
  refine hK w' ⟨_, o', ?_, fun u hu => ?_⟩ g'
  · obtain ⟨es, rfl⟩ := h2
    exact ⟨_, rfl⟩
  · by_cases hut : u = t
    · subst hut
      simp only [if_pos]; rw [has_put_same h2 (int3.key (keyOf_int_mk Try.underlying3 ht)), atKey_put_same h2 (int3.key (keyOf_int_mk Try.underlying3 ht))]
      exact ⟨rfl, rfl⟩
    · simp only [if_neg hut]
      have hne : Lit.int .i64 u ≠ Lit.int .i64 t := fun e => hut (by simpa using e)
      rw [has_put_other hne, atKey_put_other hne]
      exact h3 u hu
end Go.Proofs.Ytdmbnlpcfgphpaa.Q
