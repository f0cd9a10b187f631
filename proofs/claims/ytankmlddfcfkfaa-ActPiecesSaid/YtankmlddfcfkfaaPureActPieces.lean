/- Of acts that are put together the parts are put together: the pure statement of ActPieces, proved; no further condition. -/
import Derived.Test.YtankmlddfcfkfaaStActPieces
namespace Go.Proofs.Ytankmlddfcfkfaa.Pure
open Go.RowKit Go.Proofs.YtankmlddfcfkfaaW.PrintWords Go.Proofs.YtankmlddfcfkfaaW.PrintLast Go.Proofs.Ytankmlddfcfkfaa.PActPieces Go.Proofs.Ytankmlddfcfkfaa.StActPieces
namespace Pieces
theorem awake : Ev (fun k => selvagelaw08_awake.f k) true := Ev.of (k := 20) selvagelaw08_awake.mono (by kernel_rfl)
theorem rd34 {l : List S34} {i : Nat} (h : i < l.length) : rd_T34 l (i : Int) = l[i] := by
  simp [rd_T34, List.getD, List.getElem?_eq_getElem h]
theorem rdI {l : List Int} {i : Nat} (h : i < l.length) : rd l (i : Int) = l[i] := by
  simp [rd, List.getD, List.getElem?_eq_getElem h]
theorem wrap_of {x : Int} (h0 : -9223372036854775808 ≤ x) (h1 : x < 9223372036854775808) : wrap64 x = x := by unfold wrap64; omega
def asks (a : S34) : Bool := a.f0 == 1 || a.f0 == 3 || a.f0 == 5
def asked (l : List S34) : List Int := (l.filter asks).map (·.f2)
def told (l : List S34) : List Int := (l.filter fun a => a.f0 == 6).map (·.f3)
def memory (l : List S34) : List S34 := l.filter fun a => a.f0 != 6

theorem drop_eq {l : List S34} {i : Nat} (h : i < l.length) : l.drop i = l[i] :: l.drop (i + 1) := List.drop_eq_getElem_cons h
theorem asked_drop {l : List S34} {i : Nat} (h : i < l.length) : asked (l.drop i) = (if asks l[i] then [l[i].f2] else []) ++ asked (l.drop (i + 1)) := by
  rw [drop_eq h]; unfold asked
  rw [List.filter_cons]
  split <;> simp
theorem told_drop {l : List S34} {i : Nat} (h : i < l.length) : told (l.drop i) = (if l[i].f0 = 6 then [l[i].f3] else []) ++ told (l.drop (i + 1)) := by
  rw [drop_eq h]; unfold told
  rw [List.filter_cons]
  by_cases c : l[i].f0 = 6 <;> simp [c]
theorem memory_drop {l : List S34} {i : Nat} (h : i < l.length) : memory (l.drop i) = (if l[i].f0 = 6 then [] else [l[i]]) ++ memory (l.drop (i + 1)) := by
  rw [drop_eq h]; unfold memory
  rw [List.filter_cons]
  by_cases c : l[i].f0 = 6 <;> simp [c]

theorem act_asked (l : List S34) (hl : l.length ≤ 1000) : ∀ (m i : Nat) (out : List Int), l.length = i + m → out.length ≤ i → Ev (fun k => act_Asked.l0 k out l (l.length : Int) (i : Int)) (out ++ asked (l.drop i))
  | 0, i, out, hm, ho => by
    refine Ev.step (f := fun _ => some (out ++ asked (l.drop i))) (fun k => ?_) (Ev.now _)
    simp only [act_Asked.l0]
    rw [if_neg (by omega), List.drop_of_length_le (by omega)]
    simp [asked]
  | m + 1, i, out, hm, ho => by
    have hi : i < l.length := by omega
    rw [asked_drop hi]
    by_cases c : asks l[i]
    · have ih := act_asked l hl m (i + 1) (out ++ [l[i].f2]) (by omega) (by simp; omega)
      rw [if_pos c, ← List.append_assoc]
      refine Ev.step (fun k => ?_) ih
      simp only [act_Asked.l0]
      rw [if_pos (by omega), if_pos (by omega), if_pos (by omega), rd34 hi, wrap_of (by omega) (by omega)]
      simp only [asks, Bool.or_eq_true, beq_iff_eq] at c
      have hlen : out.length < 17592186044416 := by omega
      by_cases c1 : l[i].f0 = 1 <;> by_cases c3 : l[i].f0 = 3 <;> by_cases c5 : l[i].f0 = 5 <;> first | omega | (simp [c1, c3, c5, hlen]; done)
    · have ih := act_asked l hl m (i + 1) out (by omega) (by omega)
      rw [if_neg c, List.nil_append]
      refine Ev.step (fun k => ?_) ih
      simp only [act_Asked.l0]
      rw [if_pos (by omega), if_pos (by omega), if_pos (by omega), rd34 hi, wrap_of (by omega) (by omega)]
      simp only [asks, Bool.or_eq_true, beq_iff_eq, not_or] at c
      simp [c]
theorem act_told (l : List S34) (hl : l.length ≤ 1000) : ∀ (m i : Nat) (out : List Int), l.length = i + m → out.length ≤ i → Ev (fun k => act_Told.l0 k out l (l.length : Int) (i : Int)) (out ++ told (l.drop i))
  | 0, i, out, hm, ho => by
    refine Ev.step (f := fun _ => some (out ++ told (l.drop i))) (fun k => ?_) (Ev.now _)
    simp only [act_Told.l0]
    rw [if_neg (by omega), List.drop_of_length_le (by omega)]
    simp [told]
  | m + 1, i, out, hm, ho => by
    have hi : i < l.length := by omega
    rw [told_drop hi]
    by_cases c : l[i].f0 = 6
    · have ih := act_told l hl m (i + 1) (out ++ [l[i].f3]) (by omega) (by simp; omega)
      rw [if_pos c, ← List.append_assoc]
      refine Ev.step (fun k => ?_) ih
      simp only [act_Told.l0]
      rw [if_pos (by omega), if_pos (by omega), if_pos (by omega), rd34 hi, wrap_of (by omega) (by omega), if_pos c, if_pos (by omega)]
      rfl
    · have ih := act_told l hl m (i + 1) out (by omega) (by omega)
      rw [if_neg c, List.nil_append]
      refine Ev.step (fun k => ?_) ih
      simp only [act_Told.l0]
      rw [if_pos (by omega), if_pos (by omega), if_pos (by omega), rd34 hi, wrap_of (by omega) (by omega), if_neg c]
      rfl
theorem act_memory (l : List S34) (hl : l.length ≤ 1000) : ∀ (m i : Nat) (out : List S34), l.length = i + m → out.length ≤ i → Ev (fun k => act_Memory.l0 k out l (l.length : Int) (i : Int)) (out ++ memory (l.drop i))
  | 0, i, out, hm, ho => by
    refine Ev.step (f := fun _ => some (out ++ memory (l.drop i))) (fun k => ?_) (Ev.now _)
    simp only [act_Memory.l0]
    rw [if_neg (by omega), List.drop_of_length_le (by omega)]
    simp [memory]
  | m + 1, i, out, hm, ho => by
    have hi : i < l.length := by omega
    rw [memory_drop hi]
    by_cases c : l[i].f0 = 6
    · have ih := act_memory l hl m (i + 1) out (by omega) (by omega)
      rw [if_pos c, List.nil_append]
      refine Ev.step (fun k => ?_) ih
      simp only [act_Memory.l0]
      rw [if_pos (by omega), if_pos (by omega), if_pos (by omega), rd34 hi, wrap_of (by omega) (by omega), if_pos c]
      rfl
    · have ih := act_memory l hl m (i + 1) (out ++ [l[i]]) (by omega) (by simp; omega)
      rw [if_neg c, ← List.append_assoc]
      refine Ev.step (fun k => ?_) ih
      simp only [act_Memory.l0]
      rw [if_pos (by omega), if_pos (by omega), if_pos (by omega), rd34 hi, wrap_of (by omega) (by omega), if_neg c, if_pos (by omega)]
      rfl
theorem nums_same (l : List Int) (hl : l.length ≤ 1000000) : ∀ (m i : Nat), l.length = i + m → Ev (fun k => selvageref08_SameNums.l0 k l l (i : Int)) true
  | 0, i, hm => by
    refine Ev.step (f := fun _ => some true) (fun k => ?_) (Ev.now _)
    simp only [selvageref08_SameNums.l0]
    rw [if_neg (by omega)]
  | m + 1, i, hm => by
    have hi : i < l.length := by omega
    have ih := nums_same l hl m (i + 1) (by omega)
    refine Ev.step (fun k => ?_) ih
    simp only [selvageref08_SameNums.l0]
    rw [if_pos (by omega), if_pos (by omega), if_pos (by omega), wrap_of (by omega) (by omega)]
    simp
theorem nums_f (l : List Int) (hl : l.length ≤ 1000000) : Ev (fun k => selvageref08_SameNums.f k l l) true := by
  refine Ev.congr (fun k => ?_) (nums_same l hl l.length 0 (by omega))
  unfold selvageref08_SameNums.f
  rw [if_pos rfl]
  rfl
theorem acts_same (l : List S34) (hl : l.length ≤ 1000000) : ∀ (m i : Nat), l.length = i + m → Ev (fun k => selvageref08_Same.l0 k l l (i : Int)) true
  | 0, i, hm => by
    refine Ev.step (f := fun _ => some true) (fun k => ?_) (Ev.now _)
    simp only [selvageref08_Same.l0]
    rw [if_neg (by omega)]
  | m + 1, i, hm => by
    have hi : i < l.length := by omega
    have ih := acts_same l hl m (i + 1) (by omega)
    refine Ev.step (fun k => ?_) ih
    simp only [selvageref08_Same.l0]
    rw [if_pos (by omega), if_pos (by omega), if_pos (by omega), wrap_of (by omega) (by omega)]
    simp
theorem acts_f (l : List S34) (hl : l.length ≤ 1000000) : Ev (fun k => selvageref08_Same.f k l l) true := by
  refine Ev.congr (fun k => ?_) (acts_same l hl l.length 0 (by omega))
  unfold selvageref08_Same.f
  rw [if_pos rfl]
  rfl
theorem asked_len (l : List S34) : (asked l).length ≤ l.length := by unfold asked; rw [List.length_map]; exact List.length_filter_le _ _
theorem told_len (l : List S34) : (told l).length ≤ l.length := by unfold told; rw [List.length_map]; exact List.length_filter_le _ _
theorem memory_len (l : List S34) : (memory l).length ≤ l.length := by unfold memory; exact List.length_filter_le _ _
theorem asked_app (a b : List S34) : asked (a ++ b) = asked a ++ asked b := by simp [asked]
theorem told_app (a b : List S34) : told (a ++ b) = told a ++ told b := by simp [told]
theorem memory_app (a b : List S34) : memory (a ++ b) = memory a ++ memory b := by simp [memory]
theorem memory_twice (l : List S34) : memory (memory l) = memory l := by simp [memory, List.filter_filter]
theorem parts_len : ∀ (l : List S34), (memory l).length + (told l).length = l.length
  | [] => rfl
  | x :: l => by
    have ih := parts_len l
    unfold memory told at ih ⊢
    by_cases c : x.f0 = 6
    · simp [c] at ih ⊢; omega
    · simp [c] at ih ⊢; omega
theorem asked_f (l : List S34) (hl : l.length ≤ 1000) : Ev (fun k => act_Asked.f k l) (asked l) := by
  have := act_asked l hl l.length 0 [] (by omega) (by simp)
  exact this
theorem told_f (l : List S34) (hl : l.length ≤ 1000) : Ev (fun k => act_Told.f k l) (told l) := by
  have := act_told l hl l.length 0 [] (by omega) (by simp)
  exact this
theorem memory_f (l : List S34) (hl : l.length ≤ 1000) : Ev (fun k => act_Memory.f k l) (memory l) := by
  have := act_memory l hl l.length 0 [] (by omega) (by simp)
  exact this
theorem walk (a b : List S34) (ha : a.length ≤ 500) (hb : b.length ≤ 500) : Ev (fun k => selvagelaw08_ActPieces.j0 k a b false) true := by
  have hab : (a ++ b).length ≤ 1000 := by rw [List.length_append]; omega
  have a1 := asked_len a
  have a2 := asked_len b
  have b1 := told_len a
  have b2 := told_len b
  have c1 := memory_len a
  have c2 := memory_len b
  have d1 := memory_len (a ++ b)
  have d2 := asked_len (a ++ b)
  have d3 := told_len (a ++ b)
  have d4 := parts_len (a ++ b)
  refine Ev.step (fun k => by simp only [selvagelaw08_ActPieces.j0]; rfl) ?_
  simp only [if_neg (show ¬ (false = true) by decide), Option.bind_some, List.nil_append, List.length_nil]
  simp only [if_pos (show 0 + a.length < 4398046511104 by omega), if_pos (show a.length + b.length < 4398046511104 by omega)]
  refine Ev.bind (memory_f _ hab) ?_
  refine Ev.bind (asked_f _ hab) ?_
  refine Ev.bind (asked_f _ (by omega)) ?_
  refine Ev.bind (asked_f _ (by omega)) ?_
  simp only [if_pos (show (asked a).length + (asked b).length < 17592186044416 by omega), ← asked_app]
  refine Ev.bind (nums_f _ (by omega)) ?_
  simp only [if_true]
  refine Ev.bind (told_f _ hab) ?_
  refine Ev.bind (told_f _ (by omega)) ?_
  refine Ev.bind (told_f _ (by omega)) ?_
  simp only [if_pos (show (told a).length + (told b).length < 17592186044416 by omega), ← told_app]
  refine Ev.bind (nums_f _ (by omega)) ?_
  simp only [if_true]
  refine Ev.bind (memory_f _ (by omega)) ?_
  refine Ev.bind (memory_f _ (by omega)) ?_
  simp only [if_pos (show (memory a).length + (memory b).length < 4398046511104 by omega), ← memory_app]
  refine Ev.bind (acts_f _ (by omega)) ?_
  simp only [if_true]
  refine Ev.bind (told_f _ hab) ?_
  simp only [if_pos (show wrap64 (((memory (a ++ b)).length : Int) + ((told (a ++ b)).length : Int)) = ((a ++ b).length : Int) by rw [wrap_of (by omega) (by omega)]; omega)]
  refine Ev.bind (memory_f _ (by omega)) ?_
  rw [memory_twice]
  refine Ev.bind (acts_f _ (by omega)) ?_
  exact Ev.now _
end Pieces
open Pieces
theorem ActPieces : StActPieces.Pure := by
  intro a b _ _ _ _
  refine Ev.rounds (g := fun k => selvagelaw08_ActPieces.f k a b) ?_
  unfold selvagelaw08_ActPieces.f
  refine Ev.bind awake ?_
  simp only [if_true]
  have out : Ev (fun k => selvagelaw08_ActPieces.j0 k a b true) true := by
    refine Ev.step (f := fun _ => some true) (fun k => ?_) (Ev.now _)
    simp only [selvagelaw08_ActPieces.j0]
    rfl
  by_cases h : (a.length : Int) > 500
  · simp only [if_pos h]
    exact out
  simp only [if_neg h]
  by_cases h2 : (b.length : Int) > 500
  · rw [decide_eq_true h2]
    exact out
  · rw [decide_eq_false h2]
    exact walk a b (by omega) (by omega)
end Go.Proofs.Ytankmlddfcfkfaa.Pure
