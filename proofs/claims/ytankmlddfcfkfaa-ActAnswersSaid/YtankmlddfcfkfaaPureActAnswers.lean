/- What was asked, what was told and what is of the memory are the document's parts of any acts: the pure statement of ActAnswers, proved; no further condition. -/
import Derived.Test.YtankmlddfcfkfaaStActAnswers
namespace Go.Proofs.Ytankmlddfcfkfaa.Pure
open Go.RowKit Go.Proofs.YtankmlddfcfkfaaW.PrintWords Go.Proofs.YtankmlddfcfkfaaW.PrintLast Go.Proofs.Ytankmlddfcfkfaa.PActAnswers Go.Proofs.Ytankmlddfcfkfaa.StActAnswers
namespace Answers
theorem awake : Ev (fun k => selvagelaw08_awake.f k) true := Ev.of (k := 20) selvagelaw08_awake.mono (by kernel_rfl)
theorem rd34 {l : List S34} {i : Nat} (h : i < l.length) : rd_T34 l (i : Int) = l[i] := by
  simp [rd_T34, List.getD, List.getElem?_eq_getElem h]
theorem rdI {l : List Int} {i : Nat} (h : i < l.length) : rd l (i : Int) = l[i] := by
  simp [rd, List.getD, List.getElem?_eq_getElem h]
theorem wrap_of {x : Int} (h0 : -9223372036854775808 ≤ x) (h1 : x < 9223372036854775808) : wrap64 x = x := by unfold wrap64; omega
def asks (a : S34) : Bool := a.f0 == 1 || a.f0 == 3 || a.f0 == 5
def asked (l : List S34) : List Int := (l.filter asks).map (·.f2)
def told (l : List S34) : List Int := (l.filter fun a => a.f0 == 6).map (·.f3)
def memory (l : List S34) : List S34 := l.filter fun a => a.f0 != 6

theorem drop_eq {l : List S34} {i : Nat} (h : i < l.length) : l.drop i = l[i] :: l.drop (i + 1) := List.drop_eq_getElem_cons h
theorem asked_drop {l : List S34} {i : Nat} (h : i < l.length) : asked (l.drop i) = (if asks l[i] then [l[i].f2] else []) ++ asked (l.drop (i + 1)) := by
  rw [drop_eq h]; unfold asked
  rw [List.filter_cons]
  split <;> simp
theorem told_drop {l : List S34} {i : Nat} (h : i < l.length) : told (l.drop i) = (if l[i].f0 = 6 then [l[i].f3] else []) ++ told (l.drop (i + 1)) := by
  rw [drop_eq h]; unfold told
  rw [List.filter_cons]
  by_cases c : l[i].f0 = 6 <;> simp [c]
theorem memory_drop {l : List S34} {i : Nat} (h : i < l.length) : memory (l.drop i) = (if l[i].f0 = 6 then [] else [l[i]]) ++ memory (l.drop (i + 1)) := by
  rw [drop_eq h]; unfold memory
  rw [List.filter_cons]
  by_cases c : l[i].f0 = 6 <;> simp [c]

theorem act_asked (l : List S34) (hl : l.length ≤ 1000) : ∀ (m i : Nat) (out : List Int), l.length = i + m → out.length ≤ i → Ev (fun k => act_Asked.l0 k out l (l.length : Int) (i : Int)) (out ++ asked (l.drop i))
  | 0, i, out, hm, ho => by
    refine Ev.step (f := fun _ => some (out ++ asked (l.drop i))) (fun k => ?_) (Ev.now _)
    simp only [act_Asked.l0]
    rw [if_neg (by omega), List.drop_of_length_le (by omega)]
    simp [asked]
  | m + 1, i, out, hm, ho => by
    have hi : i < l.length := by omega
    rw [asked_drop hi]
    by_cases c : asks l[i]
    · have ih := act_asked l hl m (i + 1) (out ++ [l[i].f2]) (by omega) (by simp; omega)
      rw [if_pos c, ← List.append_assoc]
      refine Ev.step (fun k => ?_) ih
      simp only [act_Asked.l0]
      rw [if_pos (by omega), if_pos (by omega), if_pos (by omega), rd34 hi, wrap_of (by omega) (by omega)]
      simp only [asks, Bool.or_eq_true, beq_iff_eq] at c
      have hlen : out.length < 17592186044416 := by omega
      by_cases c1 : l[i].f0 = 1 <;> by_cases c3 : l[i].f0 = 3 <;> by_cases c5 : l[i].f0 = 5 <;> first | omega | (simp [c1, c3, c5, hlen]; done)
    · have ih := act_asked l hl m (i + 1) out (by omega) (by omega)
      rw [if_neg c, List.nil_append]
      refine Ev.step (fun k => ?_) ih
      simp only [act_Asked.l0]
      rw [if_pos (by omega), if_pos (by omega), if_pos (by omega), rd34 hi, wrap_of (by omega) (by omega)]
      simp only [asks, Bool.or_eq_true, beq_iff_eq, not_or] at c
      simp [c]
theorem ref_asked (l : List S34) (hl : l.length ≤ 1000) : ∀ (m i : Nat) (out : List Int), l.length = i + m → out.length ≤ i → Ev (fun k => selvageref08_Asked.l0 k l out (i : Int)) (out ++ asked (l.drop i))
  | 0, i, out, hm, ho => by
    refine Ev.step (f := fun _ => some (out ++ asked (l.drop i))) (fun k => ?_) (Ev.now _)
    simp only [selvageref08_Asked.l0]
    rw [if_neg (by omega), List.drop_of_length_le (by omega)]
    simp [asked]
  | m + 1, i, out, hm, ho => by
    have hi : i < l.length := by omega
    have hr : selvageref08_Reads.f l[i].f0 l[i].f1 l[i].f2 l[i].f3 = some (asks l[i]) := by
      unfold selvageref08_Reads.f asks
      by_cases c1 : l[i].f0 = 1 <;> by_cases c3 : l[i].f0 = 3 <;> simp [c1, c3]
    rw [asked_drop hi]
    by_cases c : asks l[i]
    · have ih := ref_asked l hl m (i + 1) (out ++ [l[i].f2]) (by omega) (by simp; omega)
      rw [if_pos c, ← List.append_assoc]
      refine Ev.step (fun k => ?_) ih
      simp only [selvageref08_Asked.l0]
      rw [if_pos (by omega), if_pos (by omega), rd34 hi, wrap_of (by omega) (by omega), hr]
      simp only [Option.bind_some, if_pos c]
      rw [if_pos (by omega)]
      rfl
    · have ih := ref_asked l hl m (i + 1) out (by omega) (by omega)
      rw [if_neg c, List.nil_append]
      refine Ev.step (fun k => ?_) ih
      simp only [selvageref08_Asked.l0]
      rw [if_pos (by omega), if_pos (by omega), rd34 hi, wrap_of (by omega) (by omega), hr]
      simp only [Option.bind_some, if_neg c]
      rfl
theorem act_told (l : List S34) (hl : l.length ≤ 1000) : ∀ (m i : Nat) (out : List Int), l.length = i + m → out.length ≤ i → Ev (fun k => act_Told.l0 k out l (l.length : Int) (i : Int)) (out ++ told (l.drop i))
  | 0, i, out, hm, ho => by
    refine Ev.step (f := fun _ => some (out ++ told (l.drop i))) (fun k => ?_) (Ev.now _)
    simp only [act_Told.l0]
    rw [if_neg (by omega), List.drop_of_length_le (by omega)]
    simp [told]
  | m + 1, i, out, hm, ho => by
    have hi : i < l.length := by omega
    rw [told_drop hi]
    by_cases c : l[i].f0 = 6
    · have ih := act_told l hl m (i + 1) (out ++ [l[i].f3]) (by omega) (by simp; omega)
      rw [if_pos c, ← List.append_assoc]
      refine Ev.step (fun k => ?_) ih
      simp only [act_Told.l0]
      rw [if_pos (by omega), if_pos (by omega), if_pos (by omega), rd34 hi, wrap_of (by omega) (by omega), if_pos c, if_pos (by omega)]
      rfl
    · have ih := act_told l hl m (i + 1) out (by omega) (by omega)
      rw [if_neg c, List.nil_append]
      refine Ev.step (fun k => ?_) ih
      simp only [act_Told.l0]
      rw [if_pos (by omega), if_pos (by omega), if_pos (by omega), rd34 hi, wrap_of (by omega) (by omega), if_neg c]
      rfl
theorem ref_told (l : List S34) (hl : l.length ≤ 1000) : ∀ (m i : Nat) (out : List Int), l.length = i + m → out.length ≤ i → Ev (fun k => selvageref08_Told.l0 k l out (i : Int)) (out ++ told (l.drop i))
  | 0, i, out, hm, ho => by
    refine Ev.step (f := fun _ => some (out ++ told (l.drop i))) (fun k => ?_) (Ev.now _)
    simp only [selvageref08_Told.l0]
    rw [if_neg (by omega), List.drop_of_length_le (by omega)]
    simp [told]
  | m + 1, i, out, hm, ho => by
    have hi : i < l.length := by omega
    rw [told_drop hi]
    by_cases c : l[i].f0 = 6
    · have ih := ref_told l hl m (i + 1) (out ++ [l[i].f3]) (by omega) (by simp; omega)
      rw [if_pos c, ← List.append_assoc]
      refine Ev.step (fun k => ?_) ih
      simp only [selvageref08_Told.l0]
      rw [if_pos (by omega), if_pos (by omega), rd34 hi, wrap_of (by omega) (by omega), if_pos c, if_pos (by omega)]
      rfl
    · have ih := ref_told l hl m (i + 1) out (by omega) (by omega)
      rw [if_neg c, List.nil_append]
      refine Ev.step (fun k => ?_) ih
      simp only [selvageref08_Told.l0]
      rw [if_pos (by omega), if_pos (by omega), rd34 hi, wrap_of (by omega) (by omega), if_neg c]
      rfl
theorem act_memory (l : List S34) (hl : l.length ≤ 1000) : ∀ (m i : Nat) (out : List S34), l.length = i + m → out.length ≤ i → Ev (fun k => act_Memory.l0 k out l (l.length : Int) (i : Int)) (out ++ memory (l.drop i))
  | 0, i, out, hm, ho => by
    refine Ev.step (f := fun _ => some (out ++ memory (l.drop i))) (fun k => ?_) (Ev.now _)
    simp only [act_Memory.l0]
    rw [if_neg (by omega), List.drop_of_length_le (by omega)]
    simp [memory]
  | m + 1, i, out, hm, ho => by
    have hi : i < l.length := by omega
    rw [memory_drop hi]
    by_cases c : l[i].f0 = 6
    · have ih := act_memory l hl m (i + 1) out (by omega) (by omega)
      rw [if_pos c, List.nil_append]
      refine Ev.step (fun k => ?_) ih
      simp only [act_Memory.l0]
      rw [if_pos (by omega), if_pos (by omega), if_pos (by omega), rd34 hi, wrap_of (by omega) (by omega), if_pos c]
      rfl
    · have ih := act_memory l hl m (i + 1) (out ++ [l[i]]) (by omega) (by simp; omega)
      rw [if_neg c, ← List.append_assoc]
      refine Ev.step (fun k => ?_) ih
      simp only [act_Memory.l0]
      rw [if_pos (by omega), if_pos (by omega), if_pos (by omega), rd34 hi, wrap_of (by omega) (by omega), if_neg c, if_pos (by omega)]
      rfl
theorem ref_memory (l : List S34) (hl : l.length ≤ 1000) : ∀ (m i : Nat) (out : List S34), l.length = i + m → out.length ≤ i → Ev (fun k => selvageref08_Memory.l0 k l out (i : Int)) (out ++ memory (l.drop i))
  | 0, i, out, hm, ho => by
    refine Ev.step (f := fun _ => some (out ++ memory (l.drop i))) (fun k => ?_) (Ev.now _)
    simp only [selvageref08_Memory.l0]
    rw [if_neg (by omega), List.drop_of_length_le (by omega)]
    simp [memory]
  | m + 1, i, out, hm, ho => by
    have hi : i < l.length := by omega
    rw [memory_drop hi]
    by_cases c : l[i].f0 = 6
    · have ih := ref_memory l hl m (i + 1) out (by omega) (by omega)
      rw [if_pos c, List.nil_append]
      refine Ev.step (fun k => ?_) ih
      simp only [selvageref08_Memory.l0]
      rw [if_pos (by omega), if_pos (by omega), rd34 hi, wrap_of (by omega) (by omega), if_pos c]
      rfl
    · have ih := ref_memory l hl m (i + 1) (out ++ [l[i]]) (by omega) (by simp; omega)
      rw [if_neg c, ← List.append_assoc]
      refine Ev.step (fun k => ?_) ih
      simp only [selvageref08_Memory.l0]
      rw [if_pos (by omega), if_pos (by omega), rd34 hi, wrap_of (by omega) (by omega), if_neg c, if_pos (by omega)]
      rfl
theorem nums_same (l : List Int) (hl : l.length ≤ 1000000) : ∀ (m i : Nat), l.length = i + m → Ev (fun k => selvageref08_SameNums.l0 k l l (i : Int)) true
  | 0, i, hm => by
    refine Ev.step (f := fun _ => some true) (fun k => ?_) (Ev.now _)
    simp only [selvageref08_SameNums.l0]
    rw [if_neg (by omega)]
  | m + 1, i, hm => by
    have hi : i < l.length := by omega
    have ih := nums_same l hl m (i + 1) (by omega)
    refine Ev.step (fun k => ?_) ih
    simp only [selvageref08_SameNums.l0]
    rw [if_pos (by omega), if_pos (by omega), if_pos (by omega), wrap_of (by omega) (by omega)]
    simp
theorem nums_f (l : List Int) (hl : l.length ≤ 1000000) : Ev (fun k => selvageref08_SameNums.f k l l) true := by
  refine Ev.congr (fun k => ?_) (nums_same l hl l.length 0 (by omega))
  unfold selvageref08_SameNums.f
  rw [if_pos rfl]
  rfl
theorem acts_same (l : List S34) (hl : l.length ≤ 1000000) : ∀ (m i : Nat), l.length = i + m → Ev (fun k => selvageref08_Same.l0 k l l (i : Int)) true
  | 0, i, hm => by
    refine Ev.step (f := fun _ => some true) (fun k => ?_) (Ev.now _)
    simp only [selvageref08_Same.l0]
    rw [if_neg (by omega)]
  | m + 1, i, hm => by
    have hi : i < l.length := by omega
    have ih := acts_same l hl m (i + 1) (by omega)
    refine Ev.step (fun k => ?_) ih
    simp only [selvageref08_Same.l0]
    rw [if_pos (by omega), if_pos (by omega), if_pos (by omega), wrap_of (by omega) (by omega)]
    simp
theorem acts_f (l : List S34) (hl : l.length ≤ 1000000) : Ev (fun k => selvageref08_Same.f k l l) true := by
  refine Ev.congr (fun k => ?_) (acts_same l hl l.length 0 (by omega))
  unfold selvageref08_Same.f
  rw [if_pos rfl]
  rfl
theorem asked_len (l : List S34) : (asked l).length ≤ l.length := by unfold asked; rw [List.length_map]; exact List.length_filter_le _ _
theorem told_len (l : List S34) : (told l).length ≤ l.length := by unfold told; rw [List.length_map]; exact List.length_filter_le _ _
theorem memory_len (l : List S34) : (memory l).length ≤ l.length := by unfold memory; exact List.length_filter_le _ _
end Answers
open Answers
theorem ActAnswers : StActAnswers.Pure := by
  intro l _ _
  refine Ev.rounds (g := fun k => selvagelaw08_ActAnswers.f k l) ?_
  unfold selvagelaw08_ActAnswers.f
  refine Ev.bind awake ?_
  simp only [if_true]
  by_cases h : (l.length : Int) > 1000
  · simp only [if_pos h]
    exact Ev.now _
  simp only [if_neg h]
  have hl : l.length ≤ 1000 := by omega
  have a1 := asked_len l
  have a2 := told_len l
  have a3 := memory_len l
  refine Ev.bind (act_asked l hl l.length 0 [] (by omega) (by simp)) ?_
  refine Ev.bind (ref_asked l hl l.length 0 [] (by omega) (by simp)) ?_
  simp only [List.nil_append, List.drop_zero]
  refine Ev.bind (nums_f _ (by omega)) ?_
  simp only [if_true]
  refine Ev.bind (act_told l hl l.length 0 [] (by omega) (by simp)) ?_
  refine Ev.bind (ref_told l hl l.length 0 [] (by omega) (by simp)) ?_
  simp only [List.nil_append, List.drop_zero]
  refine Ev.bind (nums_f _ (by omega)) ?_
  simp only [if_true]
  refine Ev.bind (act_memory l hl l.length 0 [] (by omega) (by simp)) ?_
  refine Ev.bind (ref_memory l hl l.length 0 [] (by omega) (by simp)) ?_
  simp only [List.nil_append, List.drop_zero]
  refine Ev.bind (acts_f _ (by omega)) ?_
  exact Ev.now _
end Go.Proofs.Ytankmlddfcfkfaa.Pure
