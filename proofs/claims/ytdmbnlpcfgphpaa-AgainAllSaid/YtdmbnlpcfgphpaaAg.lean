/- Again in plain words: right code as a tree, what is known ahead of a piece, which pieces are spare, which temp stands for one; the walk through all ways finds them (several of my texts in one). -/
import Derived.Test.YtdmbnlpcfgphpaaPst
namespace Go.Proofs.Ytdmbnlpcfgphpaa.Q
open Go.RowKit Go.Proofs.YtdmbnlpcfgphpaaW.PrintWords Go.Proofs.YtdmbnlpcfgphpaaW.PrintLast Go.Proofs.YtdmbnlpcfgphpaaW.PrintMore
set_option linter.unusedVariables false
set_option linter.unusedSimpArgs false
def isB_q (code : List S40) (i k : Nat) : Bool := (k + 1 == i && (ins code k).f0 != 18) || (usT (ins code k).f0 && (ins code k).f7 == (i : Int))
def bl_q (code : List S40) (i k r : Nat) : List Int := ((List.range' k r).filter (isB_q code i)).map fun j : Nat => (j : Int)
theorem bl_succ_q (code : List S40) (i k r : Nat) : bl_q code i k (r + 1) = (if isB_q code i k = true then [(k : Int)] else []) ++ bl_q code i (k + 1) r := by
  unfold bl_q
  rw [List.range'_succ, List.filter_cons]
  split <;> simp
theorem ways_bl_q {code : List S40} {n : Nat} (hT : ∀ k, k < n → usT (ins code k).f0 = true → (k : Int) + 1 < (ins code k).f7) (i : Nat) (h1 : 1 ≤ i) (hi : i ≤ n) : Wy code n (i : Int) = ((bl_q code i 0 i).length : Int) ∧ ((bl_q code i 0 i) ≠ [] → (bl_q code i 0 i).getLast? = some (Fm code n (i : Int))) := by
  have far : ∀ m, i ≤ m → m ≤ n → Wy code m (i : Int) = Wy code i (i : Int) ∧ Fm code m (i : Int) = Fm code i (i : Int) := by
    intro m hm
    induction m with
    | zero => intro _; rw [show i = 0 by omega]; exact ⟨rfl, rfl⟩
    | succ m ih =>
      intro hmn
      rcases Nat.lt_or_ge m i with h | h
      · rw [show m + 1 = i by omega]; exact ⟨rfl, rfl⟩
      · obtain ⟨e1, e2⟩ := ih h (by omega)
        have hne : ((i : Int) == (m : Int) + 1) = false := beq_eq_false_iff_ne.2 (by omega)
        have hne2 : (usT (ins code m).f0 && (ins code m).f7 == (i : Int)) = false := by
          cases hu : usT (ins code m).f0
          · rfl
          · have := hT m (by omega) hu
            rw [beq_eq_false_iff_ne.2 (by omega)]; rfl
        simp only [Wy, Fm, hne, hne2, Bool.and_false, Bool.false_eq_true, if_false]
        exact ⟨by rw [e1]; simp, e2⟩
  have near : ∀ m, m ≤ i → Wy code m (i : Int) = ((bl_q code i 0 m).length : Int) ∧ ((bl_q code i 0 m) ≠ [] → (bl_q code i 0 m).getLast? = some (Fm code m (i : Int))) := by
    intro m
    induction m with
    | zero => intro _; exact ⟨rfl, fun h => absurd rfl h⟩
    | succ m ih =>
      intro hm
      obtain ⟨e1, e2⟩ := ih (by omega)
      have es : bl_q code i 0 (m + 1) = bl_q code i 0 m ++ (if isB_q code i m = true then [(m : Int)] else []) := by
        unfold bl_q
        rw [List.range'_1_concat, List.filter_append, List.map_append, Nat.zero_add, List.filter_cons]
        split <;> simp
      have ec : ((i : Int) == (m : Int) + 1) = (m + 1 == i) := by
        rw [Bool.eq_iff_iff]; simp; omega
      rw [es]
      simp only [Wy, Fm, ec]
      cases hA : ((ins code m).f0 != 18 && (m + 1 == i))
      · have hA' : (m + 1 == i && (ins code m).f0 != 18) = false := by rw [Bool.and_comm]; exact hA
        cases hB : (usT (ins code m).f0 && (ins code m).f7 == (i : Int))
        · rw [show isB_q code i m = false by unfold isB_q; rw [hA', hB]; rfl]
          simp only [Bool.false_eq_true, if_false, List.append_nil]
          exact ⟨by rw [e1]; simp, e2⟩
        · rw [show isB_q code i m = true by unfold isB_q; rw [hA', hB]; rfl]
          simp only [Bool.false_eq_true, if_true, if_false, List.length_append, List.length_cons, List.length_nil]
          exact ⟨by rw [e1]; simp, fun _ => by simp⟩
      · have hA' : (m + 1 == i && (ins code m).f0 != 18) = true := by rw [Bool.and_comm]; exact hA
        have hB : (usT (ins code m).f0 && (ins code m).f7 == (i : Int)) = false := by
          cases hu : usT (ins code m).f0
          · rfl
          · have := hT m (by omega) hu
            simp at hA
            rw [beq_eq_false_iff_ne.2 (by omega)]; rfl
        rw [hB, show isB_q code i m = true by unfold isB_q; rw [hA', hB]; rfl]
        simp only [ Bool.false_eq_true, if_true, if_false, List.length_append, List.length_cons, List.length_nil]
        exact ⟨by rw [e1]; simp, fun _ => by simp⟩
  obtain ⟨f1, f2⟩ := far n hi (Nat.le_refl _)
  obtain ⟨n1, n2⟩ := near i (Nat.le_refl _)
  rw [f1, f2]
  exact ⟨n1, n2⟩
end Go.Proofs.Ytdmbnlpcfgphpaa.Q
namespace Go.Proofs.Ytdmbnlpcfgphpaa.Q
open Go.RowKit Go.Proofs.YtdmbnlpcfgphpaaW.PrintWords Go.Proofs.YtdmbnlpcfgphpaaW.PrintLast Go.Proofs.YtdmbnlpcfgphpaaW.PrintMore
set_option linter.unusedVariables false
set_option linter.unusedSimpArgs false
def pln0_q (x : S40) (i n : Int) (l : List S80) : Bool := okO x.f0 && tmp (usD x.f0) x.f1 && tmp (usA x.f0) x.f2 && tmp (usB x.f0) x.f3 && (usK x.f0 || x.f6 == 0) && plc x l && (if usT x.f0 then decide (i + 1 < x.f7) && decide (x.f7 < n) else x.f7 == 0)
theorem pln0_chk_q (code : List S40) (l : List S80) (n i : Nat) : chk code l n i = (pln0_q (ins code i) (i : Int) (n : Int) l && !(usD (ins code i).f0 && (Md code i (ins code i).f1).isSome)) := by
  unfold chk pln0_q
  cases okO (ins code i).f0 <;> cases tmp (usD (ins code i).f0) (ins code i).f1 <;> cases tmp (usA (ins code i).f0) (ins code i).f2 <;> cases tmp (usB (ins code i).f0) (ins code i).f3 <;> cases (usK (ins code i).f0 || (ins code i).f6 == 0) <;> cases plc (ins code i) l <;> simp
theorem md_any_q (code : List S40) (t : Int) : ∀ i, (Md code i t).isSome = (List.range i).any fun j => usD (ins code j).f0 && t == (ins code j).f1
  | 0 => rfl
  | i + 1 => by
    rw [List.range_succ, List.any_append, ← md_any_q code t i]
    simp only [Md, List.any_cons, List.any_nil, Bool.or_false]
    split
    · rename_i h; rw [h]; simp
    · rename_i h
      rw [Bool.eq_false_iff.2 h, Bool.or_false]
theorem md_spec_q (code : List S40) (t : Int) : ∀ i v, Md code i t = some v → ∃ j : Nat, v = (j : Int) ∧ j < i ∧ usD (ins code j).f0 = true ∧ (ins code j).f1 = t
  | 0, v, h => by simp [Md] at h
  | i + 1, v, h => by
    simp only [Md] at h
    split at h
    · rename_i hc
      cases h
      simp at hc
      exact ⟨i, rfl, by omega, hc.1, hc.2.symm⟩
    · obtain ⟨j, h1, h2, h3⟩ := md_spec_q code t i v h
      exact ⟨j, h1, by omega, h3⟩
theorem md_of_q {code : List S40} {t : Int} {i j : Nat} (hj : j < i) (h1 : usD (ins code j).f0 = true) (h2 : (ins code j).f1 = t) : (Md code i t).isSome = true := by
  rw [md_any_q, List.any_eq_true]
  exact ⟨j, List.mem_range.2 hj, by simp [h1, h2]⟩
theorem chk_uniq_q {code : List S40} {l : List S80} {n : Nat} (hc : ∀ i, i < n → chk code l n i = true) {i j : Nat} (hi : i < n) (hj : j < n) (h1 : usD (ins code i).f0 = true) (h2 : usD (ins code j).f0 = true) (h3 : (ins code i).f1 = (ins code j).f1) : i = j := by
  rcases Nat.lt_trichotomy i j with h | h | h
  · have h4 := hc j hj
    rw [pln0_chk_q, md_of_q h h1 h3, h2] at h4
    simp at h4
  · exact h
  · have h4 := hc i hi
    rw [pln0_chk_q, md_of_q h h2 h3.symm, h1] at h4
    simp at h4
/-- Is a temp made on the way to piece j? -/
def chn_q (code : List S40) (n : Nat) (t : Int) : Nat → Nat → Bool
  | 0, _ => false
  | f + 1, j => if j = 0 then false else (usD (ins code (Fm code n (j : Int)).toNat).f0 && (ins code (Fm code n (j : Int)).toNat).f1 == t) || chn_q code n t f (Fm code n (j : Int)).toNat
section
variable {code : List S40} {l : List S80} {n : Nat}
theorem chn_none_q (hT : ∀ k, k < n → usT (ins code k).f0 = true → (k : Int) + 1 < (ins code k).f7) (t : Int) : ∀ f j, j ≤ n → (∀ p, p < j → usD (ins code p).f0 = true → (ins code p).f1 ≠ t) → chn_q code n t f j = false
  | 0, _, _, _ => rfl
  | f + 1, j, hj, h => by
    unfold chn_q
    split
    · rfl
    · have h0 := fm_lt code n (j : Int) hT (by omega)
      rw [chn_none_q hT t f _ (by omega) (fun p hp => h p (by omega)), Bool.or_false]
      cases hu : usD (ins code (Fm code n (j : Int)).toNat).f0
      · rfl
      · rw [beq_eq_false_iff_ne.2 (h _ (by omega) hu)]; rfl
theorem climb_chn_q (hT : ∀ k, k < n → usT (ins code k).f0 = true → (k : Int) + 1 < (ins code k).f7) (t : Int) (at_ : Nat) (ha : usD (ins code at_).f0 = true) (ha2 : (ins code at_).f1 = t) (hu : ∀ p, p < n → usD (ins code p).f0 = true → (ins code p).f1 = t → p = at_) : ∀ f j, j < n → j < f → climb (fl code n n) (at_ : Int) f (j : Int) = chn_q code n t f j
  | 0, j, _, hf => absurd hf (by omega)
  | f + 1, j, hj, hf => by
    by_cases h : at_ < j
    · have h0 := fm_lt code n (j : Int) hT (by omega)
      obtain ⟨p, hp⟩ : ∃ p : Nat, Fm code n (j : Int) = (p : Int) := ⟨(Fm code n (j : Int)).toNat, by omega⟩
      unfold climb chn_q
      rw [if_pos (show (at_ : Int) < (j : Int) by omega), if_neg (show ¬ j = 0 by omega), rd_fl code n n (j : Int) (by omega) (by omega), hp, Int.toNat_natCast]
      by_cases he : p = at_
      · rw [if_pos (show (p : Int) = (at_ : Int) by omega), he, ha, ha2]; simp
      · rw [if_neg (show ¬ (p : Int) = (at_ : Int) by omega), climb_chn_q hT t at_ ha ha2 hu f p (by omega) (by omega)]
        have : (usD (ins code p).f0 && (ins code p).f1 == t) = false := by
          cases hd : usD (ins code p).f0
          · rfl
          · rw [beq_eq_false_iff_ne.2 (fun h3 => he (hu p (by omega) hd h3))]; rfl
        rw [this, Bool.false_or]
    · unfold climb
      rw [if_neg (show ¬ (at_ : Int) < (j : Int) by omega), chn_none_q hT t (f + 1) j (by omega) (fun p hp hd h3 => by have := hu p (by omega) hd h3; omega)]
theorem above_chn_q (hc : ∀ i, i < n → chk code l n i = true) (t : Int) (i : Nat) (hi : i < n) : aboveOf (Md code n) (fl code n n) t i = chn_q code n t (i + 1) i := by
  have hT : ∀ k, k < n → usT (ins code k).f0 = true → (k : Int) + 1 < (ins code k).f7 := fun k hk h => (chk_to (hc k hk) h).1
  unfold aboveOf
  cases hm : Md code n t with
  | none =>
    refine (chn_none_q hT t (i + 1) i (by omega) (fun p hp hd h3 => ?_)).symm
    have := md_of_q (code := code) (i := n) (show p < n by omega) hd h3
    rw [hm] at this
    cases this
  | some v =>
    obtain ⟨a, rfl, h1, h2, h3⟩ := md_spec_q code t n v hm
    exact climb_chn_q hT t a h2 h3 (fun p hp hd h4 => chk_uniq_q hc hp h1 hd h2 (h4.trans h3.symm)) (i + 1) i hi (by omega)
theorem dup_md_q (i : Nat) : ((List.range' 0 i).any fun j => usD (ins code i).f0 && (usD (ins code j).f0 && (ins code i).f1 == (ins code j).f1)) = (usD (ins code i).f0 && (Md code i (ins code i).f1).isSome) := by
  rw [md_any_q, ← List.range_eq_range']
  cases usD (ins code i).f0
  · simp
  · simp
theorem chk2_way_q {i : Nat} (h : chk2 code n i = true) (h0 : 0 < i) : Wy code n (i : Int) = 1 := by
  unfold chk2 at h
  simp at h
  omega
end
end Go.Proofs.Ytdmbnlpcfgphpaa.Q

namespace Go.Proofs.Ytdmbnlpcfgphpaa.Q
open Go.RowKit Go.Proofs.YtdmbnlpcfgphpaaW.PrintWords Go.Proofs.YtdmbnlpcfgphpaaW.PrintLast Go.Proofs.YtdmbnlpcfgphpaaW.PrintMore
set_option linter.unusedVariables false
set_option linter.unusedSimpArgs false
def par (code : List S40) (i : Nat) : Nat := (Fm code code.length (i : Int)).toNat
/-- Piece j is i or lies below it. -/
inductive Sub (code : List S40) (i : Nat) : Nat → Prop
  | self : Sub code i i
  | step (j : Nat) : 0 < j → j < code.length → Sub code i (par code j) → Sub code i j
/-- Right code, as a tree. -/
structure Tr (code : List S40) : Prop where
  n1 : 1 ≤ code.length
  n4 : code.length ≤ 400
  last : (ins code (code.length - 1)).f0 = 18
  ok : ∀ i, i < code.length → okO (ins code i).f0 = true
  lt : ∀ j, 0 < j → j < code.length → par code j < j
  one : ∀ j, 0 < j → j < code.length → bl_q code j 0 j = [(par code j : Int)]
  way : ∀ j k, 0 < j → j < code.length → k < code.length → (isB_q code j k = true ↔ k = par code j)
  uniq : ∀ i j, i < code.length → j < code.length → usD (ins code i).f0 = true → usD (ins code j).f0 = true → (ins code i).f1 = (ins code j).f1 → i = j
  nx : ∀ i, i < code.length → (ins code i).f0 ≠ 18 → i + 1 < code.length
  tgt : ∀ i, i < code.length → usT (ins code i).f0 = true → (i : Int) + 1 < (ins code i).f7 ∧ (ins code i).f7 < code.length
  noto : ∀ i, i < code.length → usT (ins code i).f0 = false → (ins code i).f7 = 0
  tD : ∀ i, i < code.length → tmp (usD (ins code i).f0) (ins code i).f1 = true
  tA : ∀ i, i < code.length → tmp (usA (ins code i).f0) (ins code i).f2 = true
  tB : ∀ i, i < code.length → tmp (usB (ins code i).f0) (ins code i).f3 = true
  opA : ∀ i, i < code.length → usA (ins code i).f0 = true → ∃ k, k < i ∧ Sub code k i ∧ usD (ins code k).f0 = true ∧ (ins code k).f1 = (ins code i).f2
  opB : ∀ i, i < code.length → usB (ins code i).f0 = true → ∃ k, k < i ∧ Sub code k i ∧ usD (ins code k).f0 = true ∧ (ins code k).f1 = (ins code i).f3
theorem chn_up {code : List S40} {t : Int} (hlt : ∀ j, 0 < j → j < code.length → par code j < j) : ∀ f j, j < code.length → chn_q code code.length t f j = true → ∃ k, k < j ∧ Sub code k j ∧ usD (ins code k).f0 = true ∧ (ins code k).f1 = t
  | 0, j, _, h => by simp [chn_q] at h
  | f + 1, j, hj, h => by
    unfold chn_q at h
    by_cases h0 : j = 0
    · rw [if_pos h0] at h; cases h
    · rw [if_neg h0] at h
      have hl := hlt j (by omega) hj
      rw [Bool.or_eq_true] at h
      rcases h with h | h
      · rw [Bool.and_eq_true] at h
        exact ⟨par code j, hl, .step j (by omega) hj .self, h.1, beq_iff_eq.1 h.2⟩
      · obtain ⟨k, h1, h2, h3⟩ := chn_up hlt f (par code j) (by omega) h
        exact ⟨k, by omega, .step j (by omega) hj h2, h3⟩
theorem tr_of {code : List S40} {l : List S80} (hR : right code l = true) : Tr code := by
  obtain ⟨h1, h2, h3, h4, h5⟩ := right_parts hR
  have hT : ∀ k, k < code.length → usT (ins code k).f0 = true → (k : Int) + 1 < (ins code k).f7 := fun k hk h => (chk_to (h4 k hk) h).1
  have hbl : ∀ j, 0 < j → j < code.length → par code j < j ∧ bl_q code j 0 j = [(par code j : Int)] := fun j h0 hj => by
    have hw := chk2_way_q (h5 j hj) h0
    obtain ⟨w1, w2⟩ := ways_bl_q hT j (by omega) (by omega)
    rw [hw] at w1
    obtain ⟨v, hv⟩ := List.length_eq_one_iff.1 (show (bl_q code j 0 j).length = 1 by omega)
    have hfm := fm_lt code code.length (j : Int) hT (by omega)
    have hv2 : v = Fm code code.length (j : Int) := by
      have := w2 (by rw [hv]; simp)
      rw [hv] at this
      simpa using this
    unfold par
    exact ⟨by omega, by rw [hv, hv2]; congr 1; omega⟩
  have hlt : ∀ j, 0 < j → j < code.length → par code j < j := fun j h0 hj => (hbl j h0 hj).1
  have hzero : ∀ i, i < code.length → usA (ins code i).f0 = true → chn_q code code.length (ins code i).f2 (i + 1) i = true := fun i hi hu => by
    have h := h5 i hi
    simp only [chk2, Bool.and_eq_true] at h
    have h6 := h.1.2
    rw [hu] at h6
    rw [above_chn_q h4 _ i hi] at h6
    simpa using h6
  have hzero2 : ∀ i, i < code.length → usB (ins code i).f0 = true → chn_q code code.length (ins code i).f3 (i + 1) i = true := fun i hi hu => by
    have h := h5 i hi
    simp only [chk2, Bool.and_eq_true] at h
    have h6 := h.2
    rw [hu] at h6
    rw [above_chn_q h4 _ i hi] at h6
    simpa using h6
  have hch : ∀ i, i < code.length → tmp (usD (ins code i).f0) (ins code i).f1 = true ∧ tmp (usA (ins code i).f0) (ins code i).f2 = true ∧ tmp (usB (ins code i).f0) (ins code i).f3 = true := fun i hi => by
    have := h4 i hi
    simp only [chk, Bool.and_eq_true] at this
    exact ⟨this.1.1.1.1.1.1.2, this.1.1.1.1.1.2, this.1.1.1.1.2⟩
  refine ⟨h1, h2, h3, fun i hi => (chk_bd (h4 i hi)).1, hlt, fun j h0 hj => (hbl j h0 hj).2, ?_, fun i j hi hj => chk_uniq_q h4 hi hj, fun i hi h => last_ne h3 hi h, fun i hi h => chk_to (h4 i hi) h, ?_, fun i hi => (hch i hi).1, fun i hi => (hch i hi).2.1, fun i hi => (hch i hi).2.2, fun i hi h => chn_up hlt _ i hi (hzero i hi h), fun i hi h => chn_up hlt _ i hi (hzero2 i hi h)⟩
  · intro j k h0 hj hk
    have hb := (hbl j h0 hj).2
    constructor
    · intro h
      have hkj : k < j := by
        simp only [isB_q, Bool.or_eq_true, Bool.and_eq_true, beq_iff_eq] at h
        rcases h with h | h
        · omega
        · have := hT k hk h.1; omega
      have hm : (k : Int) ∈ bl_q code j 0 j := by
        unfold bl_q
        exact List.mem_map.2 ⟨k, List.mem_filter.2 ⟨by rw [List.mem_range'_1]; omega, h⟩, rfl⟩
      rw [hb] at hm
      have := List.mem_singleton.1 hm
      omega
    · intro h
      have hm : (k : Int) ∈ bl_q code j 0 j := by rw [hb, h]; simp
      unfold bl_q at hm
      obtain ⟨q, hq, hqe⟩ := List.mem_map.1 hm
      have := (List.mem_filter.1 hq).2
      obtain rfl : q = k := by omega
      exact this
  · intro i hi hu
    have h := h4 i hi
    simp only [chk, Bool.and_eq_true] at h
    have h6 := h.1.2
    rw [hu] at h6
    simpa using h6
section
variable {code : List S40}
theorem Tr.par_next (t : Tr code) {i : Nat} (hi : i < code.length) (h : (ins code i).f0 ≠ 18) : par code (i + 1) = i := by
  have := (t.way (i + 1) i (by omega) (t.nx i hi h) hi).1 (by simp [isB_q, h])
  exact this.symm
theorem Tr.par_to (t : Tr code) {i : Nat} (hi : i < code.length) (h : usT (ins code i).f0 = true) : par code (ins code i).f7.toNat = i := by
  have h7 := t.tgt i hi h
  have e : ((ins code i).f7.toNat : Int) = (ins code i).f7 := by omega
  have := (t.way (ins code i).f7.toNat i (by omega) (by omega) hi).1 (by simp [isB_q, h, e])
  exact this.symm
theorem Tr.kid (t : Tr code) {j : Nat} (h0 : 0 < j) (hj : j < code.length) : (j = par code j + 1 ∧ (ins code (par code j)).f0 ≠ 18) ∨ (usT (ins code (par code j)).f0 = true ∧ j = (ins code (par code j)).f7.toNat) := by
  have hl := t.lt j h0 hj
  have h := (t.way j (par code j) h0 hj (by omega)).2 rfl
  simp only [isB_q, Bool.or_eq_true, Bool.and_eq_true, beq_iff_eq] at h
  rcases h with h | h
  · exact Or.inl ⟨by omega, by simpa using h.2⟩
  · exact Or.inr ⟨h.1, by omega⟩
theorem Sub.le (t : Tr code) {i j : Nat} (h : Sub code i j) : i ≤ j := by
  induction h with
  | self => exact Nat.le_refl _
  | step j h0 hj _ ih => have := t.lt j h0 hj; omega
theorem Sub.trans {i j k : Nat} (h : Sub code i j) (h2 : Sub code j k) : Sub code i k := by
  induction h2 with
  | self => exact h
  | step q h0 hq _ ih => exact .step q h0 hq ih
theorem Tr.root (t : Tr code) : ∀ j, j < code.length → Sub code 0 j := by
  intro j
  induction j using Nat.strongRecOn with
  | ind j ih =>
    intro hj
    by_cases h0 : j = 0
    · subst h0; exact .self
    · have hl := t.lt j (by omega) hj
      exact .step j (by omega) hj (ih _ hl (by omega))
theorem Tr.sub_cases (t : Tr code) {i : Nat} (hi : i < code.length) {j : Nat} : Sub code i j ↔ j = i ∨ ((ins code i).f0 ≠ 18 ∧ Sub code (i + 1) j) ∨ (usT (ins code i).f0 = true ∧ Sub code (ins code i).f7.toNat j) := by
  constructor
  · intro h
    induction h with
    | self => exact Or.inl rfl
    | step j h0 hj h1 ih =>
      rcases ih with ih | ih | ih
      · rcases t.kid h0 hj with ⟨k1, k2⟩ | ⟨k1, k2⟩
        · rw [ih] at k1 k2
          exact Or.inr (Or.inl ⟨k2, k1 ▸ .self⟩)
        · rw [ih] at k1 k2
          exact Or.inr (Or.inr ⟨k1, k2 ▸ .self⟩)
      · exact Or.inr (Or.inl ⟨ih.1, .step j h0 hj ih.2⟩)
      · exact Or.inr (Or.inr ⟨ih.1, .step j h0 hj ih.2⟩)
  · intro h
    rcases h with h | ⟨h1, h2⟩ | ⟨h1, h2⟩
    · exact h ▸ .self
    · refine Sub.trans (.step (i + 1) (by omega) (t.nx i hi h1) ?_) h2
      rw [t.par_next hi h1]; exact .self
    · have h7 := t.tgt i hi h1
      refine Sub.trans (.step _ (by omega) (by omega) ?_) h2
      rw [t.par_to hi h1]; exact .self
end
abbrev KM := Int → Option Int
def isAtom (o : Int) : Bool := o == 8 || o == 9 || o == 10 || o == 11 || o == 12
/-- The temp that the nearest piece on the way to piece i says of a location. -/
def knw (code : List S40) : Nat → Nat → Int → Option Int
  | 0, _, _ => none
  | f + 1, i, loc => if i = 0 then none else
      if (ins code (par code i)).f0 = 6 ∧ (ins code (par code i)).f4 = loc then some (ins code (par code i)).f1
      else if (ins code (par code i)).f0 = 7 ∧ (ins code (par code i)).f4 = loc then some (ins code (par code i)).f2
      else if ((ins code (par code i)).f0 = 14 ∧ (ins code (par code i)).f4 ≤ loc ∧ loc < (ins code (par code i)).f4 + (ins code (par code i)).f5) ∨ isAtom (ins code (par code i)).f0 = true then none
      else knw code f (par code i) loc
def kw (code : List S40) (i : Nat) (loc : Int) : Option Int := knw code (i + 1) i loc
def spr (code : List S40) (i : Nat) : Bool := (ins code i).f0 == 6 && (kw code i (ins code i).f4).isSome
def mkr (code : List S40) (t : Int) : Option Nat := (List.range code.length).find? fun i => usD (ins code i).f0 && (ins code i).f1 == t && spr code i
def meaF (code : List S40) : Nat → Int → Int
  | 0, t => t
  | f + 1, t => match mkr code t with
    | some i => meaF code f ((kw code i (ins code i).f4).getD t)
    | none => t
def mea (code : List S40) (t : Int) : Int := meaF code (code.length + 1) t
def Mg (code : List S40) : KM := fun t => match mkr code t with
  | some i => (kw code i (ins code i).f4).map (mea code)
  | none => none
def kn (code : List S40) (i : Nat) : KM := fun loc => (kw code i loc).map (mea code)
def mnt (M : KM) (t : Int) : Int := (M t).getD t
def kstep (x : S40) (M K : KM) : KM :=
  if x.f0 = 6 then (if (K x.f4).isSome = true then K else fun u => if u = x.f4 then some x.f1 else K u)
  else if x.f0 = 7 then fun u => if u = x.f4 then some (mnt M x.f2) else K u
  else if x.f0 = 14 then fun u => if x.f4 ≤ u ∧ u < x.f4 + x.f5 then none else K u
  else if isAtom x.f0 = true then fun _ => none
  else K
section
variable {code : List S40}
theorem knw_fuel (t : Tr code) (loc : Int) : ∀ f g i, i < f → i < g → i < code.length → knw code f i loc = knw code g i loc
  | 0, _, _, h, _, _ => absurd h (by omega)
  | _, 0, _, _, h, _ => absurd h (by omega)
  | f + 1, g + 1, i, hf, hg, hi => by
    unfold knw
    by_cases h0 : i = 0
    · rw [if_pos h0, if_pos h0]
    · rw [if_neg h0, if_neg h0]
      have hl := t.lt i (by omega) hi
      rw [knw_fuel t loc f g (par code i) (by omega) (by omega) (by omega)]
theorem kw_zero (loc : Int) : kw code 0 loc = none := rfl
theorem kw_step (t : Tr code) {i : Nat} (h0 : 0 < i) (hi : i < code.length) (loc : Int) : kw code i loc =
      if (ins code (par code i)).f0 = 6 ∧ (ins code (par code i)).f4 = loc then some (ins code (par code i)).f1
      else if (ins code (par code i)).f0 = 7 ∧ (ins code (par code i)).f4 = loc then some (ins code (par code i)).f2
      else if ((ins code (par code i)).f0 = 14 ∧ (ins code (par code i)).f4 ≤ loc ∧ loc < (ins code (par code i)).f4 + (ins code (par code i)).f5) ∨ isAtom (ins code (par code i)).f0 = true then none
      else kw code (par code i) loc := by
  have hl := t.lt i (by omega) hi
  conv => lhs; unfold kw knw
  rw [if_neg (by omega)]
  unfold kw
  rw [knw_fuel t loc i (par code i + 1) (par code i) (by omega) (by omega) (by omega)]
/-- What is known is made above. -/
theorem kw_made (t : Tr code) {loc u : Int} : ∀ i, i < code.length → kw code i loc = some u → ∃ k, k < i ∧ Sub code k i ∧ usD (ins code k).f0 = true ∧ (ins code k).f1 = u := by
  intro i
  induction i using Nat.strongRecOn with
  | ind i ih =>
    intro hi h
    by_cases h0 : i = 0
    · subst h0; rw [kw_zero] at h; cases h
    have hl := t.lt i (by omega) hi
    rw [kw_step t (by omega) hi] at h
    split at h
    · rename_i hc
      cases h
      exact ⟨par code i, hl, .step i (by omega) hi .self, by rw [hc.1]; decide, rfl⟩
    split at h
    · rename_i hc
      cases h
      obtain ⟨k, k1, k2, k3⟩ := t.opA (par code i) (by omega) (by rw [hc.1]; decide)
      exact ⟨k, by omega, .step i (by omega) hi k2, k3⟩
    split at h
    · cases h
    · obtain ⟨k, k1, k2, k3⟩ := ih (par code i) hl (by omega) h
      exact ⟨k, by omega, .step i (by omega) hi k2, k3⟩
theorem mkr_some (t : Tr code) {u : Int} {i : Nat} : mkr code u = some i ↔ i < code.length ∧ (ins code i).f1 = u ∧ spr code i = true := by
  constructor
  · intro h
    have h1 := List.find?_some h
    have h2 := List.mem_of_find?_eq_some h
    simp only [Bool.and_eq_true, beq_iff_eq] at h1
    exact ⟨List.mem_range.1 h2, h1.1.2, h1.2⟩
  · intro ⟨h1, h2, h3⟩
    have hd : usD (ins code i).f0 = true := by
      unfold spr at h3
      rw [Bool.and_eq_true] at h3
      rw [show (ins code i).f0 = 6 by simpa using h3.1]; decide
    cases hm : mkr code u with
    | none =>
      have := List.find?_eq_none.1 hm i (List.mem_range.2 h1)
      simp [hd, h2, h3] at this
    | some j =>
      have g1 := List.find?_some hm
      have g2 := List.mem_of_find?_eq_some hm
      simp only [Bool.and_eq_true, beq_iff_eq] at g1
      rw [t.uniq j i (List.mem_range.1 g2) h1 g1.1.1 hd (by rw [g1.1.2, h2])]
theorem spr_parts {i : Nat} (h : spr code i = true) : (ins code i).f0 = 6 ∧ ∃ u, kw code i (ins code i).f4 = some u := by
  unfold spr at h
  rw [Bool.and_eq_true] at h
  exact ⟨by simpa using h.1, Option.isSome_iff_exists.1 h.2⟩
theorem spr_D {i : Nat} (h : spr code i = true) : usD (ins code i).f0 = true := by rw [(spr_parts h).1]; decide
theorem meaF_none {u : Int} (h : mkr code u = none) : ∀ f, meaF code f u = u
  | 0 => rfl
  | f + 1 => by unfold meaF; rw [h]
theorem meaF_st (t : Tr code) : ∀ (i : Nat) (u : Int), mkr code u = some i → ∀ f, i < f → meaF code f u = meaF code (i + 1) u := by
  intro i
  induction i using Nat.strongRecOn with
  | ind i ih =>
    intro u hu f hf
    obtain ⟨hi, h1, h2⟩ := (mkr_some t).1 hu
    obtain ⟨h6, v, hv⟩ := spr_parts h2
    obtain ⟨f, rfl⟩ : ∃ g, f = g + 1 := ⟨f - 1, by omega⟩
    unfold meaF
    rw [hu]
    dsimp only
    rw [hv, Option.getD_some]
    obtain ⟨k, k1, k2, k3, k4⟩ := kw_made t i hi hv
    cases hm : mkr code v with
    | none => rw [meaF_none hm, meaF_none hm]
    | some j =>
      obtain ⟨hj, j1, j2⟩ := (mkr_some t).1 hm
      have : j = k := t.uniq j k hj (by omega) (spr_D j2) k3 (by rw [j1, k4])
      subst this
      rw [ih j k1 v hm f (by omega), ih j k1 v hm i (by omega)]
theorem mea_none {u : Int} (h : mkr code u = none) : mea code u = u := meaF_none h _
theorem mea_some (t : Tr code) {u v : Int} {i : Nat} (h : mkr code u = some i) (hv : kw code i (ins code i).f4 = some v) : mea code u = mea code v := by
  obtain ⟨hi, h1, h2⟩ := (mkr_some t).1 h
  obtain ⟨k, k1, k2, k3, k4⟩ := kw_made t i hi hv
  unfold mea
  conv => lhs; unfold meaF
  rw [h]
  dsimp only
  rw [hv, Option.getD_some]
  cases hm : mkr code v with
  | none => rw [meaF_none hm, meaF_none hm]
  | some j =>
    obtain ⟨hj, j1, j2⟩ := (mkr_some t).1 hm
    have : j = k := t.uniq j k hj (by omega) (spr_D j2) k3 (by rw [j1, k4])
    subst this
    rw [meaF_st t j v hm code.length (by omega), meaF_st t j v hm (code.length + 1) (by omega)]
theorem mnt_Mg (t : Tr code) (u : Int) : mnt (Mg code) u = mea code u := by
  unfold mnt Mg
  cases h : mkr code u with
  | none => rw [mea_none h]; rfl
  | some i =>
    obtain ⟨hi, h1, h2⟩ := (mkr_some t).1 h
    obtain ⟨h6, v, hv⟩ := spr_parts h2
    dsimp only
    rw [hv, mea_some t h hv]
    rfl
theorem kn_zero : kn code 0 = fun _ => none := rfl
theorem kn_step (t : Tr code) {i : Nat} (h0 : 0 < i) (hi : i < code.length) : kn code i = kstep (ins code (par code i)) (Mg code) (kn code (par code i)) := by
  have hl := t.lt i (by omega) hi
  funext loc
  show (kw code i loc).map (mea code) = _
  rw [kw_step t h0 hi]
  have hsp : ∀ j, j < code.length → (ins code j).f0 = 6 → kw code j (ins code j).f4 = none → mea code (ins code j).f1 = (ins code j).f1 := fun j hj h6 hk => by
    cases hm : mkr code (ins code j).f1 with
    | none => exact mea_none hm
    | some q =>
      obtain ⟨hq, q1, q2⟩ := (mkr_some t).1 hm
      have : q = j := t.uniq q j hq hj (spr_D q2) (by rw [h6]; decide) q1
      subst this
      obtain ⟨_, v, hv⟩ := spr_parts q2
      rw [hk] at hv; cases hv
  generalize hp : par code i = p at *
  by_cases h6 : (ins code p).f0 = 6
  · have e7 : ¬ (ins code p).f0 = 7 := by omega
    have e14 : ¬ (ins code p).f0 = 14 := by omega
    have ea : isAtom (ins code p).f0 = false := by rw [h6]; decide
    simp only [kstep, h6, if_true, true_and]
    by_cases he : (ins code p).f4 = loc
    · rw [if_pos he]
      cases hk : kw code p (ins code p).f4 with
      | none =>
        have hs : (kn code p (ins code p).f4).isSome = false := by unfold kn; rw [hk]; rfl
        rw [if_neg (by rw [hs]; decide), if_pos he.symm]
        show some (mea code _) = _
        rw [hsp p (by omega) h6 hk]
      | some v =>
        have hs : (kn code p (ins code p).f4).isSome = true := by unfold kn; rw [hk]; rfl
        rw [if_pos hs, ← he]
        unfold kn
        rw [hk]
        have hm : mkr code (ins code p).f1 = some p := (mkr_some t).2 ⟨by omega, rfl, by unfold spr; rw [h6, hk]; rfl⟩
        show some (mea code _) = some (mea code v)
        rw [mea_some t hm hk]
    · rw [if_neg he]
      have : ¬ (((6 : Int) = 7) ∧ (ins code p).f4 = loc) := by omega
      rw [if_neg this, if_neg (by simp [isAtom])]
      split
      · rfl
      · dsimp only; rw [if_neg (fun h => he h.symm)]; rfl
  rw [if_neg (fun h => h6 h.1)]
  simp only [kstep, if_neg h6]
  by_cases h7 : (ins code p).f0 = 7
  · simp only [h7, if_true, true_and]
    by_cases he : (ins code p).f4 = loc
    · rw [if_pos he, if_pos he.symm, mnt_Mg t]; rfl
    · rw [if_neg he, if_neg (by simp [isAtom]), if_neg (fun h => he h.symm)]; rfl
  rw [if_neg (fun h => h7 h.1), if_neg h7]
  by_cases h14 : (ins code p).f0 = 14
  · simp only [h14, if_true, true_and]
    have ea : isAtom 14 = false := by decide
    by_cases he : (ins code p).f4 ≤ loc ∧ loc < (ins code p).f4 + (ins code p).f5
    · rw [if_pos (Or.inl he), if_pos he]; rfl
    · rw [if_neg (by rw [ea]; simpa using he), if_neg he]; rfl
  rw [if_neg h14]
  by_cases ha : isAtom (ins code p).f0 = true
  · rw [if_pos (Or.inr ha), if_pos ha]; rfl
  · rw [if_neg (by rintro (h | h); exact h14 h.1; exact ha h), if_neg ha]; rfl
end
end Go.Proofs.Ytdmbnlpcfgphpaa.Q

namespace Go.Proofs.Ytdmbnlpcfgphpaa.Q
open Go.RowKit Go.Proofs.YtdmbnlpcfgphpaaW.PrintWords Go.Proofs.YtdmbnlpcfgphpaaW.PrintLast Go.Proofs.YtdmbnlpcfgphpaaW.PrintMore
set_option linter.unusedVariables false
set_option linter.unusedSimpArgs false
def sstep (x : S40) (i : Nat) (K : KM) (sp : List Bool) : List Bool := if x.f0 = 6 ∧ (K x.f4).isSome = true then sp.set i true else sp
def mstep (x : S40) (K M : KM) : KM := if x.f0 = 6 then (match K x.f4 with | some v => fun u => if u = x.f1 then some v else M u | none => M) else M
def wlk (code : List S40) : Nat → Nat → KM → List Bool × KM → List Bool × KM
  | 0, _, _, s => s
  | f + 1, i, K, s => if (ins code i).f0 = 18 then s else
      wlk code f (i + 1) (kstep (ins code i) s.2 K) (if (ins code i).f7 ≠ 0 then wlk code f (ins code i).f7.toNat (kstep (ins code i) s.2 K) (sstep (ins code i) i K s.1, mstep (ins code i) K s.2) else (sstep (ins code i) i K s.1, mstep (ins code i) K s.2))
section
variable {code : List S40}
theorem sstep_len (x : S40) (i : Nat) (K : KM) (sp : List Bool) : (sstep x i K sp).length = sp.length := by
  unfold sstep; split <;> simp
theorem kn_some (i : Nat) (loc : Int) : (kn code i loc).isSome = (kw code i loc).isSome := by unfold kn; simp
theorem spr_kn (i : Nat) : spr code i = true ↔ (ins code i).f0 = 6 ∧ (kn code i (ins code i).f4).isSome = true := by
  rw [kn_some]; unfold spr; simp
theorem Mg_spr (t : Tr code) {i : Nat} (hi : i < code.length) (h : spr code i = true) : Mg code (ins code i).f1 = kn code i (ins code i).f4 := by
  unfold Mg
  rw [(mkr_some t).2 ⟨hi, rfl, h⟩]
  rfl
theorem Mg_some (t : Tr code) {u v : Int} (h : Mg code u = some v) : ∃ i, i < code.length ∧ (ins code i).f1 = u ∧ spr code i = true := by
  unfold Mg at h
  cases hm : mkr code u with
  | none => rw [hm] at h; cases h
  | some i => exact ⟨i, (mkr_some t).1 hm⟩
theorem sub_up {k j : Nat} (h : Sub code k j) (hne : k ≠ j) : Sub code k (par code j) := by
  cases h with
  | self => exact absurd rfl hne
  | step _ _ _ h => exact h
theorem wlk_dfs (t : Tr code) : ∀ (f i : Nat) (s : List Bool × KM), i < code.length → code.length - i ≤ f → s.1.length = code.length →
    (∀ u v, s.2 u = some v → Mg code u = some v) → (∀ k, k < i → Sub code k i → spr code k = true → s.2 (ins code k).f1 = Mg code (ins code k).f1) →
    (wlk code f i (kn code i) s).1.length = code.length ∧ (∀ j, j < code.length → ((wlk code f i (kn code i) s).1.getD j false = true ↔ (Sub code i j ∧ spr code j = true) ∨ s.1.getD j false = true)) ∧
    (∀ u v, (wlk code f i (kn code i) s).2 u = some v ↔ (∃ j, j < code.length ∧ Sub code i j ∧ spr code j = true ∧ (ins code j).f1 = u ∧ Mg code u = some v) ∨ s.2 u = some v)
  | 0, i, s, hi, hf, _, _, _ => absurd hf (by omega)
  | f + 1, i, s, hi, hf, hl, ha, hb => by
    unfold wlk
    by_cases h18 : (ins code i).f0 = 18
    · rw [if_pos h18]
      have hns : spr code i = false := by
        cases h : spr code i
        · rfl
        · have := (spr_parts h).1; omega
      have hT : usT (ins code i).f0 = false := by rw [h18]; decide
      have hsub : ∀ j, Sub code i j → spr code j = true → False := fun j h1 h2 => by
        rcases (t.sub_cases hi).1 h1 with h | ⟨h, _⟩ | ⟨h, _⟩
        · rw [h, hns] at h2; cases h2
        · exact h h18
        · rw [hT] at h; cases h
      refine ⟨hl, fun j hj => ⟨fun h => Or.inr h, fun h => ?_⟩, fun u v => ⟨fun h => Or.inr h, fun h => ?_⟩⟩
      · rcases h with h | h
        · exact (hsub j h.1 h.2).elim
        · exact h
      · rcases h with ⟨j, _, h1, h2, _⟩ | h
        · exact (hsub j h1 h2).elim
        · exact h
    · rw [if_neg h18]
      have hi1 := t.nx i hi h18
      -- what is known behind the piece
      have hK : kstep (ins code i) s.2 (kn code i) = kstep (ins code i) (Mg code) (kn code i) := by
        unfold kstep
        by_cases h7 : (ins code i).f0 = 7
        · obtain ⟨k, k1, k2, k3, k4⟩ := t.opA i hi (by rw [h7]; decide)
          have e : s.2 (ins code i).f2 = Mg code (ins code i).f2 := by
            cases hm : mkr code (ins code i).f2 with
            | none =>
              have hg : Mg code (ins code i).f2 = none := by unfold Mg; rw [hm]
              rw [hg]
              cases hs : s.2 (ins code i).f2 with
              | none => rfl
              | some v => have := ha _ _ hs; rw [hg] at this; cases this
            | some q =>
              obtain ⟨hq, q1, q2⟩ := (mkr_some t).1 hm
              have : q = k := t.uniq q k hq (by omega) (spr_D q2) k3 (by rw [q1, k4])
              subst this
              have := hb q k1 k2 q2
              rw [k4] at this
              exact this
          have e2 : mnt s.2 (ins code i).f2 = mnt (Mg code) (ins code i).f2 := by unfold mnt; rw [e]
          rw [e2]
        · simp only [if_neg h7]
      rw [hK]
      have hKn : kn code (i + 1) = kstep (ins code i) (Mg code) (kn code i) := by
        rw [kn_step t (by omega) hi1, t.par_next hi h18]
      -- the state behind the piece
      generalize hs1 : ((sstep (ins code i) i (kn code i) s.1, mstep (ins code i) (kn code i) s.2) : List Bool × KM) = s1
      have l1 : s1.1.length = code.length := by rw [← hs1]; show (sstep _ _ _ _).length = _; rw [sstep_len, hl]
      have c1 : ∀ j, j < code.length → (s1.1.getD j false = true ↔ (j = i ∧ spr code j = true) ∨ s.1.getD j false = true) := fun j hj => by
        rw [← hs1]
        show (sstep _ _ _ _).getD j false = true ↔ _
        unfold sstep
        by_cases hsp : spr code i = true
        · rw [if_pos ((spr_kn i).1 hsp)]
          by_cases he : i = j
          · subst he
            simp [List.getD, List.getElem?_set, hl, hj, hsp]
          · have he' : ¬ j = i := fun h => he h.symm
            simp [List.getD, List.getElem?_set, he, he']
        · rw [if_neg (fun h => hsp ((spr_kn i).2 h))]
          constructor
          · exact Or.inr
          · rintro (⟨rfl, h⟩ | h)
            · exact absurd h hsp
            · exact h
      have m1 : ∀ u v, s1.2 u = some v ↔ (spr code i = true ∧ (ins code i).f1 = u ∧ Mg code u = some v) ∨ s.2 u = some v := fun u v => by
        rw [← hs1]
        show mstep _ _ _ u = some v ↔ _
        unfold mstep
        by_cases hsp : spr code i = true
        · obtain ⟨e6, _⟩ := spr_parts hsp
          have hk := Mg_spr t hi hsp
          obtain ⟨w, hw⟩ := Option.isSome_iff_exists.1 ((spr_kn i).1 hsp).2
          rw [if_pos e6, hw]
          dsimp only
          by_cases he : u = (ins code i).f1
          · rw [if_pos he, he, hk, hw]
            constructor
            · intro h; exact Or.inl ⟨hsp, rfl, h⟩
            · rintro (h | h)
              · exact h.2.2
              · have := ha _ _ h; rw [hk, hw] at this; exact this
          · rw [if_neg he]
            constructor
            · exact Or.inr
            · rintro (h | h)
              · exact absurd h.2.1.symm he
              · exact h
        · have : (if (ins code i).f0 = 6 then (match kn code i (ins code i).f4 with | some v => fun u => if u = (ins code i).f1 then some v else s.2 u | none => s.2) else s.2) = s.2 := by
            by_cases e6 : (ins code i).f0 = 6
            · rw [if_pos e6]
              cases hk : kn code i (ins code i).f4 with
              | none => rfl
              | some w => exact absurd ((spr_kn i).2 ⟨e6, by rw [hk]; rfl⟩) hsp
            · rw [if_neg e6]
          rw [this]
          constructor
          · exact Or.inr
          · rintro (h | h)
            · exact absurd h.1 hsp
            · exact h
      have a1 : ∀ u v, s1.2 u = some v → Mg code u = some v := fun u v h => by
        rcases (m1 u v).1 h with h | h
        · exact h.2.2
        · exact ha u v h
      have b1 : ∀ k, Sub code k i → spr code k = true → s1.2 (ins code k).f1 = Mg code (ins code k).f1 := fun k h1 h2 => by
        by_cases hki : k = i
        · subst hki
          obtain ⟨w, hw⟩ := Option.isSome_iff_exists.1 ((spr_kn k).1 h2).2
          have hk := Mg_spr t hi h2
          rw [hk, hw]
          exact (m1 _ _).2 (Or.inl ⟨h2, rfl, by rw [hk, hw]⟩)
        · have hlt : k < i := by have := Sub.le t h1; omega
          have h3 := hb k hlt h1 h2
          have hk := Mg_spr t (by omega : k < code.length) h2
          obtain ⟨w, hw⟩ := Option.isSome_iff_exists.1 ((spr_kn k).1 h2).2
          rw [hk, hw] at h3 ⊢
          exact (m1 _ _).2 (Or.inr h3)
      clear hs1
      -- the branch
      have hbr : ∃ s2 : List Bool × KM, (if (ins code i).f7 ≠ 0 then wlk code f (ins code i).f7.toNat (kstep (ins code i) (Mg code) (kn code i)) s1 else s1) = s2 ∧ s2.1.length = code.length ∧
          (∀ j, j < code.length → (s2.1.getD j false = true ↔ (usT (ins code i).f0 = true ∧ Sub code (ins code i).f7.toNat j ∧ spr code j = true) ∨ s1.1.getD j false = true)) ∧
          (∀ u v, s2.2 u = some v ↔ (∃ j, j < code.length ∧ usT (ins code i).f0 = true ∧ Sub code (ins code i).f7.toNat j ∧ spr code j = true ∧ (ins code j).f1 = u ∧ Mg code u = some v) ∨ s1.2 u = some v) := by
        cases hT : usT (ins code i).f0 with
        | false =>
          rw [if_neg (by rw [t.noto i hi hT]; simp)]
          exact ⟨s1, rfl, l1, fun j hj => by simp, fun u v => by simp⟩
        | true =>
          have h7 := t.tgt i hi hT
          rw [if_pos (by omega)]
          have hKt : kn code (ins code i).f7.toNat = kstep (ins code i) (Mg code) (kn code i) := by
            rw [kn_step t (by omega) (by omega), t.par_to hi hT]
          rw [← hKt]
          obtain ⟨r1, r2, r3⟩ := wlk_dfs t f (ins code i).f7.toNat s1 (by omega) (by omega) l1 a1 (fun k hk hs hp => b1 k (by have := sub_up hs (by omega); rwa [t.par_to hi hT] at this) hp)
          exact ⟨_, rfl, r1, fun j hj => by rw [r2 j hj]; simp, fun u v => by rw [r3 u v]; simp⟩
      obtain ⟨s2, hs2, l2, c2, m2⟩ := hbr
      rw [hs2]
      have a2 : ∀ u v, s2.2 u = some v → Mg code u = some v := fun u v h => by
        rcases (m2 u v).1 h with ⟨j, _, _, _, _, _, h⟩ | h
        · exact h
        · exact a1 u v h
      have b2 : ∀ k, k < i + 1 → Sub code k (i + 1) → spr code k = true → s2.2 (ins code k).f1 = Mg code (ins code k).f1 := fun k hk hs hp => by
        have h1 := b1 k (by have := sub_up hs (by omega); rwa [t.par_next hi h18] at this) hp
        have hg := Mg_spr t (by omega : k < code.length) hp
        obtain ⟨w, hw⟩ := Option.isSome_iff_exists.1 ((spr_kn k).1 hp).2
        rw [hg, hw] at h1 ⊢
        exact (m2 _ _).2 (Or.inr h1)
      rw [← hKn]
      obtain ⟨r1, r2, r3⟩ := wlk_dfs t f (i + 1) s2 hi1 (by omega) l2 a2 b2
      refine ⟨r1, fun j hj => ?_, fun u v => ?_⟩
      · rw [r2 j hj, c2 j hj, c1 j hj, t.sub_cases hi]
        constructor
        · rintro (h | h | h | h)
          · exact Or.inl ⟨Or.inr (Or.inl ⟨h18, h.1⟩), h.2⟩
          · exact Or.inl ⟨Or.inr (Or.inr ⟨h.1, h.2.1⟩), h.2.2⟩
          · exact Or.inl ⟨Or.inl h.1, h.2⟩
          · exact Or.inr h
        · rintro (⟨h | h | h, hp⟩ | h)
          · exact Or.inr (Or.inr (Or.inl ⟨h, hp⟩))
          · exact Or.inl ⟨h.2, hp⟩
          · exact Or.inr (Or.inl ⟨h.1, h.2, hp⟩)
          · exact Or.inr (Or.inr (Or.inr h))
      · rw [r3 u v, m2 u v, m1 u v]
        constructor
        · rintro (⟨j, j1, j2, j3⟩ | ⟨j, j1, j2, j3, j4⟩ | h | h)
          · exact Or.inl ⟨j, j1, (t.sub_cases hi).2 (Or.inr (Or.inl ⟨h18, j2⟩)), j3⟩
          · exact Or.inl ⟨j, j1, (t.sub_cases hi).2 (Or.inr (Or.inr ⟨j2, j3⟩)), j4⟩
          · exact Or.inl ⟨i, hi, .self, h⟩
          · exact Or.inr h
        · rintro (⟨j, j1, j2, j3⟩ | h)
          · rcases (t.sub_cases hi).1 j2 with h | h | h
            · subst h; exact Or.inr (Or.inr (Or.inl j3))
            · exact Or.inl ⟨j, j1, h.2, j3⟩
            · exact Or.inr (Or.inl ⟨j, j1, h.1, h.2, j3⟩)
          · exact Or.inr (Or.inr (Or.inr h))
def spL (code : List S40) : List Bool := (List.range code.length).map (spr code)
theorem spL_len : (spL code).length = code.length := by simp [spL]
theorem spL_at {i : Nat} (hi : i < code.length) : (spL code).getD i false = spr code i := by
  simp [spL, List.getD, hi]
/-- The whole walk. -/
theorem wlk_all (t : Tr code) : wlk code code.length 0 (fun _ => none) (List.replicate code.length false, fun _ => none) = (spL code, Mg code) := by
  have h := wlk_dfs t code.length 0 (List.replicate code.length false, fun _ => none) (by have := t.n1; omega) (by omega) (by simp) (fun _ _ h => by cases h) (fun k hk => absurd hk (by omega))
  rw [kn_zero] at h
  obtain ⟨r1, r2, r3⟩ := h
  generalize wlk code code.length 0 (fun _ => none) (List.replicate code.length false, fun _ => none) = r at r1 r2 r3
  obtain ⟨sp, M⟩ := r
  dsimp only at r1 r2 r3
  congr 1
  · apply List.ext_getElem
    · rw [r1, spL_len]
    · intro j hj hj2
      have hj3 : j < code.length := by omega
      have h2 := r2 j hj3
      have e1 : sp.getD j false = sp[j] := by simp [List.getD, hj]
      have e2 : (spL code).getD j false = (spL code)[j] := by simp [List.getD, hj2]
      rw [← e1, ← e2, spL_at hj3, Bool.eq_iff_iff, h2]
      have e3 : (List.replicate code.length false).getD j false = false := by simp [List.getD, hj3]
      rw [e3]
      simp [t.root j hj3]
  · funext u
    cases hm : Mg code u with
    | none =>
      cases hM : M u with
      | none => rfl
      | some v =>
        rcases (r3 u v).1 hM with ⟨j, _, _, _, _, h⟩ | h
        · rw [hm] at h; cases h
        · cases h
    | some v =>
      obtain ⟨i, i1, i2, i3⟩ := Mg_some t hm
      exact (r3 u v).2 (Or.inl ⟨i, i1, t.root i i1, i3, i2, hm⟩)
end
end Go.Proofs.Ytdmbnlpcfgphpaa.Q

namespace Go.Proofs.Ytdmbnlpcfgphpaa.Q
open Go.RowKit Go.Proofs.YtdmbnlpcfgphpaaW.PrintWords Go.Proofs.YtdmbnlpcfgphpaaW.PrintLast Go.Proofs.YtdmbnlpcfgphpaaW.PrintMore
set_option linter.unusedVariables false
set_option linter.unusedSimpArgs false
def wy (code : List S40) (i : Nat) (K : KM) (s : List Bool × KM) : List Bool × KM := wlk code (code.length - i) i K s
def visF (code : List S40) : Nat → Nat → List Nat
  | 0, _ => []
  | f + 1, i => i :: (if (ins code i).f0 = 18 then [] else (if (ins code i).f7 ≠ 0 then visF code f (ins code i).f7.toNat else []) ++ visF code f (i + 1))
def cn (code : List S40) (i : Nat) : Nat := (visF code (code.length - i) i).length
section
variable {code : List S40}
theorem Tr.to_ne (t : Tr code) {i : Nat} (hi : i < code.length) (h : (ins code i).f7 ≠ 0) : usT (ins code i).f0 = true ∧ (i : Int) + 1 < (ins code i).f7 ∧ (ins code i).f7 < code.length := by
  cases hT : usT (ins code i).f0 with
  | false => exact absurd (t.noto i hi hT) h
  | true => exact ⟨rfl, t.tgt i hi hT⟩
theorem wlk_fuel (t : Tr code) : ∀ (f g i : Nat) (K : KM) (s : List Bool × KM), i < code.length → code.length - i ≤ f → code.length - i ≤ g → wlk code f i K s = wlk code g i K s
  | 0, _, i, _, _, hi, hf, _ => absurd hf (by omega)
  | _, 0, i, _, _, hi, _, hg => absurd hg (by omega)
  | f + 1, g + 1, i, K, s, hi, hf, hg => by
    unfold wlk
    by_cases h18 : (ins code i).f0 = 18
    · rw [if_pos h18, if_pos h18]
    · rw [if_neg h18, if_neg h18]
      have hi1 := t.nx i hi h18
      by_cases h7 : (ins code i).f7 ≠ 0
      · have h := t.to_ne hi h7
        rw [if_pos h7, if_pos h7, wlk_fuel t f g (ins code i).f7.toNat _ _ (by omega) (by omega) (by omega), wlk_fuel t f g (i + 1) _ _ hi1 (by omega) (by omega)]
      · rw [if_neg h7, if_neg h7, wlk_fuel t f g (i + 1) _ _ hi1 (by omega) (by omega)]
theorem wy_stop {i : Nat} (hi : i < code.length) (h : (ins code i).f0 = 18) (K : KM) (s : List Bool × KM) : wy code i K s = s := by
  unfold wy
  obtain ⟨f, hf⟩ : ∃ f, code.length - i = f + 1 := ⟨code.length - i - 1, by omega⟩
  rw [hf]
  unfold wlk
  rw [if_pos h]
theorem wy_step (t : Tr code) {i : Nat} (hi : i < code.length) (h : (ins code i).f0 ≠ 18) (K : KM) (s : List Bool × KM) : wy code i K s =
    wy code (i + 1) (kstep (ins code i) s.2 K) (if (ins code i).f7 ≠ 0 then wy code (ins code i).f7.toNat (kstep (ins code i) s.2 K) (sstep (ins code i) i K s.1, mstep (ins code i) K s.2) else (sstep (ins code i) i K s.1, mstep (ins code i) K s.2)) := by
  have hi1 := t.nx i hi h
  unfold wy
  obtain ⟨f, hf⟩ : ∃ f, code.length - i = f + 1 := ⟨code.length - i - 1, by omega⟩
  rw [hf]
  conv => lhs; unfold wlk
  rw [if_neg h, show code.length - (i + 1) = f by omega]
  by_cases h7 : (ins code i).f7 ≠ 0
  · have h := t.to_ne hi h7
    rw [if_pos h7, if_pos h7, wlk_fuel t f (code.length - (ins code i).f7.toNat) (ins code i).f7.toNat _ _ (by omega) (by omega) (by omega)]
  · rw [if_neg h7, if_neg h7]
theorem visF_fuel (t : Tr code) : ∀ (f g i : Nat), i < code.length → code.length - i ≤ f → code.length - i ≤ g → visF code f i = visF code g i
  | 0, _, i, hi, hf, _ => absurd hf (by omega)
  | _, 0, i, hi, _, hg => absurd hg (by omega)
  | f + 1, g + 1, i, hi, hf, hg => by
    unfold visF
    by_cases h18 : (ins code i).f0 = 18
    · rw [if_pos h18, if_pos h18]
    · rw [if_neg h18, if_neg h18]
      have hi1 := t.nx i hi h18
      by_cases h7 : (ins code i).f7 ≠ 0
      · have h := t.to_ne hi h7
        rw [if_pos h7, if_pos h7, visF_fuel t f g (ins code i).f7.toNat (by omega) (by omega) (by omega), visF_fuel t f g (i + 1) hi1 (by omega) (by omega)]
      · rw [if_neg h7, if_neg h7, visF_fuel t f g (i + 1) hi1 (by omega) (by omega)]
theorem cn_stop {i : Nat} (hi : i < code.length) : 1 ≤ cn code i := by
  unfold cn
  obtain ⟨f, hf⟩ : ∃ f, code.length - i = f + 1 := ⟨code.length - i - 1, by omega⟩
  rw [hf]
  unfold visF
  simp
theorem cn_step (t : Tr code) {i : Nat} (hi : i < code.length) (h : (ins code i).f0 ≠ 18) : cn code i = 1 + (if (ins code i).f7 ≠ 0 then cn code (ins code i).f7.toNat else 0) + cn code (i + 1) := by
  have hi1 := t.nx i hi h
  unfold cn
  obtain ⟨f, hf⟩ : ∃ f, code.length - i = f + 1 := ⟨code.length - i - 1, by omega⟩
  rw [hf]
  conv => lhs; unfold visF
  rw [if_neg h, show code.length - (i + 1) = f by omega]
  by_cases h7 : (ins code i).f7 ≠ 0
  · have h := t.to_ne hi h7
    rw [if_pos h7, if_pos h7, visF_fuel t f (code.length - (ins code i).f7.toNat) (ins code i).f7.toNat (by omega) (by omega) (by omega)]
    simp only [List.length_cons, List.length_append]
    omega
  · rw [if_neg h7, if_neg h7]
    simp only [List.length_cons, List.length_append, List.length_nil]
    omega
theorem Sub.chain {a b j : Nat} (h : Sub code a j) (k : Sub code b j) : Sub code a b ∨ Sub code b a := by
  induction h with
  | self => exact Or.inr k
  | step j h0 hj h1 ih =>
    cases k with
    | self => exact Or.inl (.step _ h0 hj h1)
    | step _ _ _ k => exact ih k
theorem vis_sub (t : Tr code) : ∀ (f i : Nat), i < code.length → code.length - i ≤ f → (∀ j, j ∈ visF code f i → Sub code i j ∧ j < code.length) ∧ (visF code f i).Nodup
  | 0, i, hi, hf => absurd hf (by omega)
  | f + 1, i, hi, hf => by
    unfold visF
    by_cases h18 : (ins code i).f0 = 18
    · rw [if_pos h18]
      exact ⟨fun j hj => by simp at hj; subst hj; exact ⟨.self, hi⟩, by simp⟩
    · rw [if_neg h18]
      have hi1 := t.nx i hi h18
      obtain ⟨r1, r2⟩ := vis_sub t f (i + 1) hi1 (by omega)
      have e1 : Sub code i (i + 1) := .step _ (by omega) hi1 (by rw [t.par_next hi h18]; exact .self)
      by_cases h7 : (ins code i).f7 ≠ 0
      · obtain ⟨hT, h71, h72⟩ := t.to_ne hi h7
        rw [if_pos h7]
        obtain ⟨q1, q2⟩ := vis_sub t f (ins code i).f7.toNat (by omega) (by omega)
        have e2 : Sub code i (ins code i).f7.toNat := .step _ (by omega) (by omega) (by rw [t.par_to hi hT]; exact .self)
        refine ⟨fun j hj => ?_, ?_⟩
        · simp only [List.mem_cons, List.mem_append] at hj
          rcases hj with rfl | hj | hj
          · exact ⟨.self, hi⟩
          · exact ⟨Sub.trans e2 (q1 j hj).1, (q1 j hj).2⟩
          · exact ⟨Sub.trans e1 (r1 j hj).1, (r1 j hj).2⟩
        · refine List.nodup_cons.2 ⟨fun hm => ?_, List.nodup_append.2 ⟨q2, r2, fun a ha b hb hab => ?_⟩⟩
          · rcases List.mem_append.1 hm with hm | hm
            · have := Sub.le t (q1 i hm).1; omega
            · have := Sub.le t (r1 i hm).1; omega
          · subst hab
            rcases Sub.chain (q1 a ha).1 (r1 a hb).1 with h | h
            · have := Sub.le t h; omega
            · have h2 := sub_up h (by omega)
              rw [t.par_to hi hT] at h2
              have := Sub.le t h2; omega
      · rw [if_neg h7, List.nil_append]
        refine ⟨fun j hj => ?_, ?_⟩
        · simp only [List.mem_cons] at hj
          rcases hj with rfl | hj
          · exact ⟨.self, hi⟩
          · exact ⟨Sub.trans e1 (r1 j hj).1, (r1 j hj).2⟩
        · refine List.nodup_cons.2 ⟨fun hm => ?_, r2⟩
          have := Sub.le t (r1 i hm).1; omega
theorem nodup_bound : ∀ (n : Nat) (l : List Nat), l.Nodup → (∀ j, j ∈ l → j < n) → l.length ≤ n
  | 0, [], _, _ => Nat.le_refl _
  | 0, j :: _, _, h => absurd (h j (by simp)) (by omega)
  | n + 1, l, hd, h => by
    by_cases hm : n ∈ l
    · have h1 := nodup_bound n (l.erase n) (hd.erase n) (fun j hj => by
        have h2 := (List.Nodup.mem_erase_iff hd).1 hj
        have := h j h2.2
        omega)
      rw [List.length_erase_of_mem hm] at h1
      omega
    · have := nodup_bound n l hd (fun j hj => by
        have := h j hj
        have : j ≠ n := fun he => hm (he ▸ hj)
        omega)
      omega
theorem cn_root (t : Tr code) : cn code 0 ≤ code.length := by
  have := t.n1
  obtain ⟨h1, h2⟩ := vis_sub t (code.length - 0) 0 (by omega) (by omega)
  exact nodup_bound _ _ h2 (fun j hj => (h1 j hj).2)
end
end Go.Proofs.Ytdmbnlpcfgphpaa.Q
