/- Several of my texts in one: YtdmbnlpcfgphpaaPbef, YtdmbnlpcfgphpaaPrp, YtdmbnlpcfgphpaaRref. -/
import Derived.Test.YtdmbnlpcfgphpaaPst
import Derived.Test.YtdmbnlpcfgphpaaPln
import Derived.Test.YtdmbnlpcfgphpaaAin
namespace Go.Proofs.Ytdmbnlpcfgphpaa.Q
open Go.RowKit Go.Proofs.YtdmbnlpcfgphpaaW.PrintWords Go.Proofs.YtdmbnlpcfgphpaaW.PrintLast Go.Proofs.YtdmbnlpcfgphpaaW.PrintMore
set_option linter.unusedVariables false
set_option linter.unusedSimpArgs false
theorem ins_rd (code : List S40) (i : Nat) : rd_T40 code (i : Int) = ins code i := rfl
theorem has_Ev (o c : Int) (h : hck c = true) : Ev (fun k => selvageref10_Has.f k o c) (hsv o c) := Ev.of (selvageref10_Has.mono o c) (has_ev o c h)
theorem Ev.bind1 {α β : Type} {g : Nat → Option α} {f : Nat → α → Option β} {a : α} {r : β} (h : Ev g a) (k : Ev (fun n => f n a) r) : Ev (fun n => (g n).bind (f n)) r := Ev.bind h k
/-- Does one come from piece k to piece i? -/
def isB (code : List S40) (i k : Nat) : Bool := (k + 1 == i && (ins code k).f0 != 18) || (usT (ins code k).f0 && (ins code k).f7 == (i : Int))
def bl (code : List S40) (i k r : Nat) : List Int := ((List.range' k r).filter (isB code i)).map fun j : Nat => (j : Int)
theorem bl_succ (code : List S40) (i k r : Nat) : bl code i k (r + 1) = (if isB code i k = true then [(k : Int)] else []) ++ bl code i (k + 1) r := by
  unfold bl
  rw [List.range'_succ, List.filter_cons]
  split <;> simp
theorem before_l0 (code : List S40) (i : Nat) (hi : i ≤ code.length) (hn : code.length ≤ 100000) : ∀ (r k : Nat) (out : List Int), k + r = i → out.length ≤ k → Ev (fun m => selvageref10_Before.l0 m code (i : Int) out (k : Int)) (out ++ bl code i k r)
  | 0, k, out, h, _ => by
    refine Ev.step (f := fun m => selvageref10_Before.j1 m code (i : Int) out (k : Int) false) (fun m => ?_) ?_
    · simp only [selvageref10_Before.l0]
      rw [show decide ((k : Int) < (i : Int)) = false from decide_eq_false (by omega)]
      split <;> rfl
    · refine Ev.step (f := fun _ => some (out ++ bl code i k 0)) (fun m => ?_) (Ev.now _)
      simp [selvageref10_Before.j1, bl]
  | r + 1, k, out, h, ho => by
    have ew : wrap64 ((i : Int) - 1) = ((i - 1 : Nat) : Int) := by rw [wrap_of (by omega) (by omega)]; omega
    have ek : wrap64 ((k : Int) + 1) = ((k + 1 : Nat) : Int) := by rw [wrap_of (by omega) (by omega)]; omega
    refine Ev.step (f := fun m => selvageref10_Before.j1 m code (i : Int) out (k : Int) true) (fun m => ?_) ?_
    · simp only [selvageref10_Before.l0]
      rw [if_pos (by omega), show decide ((k : Int) < (i : Int)) = true from decide_eq_true (by omega)]
    have yes : isB code i k = true → Ev (fun m => selvageref10_Before.l0 m code (i : Int) (out ++ [(k : Int)]) ((k + 1 : Nat) : Int)) (out ++ bl code i k (r + 1)) := fun hb => by
      rw [bl_succ, if_pos hb, ← List.append_assoc]
      exact before_l0 code i hi hn r (k + 1) _ (by omega) (by simp; omega)
    have no : isB code i k = false → Ev (fun m => selvageref10_Before.l0 m code (i : Int) out ((k + 1 : Nat) : Int)) (out ++ bl code i k (r + 1)) := fun hb => by
      rw [bl_succ, hb, if_neg (by decide), List.nil_append]
      exact before_l0 code i hi hn r (k + 1) _ (by omega) (by omega)
    have tpart : ((k + 1 == i && (ins code k).f0 != 18) = false) → Ev (fun m => (selvageref10_Has.f m (ins code k).f0 116).bind fun t146 => (if t146 = true then (if (ins code k).f7 = (i : Int) then (if out.length < 17592186044416 then (selvageref10_Before.l0 m code (i : Int) (out ++ [(k : Int)]) ((k + 1 : Nat) : Int)) else (none)) else (selvageref10_Before.l0 m code (i : Int) out ((k + 1 : Nat) : Int))) else (selvageref10_Before.l0 m code (i : Int) out ((k + 1 : Nat) : Int)))) (out ++ bl code i k (r + 1)) := fun hf => by
      refine Ev.bind (has_Ev _ 116 rfl) ?_
      rw [hsv_t]
      cases hT : usT (ins code k).f0
      · simp only [Bool.false_eq_true, if_false]
        exact no (by unfold isB; rw [hf, hT]; rfl)
      · simp only [if_true]
        by_cases h7 : (ins code k).f7 = (i : Int)
        · simp only [if_pos h7, if_pos (show out.length < 17592186044416 by omega)]
          exact yes (by unfold isB; rw [hf, hT]; simp [h7])
        · simp only [if_neg h7]
          exact no (by unfold isB; rw [hf, hT]; simp [h7])
    by_cases hp : k + 1 = i
    · by_cases h18 : (ins code k).f0 = 18
      · refine Ev.step (fun m => ?_) (tpart (by simp [h18]))
        simp only [selvageref10_Before.j1, ins_rd, ek, ew]
        rw [if_pos trivial, if_pos (by omega), if_pos (by omega), if_pos (by omega), if_pos h18]
      · refine Ev.step (fun m => ?_) (yes (by unfold isB; simp [hp, h18]))
        simp only [selvageref10_Before.j1, ins_rd, ek, ew]
        rw [if_pos trivial, if_pos (by omega), if_pos (by omega), if_pos (by omega), if_neg h18, if_pos (by omega)]
    · refine Ev.step (fun m => ?_) (tpart (by simp [hp]))
      simp only [selvageref10_Before.j1, ins_rd, ek, ew]
      rw [if_pos trivial, if_neg (by omega), if_pos (by omega), if_pos (by omega)]
theorem before_Ev (code : List S40) (i : Nat) (hi : i ≤ code.length) (hn : code.length ≤ 100000) : Ev (fun m => selvageref10_Before.f m code (i : Int)) (bl code i 0 i) := by
  have := before_l0 code i hi hn i 0 [] (by omega) (by simp)
  exact this
/-- Of pieces whose second ways go far, the number of ways is the number of pieces one comes from; the last of them is where one comes from. -/
theorem ways_bl {code : List S40} {n : Nat} (hT : ∀ k, k < n → usT (ins code k).f0 = true → (k : Int) + 1 < (ins code k).f7) (i : Nat) (h1 : 1 ≤ i) (hi : i ≤ n) : Wy code n (i : Int) = ((bl code i 0 i).length : Int) ∧ ((bl code i 0 i) ≠ [] → (bl code i 0 i).getLast? = some (Fm code n (i : Int))) := by
  have far : ∀ m, i ≤ m → m ≤ n → Wy code m (i : Int) = Wy code i (i : Int) ∧ Fm code m (i : Int) = Fm code i (i : Int) := by
    intro m hm
    induction m with
    | zero => intro _; rw [show i = 0 by omega]; exact ⟨rfl, rfl⟩
    | succ m ih =>
      intro hmn
      rcases Nat.lt_or_ge m i with h | h
      · rw [show m + 1 = i by omega]; exact ⟨rfl, rfl⟩
      · obtain ⟨e1, e2⟩ := ih h (by omega)
        have hne : ((i : Int) == (m : Int) + 1) = false := beq_eq_false_iff_ne.2 (by omega)
        have hne2 : (usT (ins code m).f0 && (ins code m).f7 == (i : Int)) = false := by
          cases hu : usT (ins code m).f0
          · rfl
          · have := hT m (by omega) hu
            rw [beq_eq_false_iff_ne.2 (by omega)]; rfl
        simp only [Wy, Fm, hne, hne2, Bool.and_false, Bool.false_eq_true, if_false]
        exact ⟨by rw [e1]; simp, e2⟩
  have near : ∀ m, m ≤ i → Wy code m (i : Int) = ((bl code i 0 m).length : Int) ∧ ((bl code i 0 m) ≠ [] → (bl code i 0 m).getLast? = some (Fm code m (i : Int))) := by
    intro m
    induction m with
    | zero => intro _; exact ⟨rfl, fun h => absurd rfl h⟩
    | succ m ih =>
      intro hm
      obtain ⟨e1, e2⟩ := ih (by omega)
      have es : bl code i 0 (m + 1) = bl code i 0 m ++ (if isB code i m = true then [(m : Int)] else []) := by
        unfold bl
        rw [List.range'_1_concat, List.filter_append, List.map_append, Nat.zero_add, List.filter_cons]
        split <;> simp
      have ec : ((i : Int) == (m : Int) + 1) = (m + 1 == i) := by
        rw [Bool.eq_iff_iff]; simp; omega
      rw [es]
      simp only [Wy, Fm, ec]
      cases hA : ((ins code m).f0 != 18 && (m + 1 == i))
      · have hA' : (m + 1 == i && (ins code m).f0 != 18) = false := by rw [Bool.and_comm]; exact hA
        cases hB : (usT (ins code m).f0 && (ins code m).f7 == (i : Int))
        · rw [show isB code i m = false by unfold isB; rw [hA', hB]; rfl]
          simp only [Bool.false_eq_true, if_false, List.append_nil]
          exact ⟨by rw [e1]; simp, e2⟩
        · rw [show isB code i m = true by unfold isB; rw [hA', hB]; rfl]
          simp only [Bool.false_eq_true, if_true, if_false, List.length_append, List.length_cons, List.length_nil]
          exact ⟨by rw [e1]; simp, fun _ => by simp⟩
      · have hA' : (m + 1 == i && (ins code m).f0 != 18) = true := by rw [Bool.and_comm]; exact hA
        have hB : (usT (ins code m).f0 && (ins code m).f7 == (i : Int)) = false := by
          cases hu : usT (ins code m).f0
          · rfl
          · have := hT m (by omega) hu
            simp at hA
            rw [beq_eq_false_iff_ne.2 (by omega)]; rfl
        rw [hB, show isB code i m = true by unfold isB; rw [hA', hB]; rfl]
        simp only [ Bool.false_eq_true, if_true, if_false, List.length_append, List.length_cons, List.length_nil]
        exact ⟨by rw [e1]; simp, fun _ => by simp⟩
  obtain ⟨f1, f2⟩ := far n hi (Nat.le_refl _)
  obtain ⟨n1, n2⟩ := near i (Nat.le_refl _)
  rw [f1, f2]
  exact ⟨n1, n2⟩
end Go.Proofs.Ytdmbnlpcfgphpaa.Q
namespace Go.Proofs.Ytdmbnlpcfgphpaa.Q
open Go.RowKit Go.Proofs.YtdmbnlpcfgphpaaW.PrintWords Go.Proofs.YtdmbnlpcfgphpaaW.PrintLast Go.Proofs.YtdmbnlpcfgphpaaW.PrintMore
set_option linter.unusedVariables false
set_option linter.unusedSimpArgs false
theorem pln_chk (code : List S40) (l : List S80) (n i : Nat) : chk code l n i = (pln (ins code i) (i : Int) (n : Int) l && !(usD (ins code i).f0 && (Md code i (ins code i).f1).isSome)) := by
  unfold chk pln toOk
  cases okO (ins code i).f0 <;> cases tmp (usD (ins code i).f0) (ins code i).f1 <;> cases tmp (usA (ins code i).f0) (ins code i).f2 <;> cases tmp (usB (ins code i).f0) (ins code i).f3 <;> cases (usK (ins code i).f0 || (ins code i).f6 == 0) <;> cases plc (ins code i) l <;> simp
theorem md_any (code : List S40) (t : Int) : ∀ i, (Md code i t).isSome = (List.range i).any fun j => usD (ins code j).f0 && t == (ins code j).f1
  | 0 => rfl
  | i + 1 => by
    rw [List.range_succ, List.any_append, ← md_any code t i]
    simp only [Md, List.any_cons, List.any_nil, Bool.or_false]
    split
    · rename_i h; rw [h]; simp
    · rename_i h
      rw [Bool.eq_false_iff.2 h, Bool.or_false]
theorem md_spec (code : List S40) (t : Int) : ∀ i v, Md code i t = some v → ∃ j : Nat, v = (j : Int) ∧ j < i ∧ usD (ins code j).f0 = true ∧ (ins code j).f1 = t
  | 0, v, h => by simp [Md] at h
  | i + 1, v, h => by
    simp only [Md] at h
    split at h
    · rename_i hc
      cases h
      simp at hc
      exact ⟨i, rfl, by omega, hc.1, hc.2.symm⟩
    · obtain ⟨j, h1, h2, h3⟩ := md_spec code t i v h
      exact ⟨j, h1, by omega, h3⟩
theorem md_of {code : List S40} {t : Int} {i j : Nat} (hj : j < i) (h1 : usD (ins code j).f0 = true) (h2 : (ins code j).f1 = t) : (Md code i t).isSome = true := by
  rw [md_any, List.any_eq_true]
  exact ⟨j, List.mem_range.2 hj, by simp [h1, h2]⟩
theorem chk_uniq {code : List S40} {l : List S80} {n : Nat} (hc : ∀ i, i < n → chk code l n i = true) {i j : Nat} (hi : i < n) (hj : j < n) (h1 : usD (ins code i).f0 = true) (h2 : usD (ins code j).f0 = true) (h3 : (ins code i).f1 = (ins code j).f1) : i = j := by
  rcases Nat.lt_trichotomy i j with h | h | h
  · have h4 := hc j hj
    rw [pln_chk, md_of h h1 h3, h2] at h4
    simp at h4
  · exact h
  · have h4 := hc i hi
    rw [pln_chk, md_of h h2 h3.symm, h1] at h4
    simp at h4
/-- Is a temp made on the way to piece j? -/
def chn (code : List S40) (n : Nat) (t : Int) : Nat → Nat → Bool
  | 0, _ => false
  | f + 1, j => if j = 0 then false else (usD (ins code (Fm code n (j : Int)).toNat).f0 && (ins code (Fm code n (j : Int)).toNat).f1 == t) || chn code n t f (Fm code n (j : Int)).toNat
section
variable {code : List S40} {l : List S80} {n : Nat}
theorem chn_none (hT : ∀ k, k < n → usT (ins code k).f0 = true → (k : Int) + 1 < (ins code k).f7) (t : Int) : ∀ f j, j ≤ n → (∀ p, p < j → usD (ins code p).f0 = true → (ins code p).f1 ≠ t) → chn code n t f j = false
  | 0, _, _, _ => rfl
  | f + 1, j, hj, h => by
    unfold chn
    split
    · rfl
    · have h0 := fm_lt code n (j : Int) hT (by omega)
      rw [chn_none hT t f _ (by omega) (fun p hp => h p (by omega)), Bool.or_false]
      cases hu : usD (ins code (Fm code n (j : Int)).toNat).f0
      · rfl
      · rw [beq_eq_false_iff_ne.2 (h _ (by omega) hu)]; rfl
theorem climb_chn (hT : ∀ k, k < n → usT (ins code k).f0 = true → (k : Int) + 1 < (ins code k).f7) (t : Int) (at_ : Nat) (ha : usD (ins code at_).f0 = true) (ha2 : (ins code at_).f1 = t) (hu : ∀ p, p < n → usD (ins code p).f0 = true → (ins code p).f1 = t → p = at_) : ∀ f j, j < n → j < f → climb (fl code n n) (at_ : Int) f (j : Int) = chn code n t f j
  | 0, j, _, hf => absurd hf (by omega)
  | f + 1, j, hj, hf => by
    by_cases h : at_ < j
    · have h0 := fm_lt code n (j : Int) hT (by omega)
      obtain ⟨p, hp⟩ : ∃ p : Nat, Fm code n (j : Int) = (p : Int) := ⟨(Fm code n (j : Int)).toNat, by omega⟩
      unfold climb chn
      rw [if_pos (show (at_ : Int) < (j : Int) by omega), if_neg (show ¬ j = 0 by omega), rd_fl code n n (j : Int) (by omega) (by omega), hp, Int.toNat_natCast]
      by_cases he : p = at_
      · rw [if_pos (show (p : Int) = (at_ : Int) by omega), he, ha, ha2]; simp
      · rw [if_neg (show ¬ (p : Int) = (at_ : Int) by omega), climb_chn hT t at_ ha ha2 hu f p (by omega) (by omega)]
        have : (usD (ins code p).f0 && (ins code p).f1 == t) = false := by
          cases hd : usD (ins code p).f0
          · rfl
          · rw [beq_eq_false_iff_ne.2 (fun h3 => he (hu p (by omega) hd h3))]; rfl
        rw [this, Bool.false_or]
    · unfold climb
      rw [if_neg (show ¬ (at_ : Int) < (j : Int) by omega), chn_none hT t (f + 1) j (by omega) (fun p hp hd h3 => by have := hu p (by omega) hd h3; omega)]
theorem above_chn (hc : ∀ i, i < n → chk code l n i = true) (t : Int) (i : Nat) (hi : i < n) : aboveOf (Md code n) (fl code n n) t i = chn code n t (i + 1) i := by
  have hT : ∀ k, k < n → usT (ins code k).f0 = true → (k : Int) + 1 < (ins code k).f7 := fun k hk h => (chk_to (hc k hk) h).1
  unfold aboveOf
  cases hm : Md code n t with
  | none =>
    refine (chn_none hT t (i + 1) i (by omega) (fun p hp hd h3 => ?_)).symm
    have := md_of (code := code) (i := n) (show p < n by omega) hd h3
    rw [hm] at this
    cases this
  | some v =>
    obtain ⟨a, rfl, h1, h2, h3⟩ := md_spec code t n v hm
    exact climb_chn hT t a h2 h3 (fun p hp hd h4 => chk_uniq hc hp h1 hd h2 (h4.trans h3.symm)) (i + 1) i hi (by omega)
theorem dup_md (i : Nat) : ((List.range' 0 i).any fun j => usD (ins code i).f0 && (usD (ins code j).f0 && (ins code i).f1 == (ins code j).f1)) = (usD (ins code i).f0 && (Md code i (ins code i).f1).isSome) := by
  rw [md_any, ← List.range_eq_range']
  cases usD (ins code i).f0
  · simp
  · simp
theorem chk2_way {i : Nat} (h : chk2 code n i = true) (h0 : 0 < i) : Wy code n (i : Int) = 1 := by
  unfold chk2 at h
  simp at h
  omega
end
end Go.Proofs.Ytdmbnlpcfgphpaa.Q
namespace Go.Proofs.Ytdmbnlpcfgphpaa.Q
open Go.RowKit Go.Proofs.YtdmbnlpcfgphpaaW.PrintWords Go.Proofs.YtdmbnlpcfgphpaaW.PrintLast Go.Proofs.YtdmbnlpcfgphpaaW.PrintMore
set_option linter.unusedVariables false
set_option linter.unusedSimpArgs false
theorem chk2_chn {code : List S40} {l : List S80} {i : Nat} (hc : ∀ j, j < code.length → chk code l code.length j = true) (hi : i < code.length) (hz : i = 0 ∨ Wy code code.length (i : Int) = 1) : chk2 code code.length i = ((!hsv (ins code i).f0 97 || chn code code.length (ins code i).f2 (i + 1) i) && (!hsv (ins code i).f0 98 || chn code code.length (ins code i).f3 (i + 1) i)) := by
  unfold chk2
  have e : (i == 0 || Wy code code.length (i : Int) == 1) = true := by rcases hz with h | h <;> simp [h]
  rw [e, Bool.true_and, above_chn hc _ i hi, above_chn hc _ i hi, hsv_a, hsv_b]
theorem ways_all {code : List S40} {i : Nat} (hk : ∀ j, j < i → chk2 code code.length j = true) (hz : i = 0 ∨ Wy code code.length (i : Int) = 1) : ∀ j, 0 < j → j ≤ i → Wy code code.length (j : Int) = 1 := fun j h0 h1 => by
  rcases Nat.lt_or_ge j i with h | h
  · exact chk2_way (hk j h) h0
  · obtain rfl : j = i := by omega
    rcases hz with h2 | h2
    · omega
    · exact h2
theorem one_back {code : List S40} {l : List S80} {k : Nat} (hc : ∀ j, j < code.length → chk code l code.length j = true) (h0 : 0 < k) (hk : k ≤ code.length) (hw : Wy code code.length (k : Int) = 1) : ∃ p : Nat, p < k ∧ bl code k 0 k = [(p : Int)] ∧ ∀ t f, chn code code.length t (f + 1) k = ((usD (ins code p).f0 && (ins code p).f1 == t) || chn code code.length t f p) := by
  have hT : ∀ k, k < code.length → usT (ins code k).f0 = true → (k : Int) + 1 < (ins code k).f7 := fun k hk h => (chk_to (hc k hk) h).1
  obtain ⟨w1, w2⟩ := ways_bl hT k (by omega) hk
  rw [hw] at w1
  obtain ⟨v, hv⟩ := List.length_eq_one_iff.1 (show (bl code k 0 k).length = 1 by omega)
  have hfm := fm_lt code code.length (k : Int) hT (by omega)
  have hv2 : v = Fm code code.length (k : Int) := by
    have := w2 (by rw [hv]; simp)
    rw [hv] at this
    simpa using this
  obtain ⟨p, hp⟩ : ∃ p : Nat, Fm code code.length (k : Int) = (p : Int) := ⟨(Fm code code.length (k : Int)).toNat, by omega⟩
  refine ⟨p, by omega, by rw [hv, hv2, hp], fun t f => ?_⟩
  conv => lhs; unfold chn
  rw [if_neg (show ¬ k = 0 by omega), hp, Int.toNat_natCast]
theorem one_way {code : List S40} {l : List S80} {i : Nat} (hc : ∀ j, j < code.length → chk code l code.length j = true) (h0 : 0 < i) (hk : i ≤ code.length) (hw : (bl code i 0 i).length = 1) : Wy code code.length (i : Int) = 1 ∧ ∃ p : Nat, bl code i 0 i = [(p : Int)] := by
  have hT : ∀ k, k < code.length → usT (ins code k).f0 = true → (k : Int) + 1 < (ins code k).f7 := fun k hk h => (chk_to (hc k hk) h).1
  obtain ⟨w1, w2⟩ := ways_bl hT i (by omega) hk
  have h1 : Wy code code.length (i : Int) = 1 := by rw [w1, hw]; rfl
  obtain ⟨p, -, h2, -⟩ := one_back hc h0 hk h1
  exact ⟨h1, p, h2⟩
theorem not_way {code : List S40} {l : List S80} {i : Nat} (hc : ∀ j, j < code.length → chk code l code.length j = true) (h0 : 0 < i) (hk : i ≤ code.length) (hw : ¬ (bl code i 0 i).length = 1) : chk2 code code.length i = false := by
  have hT : ∀ k, k < code.length → usT (ins code k).f0 = true → (k : Int) + 1 < (ins code k).f7 := fun k hk h => (chk_to (hc k hk) h).1
  cases h : chk2 code code.length i
  · rfl
  · have h1 := chk2_way h h0
    rw [(ways_bl hT i (by omega) hk).1] at h1
    omega
theorem has_at {o c : Int} {b : Bool} (w : World) (h : hck c = true) (e : hsv o c = b) : Calls Try.prog 20 #[.int .i64 o, .int .u8 c] w fun e w' => e = .returned (.bool b) ∧ ∃ n, w' = w.drewN n := by
  subst e
  exact has_any o c w h
theorem before_any (A : Option Addr) (c : Nat) (code : List S40) (i : Nat) (w : World) (hr : Kd.C k40 w A code.length code) (hc : code.length ≤ c) (hi : i ≤ code.length) (hn : code.length ≤ 400) :
    Calls Try.prog 38 #[.slice A code.length c, .int .i64 (i : Int)] w fun e w' => ∃ (Ab : Option Addr) (cb : Nat), e = .returned (.slice Ab (bl code i 0 i).length cb) ∧ (Kd.int .i64).C w' Ab (bl code i 0 i).length (bl code i 0 i) ∧ Below w.heap.size w w' := by
  obtain ⟨k, hk⟩ := (before_Ev code i hi (by omega)).rounds
  refine (selvageref10_Before.calls k A c code (i : Int) _ w hr hc hk).mono ?_
  rintro e w' ⟨v, rfl, hR, hB⟩
  obtain ⟨Ab, cb, rfl⟩ := Kd.R_slice hR
  exact ⟨Ab, cb, rfl, (Kd.R_reads' hR).2.2, hB⟩
theorem before_one (A : Option Addr) (c : Nat) (code : List S40) (i p : Nat) (w : World) (hr : Kd.C k40 w A code.length code) (hc : code.length ≤ c) (hi : i ≤ code.length) (hn : code.length ≤ 400) (hp : bl code i 0 i = [(p : Int)]) :
    Calls Try.prog 38 #[.slice A code.length c, .int .i64 (i : Int)] w fun e w' => ∃ (ad : Addr) (cb : Nat), e = .returned (.slice (some ad) 1 cb) ∧ w'.cell? ad = some (.int .i64 (p : Int)) ∧ Below w.heap.size w w' := by
  refine (before_any A c code i w hr hc hi hn).mono ?_
  rintro e w' ⟨Ab, cb, rfl, hC, hB⟩
  rw [hp] at hC ⊢
  obtain ⟨ad, ea, hx⟩ := Kd.at_int hC 0 (Int.le_refl _) (by simp)
  cases ea
  have e0 : ad.add 0 = ad := by simp [Addr.add]
  have hx2 : w'.cell? (ad.add 0) = some (.int .i64 (p : Int)) := hx
  rw [e0] at hx2
  exact ⟨ad, cb, rfl, hx2, hB⟩
set_option maxHeartbeats 0 in
set_option maxRecDepth 100000 in
theorem rref_any (A : Option Addr) (c : Nat) (code : List S40) (Al : Option Addr) (cl : Nat) (l : List S80) (w : World) (hr : Kd.C k40 w A code.length code) (hc : code.length ≤ c) (hrl : Kd.C k80 w Al l.length l) (hcl : l.length ≤ cl) (hl : l.length ≤ 16) :
    Calls Try.prog 14 #[.slice A code.length c, .slice Al l.length cl] w fun e w' => e = .returned (.bool (right code l)) ∧ Below w.heap.size w w' := by
  have HC := Aside0.mk hr
  have HL := Aside0.mk hrl
  have HCc := Aside0.mk hc
  have HCl := Aside0.mk hcl
  have HLl := Aside0.mk hl
  clear hr hrl hc hcl hl
  have HB := Aside0.mk (Below.refl w.heap.size w)
  by_cases h1 : (code.length : Int) < 1
  · have hR : right code l = false := by unfold right; rw [show decide (1 ≤ code.length) = false from decide_eq_false (by omega)]; rfl
    have c1 : decide ((code.length : Int) < 1) = true := decide_eq_true h1
    rw [hR]
    go_enter Try.func14, Try.ntmps14
    go_wp2
    ((go_ret; exact ⟨by first | exact rfl | (rw [hR]; exact rfl), by repeat (first | exact HB.out | exact HBp.out | exact HBb.out | apply below_alloc | apply pw_below_drewN | apply below_drew1)⟩))
  have c1 : decide ((code.length : Int) < 1) = false := decide_eq_false h1
  by_cases h2 : (400 : Int) < (code.length : Int)
  · have hR : right code l = false := by unfold right; rw [show decide (code.length ≤ 400) = false from decide_eq_false (by omega)]; simp
    have c2 : decide ((400 : Int) < (code.length : Int)) = true := decide_eq_true h2
    rw [hR]
    go_enter Try.func14, Try.ntmps14
    go_wp2
    ((go_ret; exact ⟨by first | exact rfl | (rw [hR]; exact rfl), by repeat (first | exact HB.out | exact HBp.out | exact HBb.out | apply below_alloc | apply pw_below_drewN | apply below_drew1)⟩))
  have c2 : decide ((400 : Int) < (code.length : Int)) = false := decide_eq_false h2
  have w1 : wrap64 ((code.length : Int) - 1) = ((code.length - 1 : Nat) : Int) := by rw [wrap_of (by omega) (by omega)]; omega
  obtain ⟨ad, ea, k0, -⟩ := at_T40 HC.out ((code.length - 1 : Nat) : Int) (by omega) (by omega)
  cases ea
  simp only [Int.toNat_natCast] at k0
  rw [ins_at] at k0
  have q1 : (((code.length - 1 : Nat) : Int) < (code.length : Int)) = True := eq_true (by omega)
  have q0 : (0 ≤ ((code.length - 1 : Nat) : Int)) = True := eq_true (by omega)
  by_cases h3 : ¬ (ins code (code.length - 1)).f0 = 18
  · have hR : right code l = false := by unfold right; rw [show ((ins code (code.length - 1)).f0 == 18) = false from beq_eq_false_iff_ne.2 h3]; simp
    have c3 : ((ins code (code.length - 1)).f0 != 18) = true := by simpa using h3
    rw [hR]
    go_enter Try.func14, Try.ntmps14
    go_wp2
    ((go_ret; exact ⟨by first | exact rfl | (rw [hR]; exact rfl), by repeat (first | exact HB.out | exact HBp.out | exact HBb.out | apply below_alloc | apply pw_below_drewN | apply below_drew1)⟩))
  have c3 : ((ins code (code.length - 1)).f0 != 18) = false := by simpa using h3
  have hln : (code.length : Int).toNat = code.length := Int.toNat_natCast _
  have H18 := Aside0.mk (show (ins code (code.length - 1)).f0 = 18 by simpa using h3)
  clear h3
  go_enter Try.func14, Try.ntmps14
  go_wp2
  clear k0 q1 q0 w1 c3 c1 c2
  go_loopw [5] (fun v w' => ∃ i : Nat, v = .int .i64 (i : Int) ∧ i ≤ code.length ∧ Aside0 (∀ j, j < i → chk code l code.length j = true) ∧ Aside0 (Below w.heap.size w w')) (fun v _ => code.length - (intOf v).toNat)
  case atStart => exact ⟨0, rfl, by omega, ⟨fun j hj => absurd hj (by omega)⟩, HB⟩
  case round =>
    clear HB
    obtain ⟨i, rfl, hi, HK, HB⟩ := hrel
    by_cases hlt : i < code.length
    · have c4 : decide ((i : Int) < (code.length : Int)) = true := decide_eq_true (by omega)
      obtain ⟨ad1, ea, k0, k1, k2, k3, k4, k5, k6, k7⟩ := at_T40 (Kd.C_below HC.out HB.out) (i : Int) (by omega) (by omega)
      cases ea
      simp only [Int.toNat_natCast] at k0 k1 k2 k3 k4 k5 k6 k7
      rw [ins_at] at k0 k1 k2 k3 k4 k5 k6 k7
      have q1 : ((i : Int) < (code.length : Int)) = True := eq_true (by omega)
      have q0 : (0 ≤ (i : Int)) = True := eq_true (by omega)
      have HP := Aside0.mk (pln_chk code l code.length i)
      have HX : Aside0 (∀ A' : Option Addr, True) := ⟨fun _ => trivial⟩
      obtain ⟨X, hX⟩ : ∃ X, X = ins code i := ⟨_, rfl⟩
      rw [← hX] at HP k0 k1 k2 k3 k4 k5 k6 k7
      have HX := Aside0.mk hX
      clear hX
      cases hp : pln X (i : Int) (code.length : Int) l
      · have hR : right code l = false := right_false_chk hlt (by rw [HP.out, hp]; rfl)
        go_wp2_with ((go_at_call 37; refine (plain_any X (i : Int) (code.length : Int) Al cl l _ (Kd.C_below HL.out HB.out) HLl.out (by omega) (by omega) (by omega) (by omega)).mono ?_; rintro e wp ⟨rfl, hb⟩; rw [hp]; have HBp := Aside0.mk (below_step HB.out hb); clear hb))
        ((go_ret; exact ⟨by first | exact rfl | (rw [hR]; exact rfl), by repeat (first | exact HB.out | exact HBp.out | exact HBb.out | apply below_alloc | apply pw_below_drewN | apply below_drew1)⟩))
      · go_wp2_with ((go_at_call 37; refine (plain_any X (i : Int) (code.length : Int) Al cl l _ (Kd.C_below HL.out HB.out) HLl.out (by omega) (by omega) (by omega) (by omega)).mono ?_; rintro e wp ⟨rfl, hb⟩; rw [hp]; have HBp := Aside0.mk (below_step HB.out hb); clear hb))
        clear k0 k1 k2 k3 k4 k5 k6 k7
        have HP2 : Aside0 (chk code l code.length i = !((List.range' 0 i).any fun j => usD X.f0 && (usD (ins code j).f0 && X.f1 == (ins code j).f1))) := ⟨by rw [HP.out, hp, HX.out, dup_md]; rfl⟩
        clear hp HP
        clear HB
        go_loopw [6] (fun v w' => ∃ k : Nat, v = .int .i64 (k : Int) ∧ k ≤ i ∧ Aside0 (∀ j, j < k → (usD X.f0 && (usD (ins code j).f0 && X.f1 == (ins code j).f1)) = false) ∧ Aside0 (Below w.heap.size w w')) (fun v _ => i - (intOf v).toNat)
        case atStart => exact ⟨0, rfl, by omega, ⟨fun j hj => absurd hj (by omega)⟩, HBp⟩
        case round =>
          clear HBp
          obtain ⟨k, rfl, hk, HD, HB⟩ := hrel
          by_cases hlk : k < i
          · have c5 : decide ((k : Int) < (i : Int)) = true := decide_eq_true (by omega)
            obtain ⟨ad1, ea, k0, k1, k2, k3, k4, k5, k6, k7⟩ := at_T40 (Kd.C_below HC.out HB.out) (i : Int) (by omega) (by omega)
            cases ea
            simp only [Int.toNat_natCast] at k0 k1 k2 k3 k4 k5 k6 k7
            rw [ins_at, ← HX.out] at k0 k1 k2 k3 k4 k5 k6 k7
            obtain ⟨ad2, ea, m0, m1, m2, m3, m4, m5, m6, m7⟩ := at_T40 (Kd.C_below HC.out HB.out) (k : Int) (by omega) (by omega)
            cases ea
            simp only [Int.toNat_natCast] at m0 m1 m2 m3 m4 m5 m6 m7
            rw [ins_at] at m0 m1 m2 m3 m4 m5 m6 m7
            have r1 : ((k : Int) < (code.length : Int)) = True := eq_true (by omega)
            have r0 : (0 ≤ (k : Int)) = True := eq_true (by omega)
            have HN : Aside0 ((usD X.f0 && (usD (ins code k).f0 && X.f1 == (ins code k).f1)) = false → ∀ j, j < k + 1 → (usD X.f0 && (usD (ins code j).f0 && X.f1 == (ins code j).f1)) = false) := ⟨fun h j hj => by
              rcases Nat.lt_or_ge j k with h9 | h9
              · exact HD.out j h9
              · rw [show j = k by omega]; exact h⟩
            have HM : Aside0 ((usD X.f0 && (usD (ins code k).f0 && X.f1 == (ins code k).f1)) = true → chk code l code.length i = false) := ⟨fun h => by
              rw [HP2.out, show ((List.range' 0 i).any fun j => usD X.f0 && (usD (ins code j).f0 && X.f1 == (ins code j).f1)) = true from List.any_eq_true.2 ⟨k, by rw [List.mem_range']; exact ⟨k, by omega, by omega⟩, h⟩]; rfl⟩
            generalize ins code k = Y at m0 m1 m2 m3 m4 m5 m6 m7 HN HM
            have u1 := hsv_d X.f0
            have u2 := hsv_d Y.f0
            clear HP2 k2 k3 k4 k5 k6 k7 m2 m3 m4 m5 m6 m7
            cases hd : usD X.f0
            · have HN2 := Aside0.mk (HN.out (by rw [hd]; rfl))
              rw [hd] at HN2
              rw [hd] at u1
              clear m0 m1 k1 u2
              go_wp2
              ((go_quiet ((go_at_call 20; first | (with_reducible exact Calls.quiet_of (has_at _ rfl u1)) | (with_reducible exact Calls.quiet_of (has_at _ rfl u2))))))
              go_wp2
              refine ⟨⟨k + 1, rfl, by omega, HN2, ⟨pw_below_drewN HB.out _⟩⟩, by simp [intOf]; omega⟩
            · rw [hd] at u1
              cases hy : usD Y.f0
              · have HN2 := Aside0.mk (HN.out (by rw [hy]; simp))
                rw [hd] at HN2
                rw [hy] at u2
                go_wp2
                ((go_quiet ((go_at_call 20; first | (with_reducible exact Calls.quiet_of (has_at _ rfl u1)) | (with_reducible exact Calls.quiet_of (has_at _ rfl u2))))))
                go_wp2
                refine ⟨⟨k + 1, rfl, by omega, HN2, ⟨pw_below_drewN HB.out _⟩⟩, by simp [intOf]; omega⟩
              · rw [hy] at u2
                by_cases h6 : X.f1 = Y.f1
                · have hR : right code l = false := right_false_chk hlt (HM.out (by rw [hd, hy, h6]; simp))
                  have c6 : (X.f1 == Y.f1) = true := beq_iff_eq.2 h6
                  clear h6
                  go_wp2
                  ((go_quiet ((go_at_call 20; first | (with_reducible exact Calls.quiet_of (has_at _ rfl u1)) | (with_reducible exact Calls.quiet_of (has_at _ rfl u2))))))
                  go_wp2
                  ((go_ret; exact ⟨by first | exact rfl | (rw [hR]; exact rfl), by repeat (first | exact HB.out | exact HBp.out | exact HBb.out | apply below_alloc | apply pw_below_drewN | apply below_drew1)⟩))
                · have c6 : (X.f1 == Y.f1) = false := beq_eq_false_iff_ne.2 h6
                  have HN2 := Aside0.mk (HN.out (by rw [c6]; simp))
                  rw [hd] at HN2
                  clear h6
                  go_wp2
                  ((go_quiet ((go_at_call 20; first | (with_reducible exact Calls.quiet_of (has_at _ rfl u1)) | (with_reducible exact Calls.quiet_of (has_at _ rfl u2))))))
                  go_wp2
                  refine ⟨⟨k + 1, rfl, by omega, HN2, ⟨pw_below_drewN HB.out _⟩⟩, by simp [intOf]; omega⟩
          · obtain rfl : k = i := by omega
            have c5 : decide ((k : Int) < (k : Int)) = false := decide_eq_false (by omega)
            have HCk : Aside0 (chk code l code.length k = true) := ⟨by
              rw [HP2.out, Bool.not_eq_true']
              rw [List.any_eq_false]
              intro j hj
              rw [List.mem_range'] at hj
              obtain ⟨a, ha, rfl⟩ := hj
              rw [HD.out _ (by omega)]
              simp⟩
            go_wp2
            refine ⟨⟨k + 1, rfl, by omega, ⟨chk_step HK.out HCk.out⟩, HB⟩, by simp [intOf]; omega⟩
    · obtain rfl : i = code.length := by omega
      have c4 : decide ((code.length : Int) < (code.length : Int)) = false := decide_eq_false (by omega)
      go_wp2
      have HKa := HK
      clear HK
      go_loopw [7] (fun v w' => ∃ i : Nat, v = .int .i64 (i : Int) ∧ i ≤ code.length ∧ Aside0 (∀ j, j < i → chk2 code code.length j = true) ∧ Aside0 (Below w.heap.size w w')) (fun v _ => code.length - (intOf v).toNat)
      case atStart => exact ⟨0, rfl, by omega, ⟨fun j hj => absurd hj (by omega)⟩, HB⟩
      case round =>
        clear HB
        obtain ⟨i, rfl, hi2, HK2, HB⟩ := hrel
        by_cases hlt : i < code.length
        · have c6 : decide ((i : Int) < (code.length : Int)) = true := decide_eq_true (by omega)
          have q1 : ((i : Int) < (code.length : Int)) = True := eq_true (by omega)
          have q0 : (0 ≤ (i : Int)) = True := eq_true (by omega)
          by_cases hz : 0 < i
          · have z1 : decide ((0 : Int) < (i : Int)) = true := decide_eq_true (by omega)
            have z2 : decide (0 < i) = true := decide_eq_true hz
            by_cases hw : (bl code i 0 i).length = 1
            · obtain ⟨hw1, p0, hbl⟩ := one_way HKa.out hz (by omega) hw
              have HZ : Aside0 (i = 0 ∨ Wy code code.length (i : Int) = 1) := ⟨.inr hw1⟩
              have H1 := Aside0.mk (ways_all HK2.out HZ.out)
              have HBL := Aside0.mk hbl
              clear hw hbl hw1
              go_wp2_with ((go_at_call 38); refine (before_one _ c code i p0 _ (Kd.C_below HC.out HB.out) HCc.out (by omega) (by omega) HBL.out).mono ?_; rintro e wb ⟨adb, cb, rfl, hcb, hbb⟩; have HBb := Aside0.mk (below_step HB.out hbb); clear hbb hcb)
              obtain ⟨ad1, ea, k0, -⟩ := at_T40 (Kd.C_below HC.out HBb.out) (i : Int) (by omega) (by omega)
              cases ea
              simp only [Int.toNat_natCast] at k0
              rw [ins_at] at k0
              have HCH := Aside0.mk (chk2_chn HKa.out hlt HZ.out)
              go_quiet ((go_at_call 20; (with_reducible refine Calls.quiet_of (has_any (ins code i).f0 _ _ ?hck)); (case hck => rfl)))
              have HBq := Aside0.mk (pw_below_drewN HBb.out nq)
              go_wp2
              clear k0 HB HBb
              go_loopw [8, 9, 10] (fun va vb vk w' => ∃ (a b : Bool) (k f : Nat), va = .bool a ∧ vb = .bool b ∧ vk = .int .i64 (k : Int) ∧ k ≤ i ∧ k < f ∧ Aside0 (chk2 code code.length i = ((a || chn code code.length (ins code i).f2 f k) && (b || chn code code.length (ins code i).f3 f k))) ∧ Aside0 (Below w.heap.size w w')) (fun _ _ vk _ => (intOf vk).toNat)
              case atStart => exact ⟨_, _, i, i + 1, rfl, rfl, rfl, Nat.le_refl _, by omega, HCH, HBq⟩
              case round =>
                clear HBq HCH
                obtain ⟨a, b, k, f, rfl, rfl, rfl, hk, hf, HF, HB⟩ := hrel
                obtain ⟨f, rfl⟩ : ∃ f', f = f' + 1 := ⟨f - 1, by omega⟩
                by_cases hk0 : 0 < k
                · have c8 : decide ((0 : Int) < (k : Int)) = true := decide_eq_true (by omega)
                  have c9 : decide (0 < k) = true := decide_eq_true hk0
                  obtain ⟨p, hpk, hbl, HPn⟩ := one_back HKa.out hk0 (show k ≤ code.length by omega) (H1.out k hk0 hk)
                  have HF2 := HF.out
                  rw [HPn, HPn] at HF2
                  clear HPn HF
                  obtain ⟨P, hP⟩ : ∃ P, P = ins code p := ⟨_, rfl⟩
                  have HPP := Aside0.mk hP
                  rw [← hP] at HF2
                  clear hP
                  have HF := Aside0.mk HF2
                  clear HF2
                  have HBL := Aside0.mk hbl
                  clear hbl
                  have r1 : ((p : Int) < (code.length : Int)) = True := eq_true (by omega)
                  have r0 : (0 ≤ (p : Int)) = True := eq_true (by omega)
                  have u1 := hsv_d P.f0
                  cases hd : usD P.f0
                  · rw [hd] at u1 HF
                    go_wp2_with (first | ((go_at_call 38); refine (before_one _ c code k p _ (Kd.C_below HC.out HB.out) HCc.out (by omega) (by omega) HBL.out).mono ?_; rintro e w2 ⟨adb, cb, rfl, hcb, hbb⟩; have HB2 := Aside0.mk (below_step HB.out hbb); clear hbb; obtain ⟨ad3, ea, m0, m1, -⟩ := at_T40 (Kd.C_below HC.out HB2.out) (p : Int) (by omega) (by omega); cases ea; obtain ⟨ad4, ea, -, -, n2, n3, -⟩ := at_T40 (Kd.C_below HC.out HB2.out) (i : Int) (by omega) (by omega); cases ea; simp only [Int.toNat_natCast] at m0 m1 n2 n3; rw [ins_at] at m0 m1 n2 n3; rw [← HPP.out] at m0 m1) | ((go_at_call 20); (with_reducible refine (has_at _ rfl u1).mono ?_); rintro e w3 ⟨rfl, ⟨nd, rfl⟩⟩))
                    refine ⟨⟨a, b, p, f, rfl, rfl, rfl, by omega, by omega, ⟨by rw [HF.out]; simp⟩, by first | exact HB2 | exact ⟨pw_below_drewN HB2.out _⟩⟩, by simp [intOf]; omega⟩
                  · rw [hd] at u1 HF
                    cases a <;> cases b
                    · go_wp2_with (first | ((go_at_call 38); refine (before_one _ c code k p _ (Kd.C_below HC.out HB.out) HCc.out (by omega) (by omega) HBL.out).mono ?_; rintro e w2 ⟨adb, cb, rfl, hcb, hbb⟩; have HB2 := Aside0.mk (below_step HB.out hbb); clear hbb; obtain ⟨ad3, ea, m0, m1, -⟩ := at_T40 (Kd.C_below HC.out HB2.out) (p : Int) (by omega) (by omega); cases ea; obtain ⟨ad4, ea, -, -, n2, n3, -⟩ := at_T40 (Kd.C_below HC.out HB2.out) (i : Int) (by omega) (by omega); cases ea; simp only [Int.toNat_natCast] at m0 m1 n2 n3; rw [ins_at] at m0 m1 n2 n3; rw [← HPP.out] at m0 m1) | ((go_at_call 20); (with_reducible refine (has_at _ rfl u1).mono ?_); rintro e w3 ⟨rfl, ⟨nd, rfl⟩⟩))
                      repeat (go_quiet (fail); try go_wp2)
                      refine ⟨⟨_, _, p, f, rfl, rfl, rfl, by omega, by omega, ⟨by rw [HF.out]; simp⟩, ⟨by repeat (first | exact HB2.out | apply pw_below_drewN)⟩⟩, by simp [intOf]; omega⟩
                    · go_wp2_with (first | ((go_at_call 38); refine (before_one _ c code k p _ (Kd.C_below HC.out HB.out) HCc.out (by omega) (by omega) HBL.out).mono ?_; rintro e w2 ⟨adb, cb, rfl, hcb, hbb⟩; have HB2 := Aside0.mk (below_step HB.out hbb); clear hbb; obtain ⟨ad3, ea, m0, m1, -⟩ := at_T40 (Kd.C_below HC.out HB2.out) (p : Int) (by omega) (by omega); cases ea; obtain ⟨ad4, ea, -, -, n2, n3, -⟩ := at_T40 (Kd.C_below HC.out HB2.out) (i : Int) (by omega) (by omega); cases ea; simp only [Int.toNat_natCast] at m0 m1 n2 n3; rw [ins_at] at m0 m1 n2 n3; rw [← HPP.out] at m0 m1) | ((go_at_call 20); (with_reducible refine (has_at _ rfl u1).mono ?_); rintro e w3 ⟨rfl, ⟨nd, rfl⟩⟩))
                      repeat (go_quiet (fail); try go_wp2)
                      refine ⟨⟨_, _, p, f, rfl, rfl, rfl, by omega, by omega, ⟨by rw [HF.out]; simp⟩, ⟨by repeat (first | exact HB2.out | apply pw_below_drewN)⟩⟩, by simp [intOf]; omega⟩
                    · go_wp2_with (first | ((go_at_call 38); refine (before_one _ c code k p _ (Kd.C_below HC.out HB.out) HCc.out (by omega) (by omega) HBL.out).mono ?_; rintro e w2 ⟨adb, cb, rfl, hcb, hbb⟩; have HB2 := Aside0.mk (below_step HB.out hbb); clear hbb; obtain ⟨ad3, ea, m0, m1, -⟩ := at_T40 (Kd.C_below HC.out HB2.out) (p : Int) (by omega) (by omega); cases ea; obtain ⟨ad4, ea, -, -, n2, n3, -⟩ := at_T40 (Kd.C_below HC.out HB2.out) (i : Int) (by omega) (by omega); cases ea; simp only [Int.toNat_natCast] at m0 m1 n2 n3; rw [ins_at] at m0 m1 n2 n3; rw [← HPP.out] at m0 m1) | ((go_at_call 20); (with_reducible refine (has_at _ rfl u1).mono ?_); rintro e w3 ⟨rfl, ⟨nd, rfl⟩⟩))
                      repeat (go_quiet (fail); try go_wp2)
                      refine ⟨⟨_, _, p, f, rfl, rfl, rfl, by omega, by omega, ⟨by rw [HF.out]; simp⟩, ⟨by repeat (first | exact HB2.out | apply pw_below_drewN)⟩⟩, by simp [intOf]; omega⟩
                    · go_wp2_with (first | ((go_at_call 38); refine (before_one _ c code k p _ (Kd.C_below HC.out HB.out) HCc.out (by omega) (by omega) HBL.out).mono ?_; rintro e w2 ⟨adb, cb, rfl, hcb, hbb⟩; have HB2 := Aside0.mk (below_step HB.out hbb); clear hbb; obtain ⟨ad3, ea, m0, m1, -⟩ := at_T40 (Kd.C_below HC.out HB2.out) (p : Int) (by omega) (by omega); cases ea; obtain ⟨ad4, ea, -, -, n2, n3, -⟩ := at_T40 (Kd.C_below HC.out HB2.out) (i : Int) (by omega) (by omega); cases ea; simp only [Int.toNat_natCast] at m0 m1 n2 n3; rw [ins_at] at m0 m1 n2 n3; rw [← HPP.out] at m0 m1) | ((go_at_call 20); (with_reducible refine (has_at _ rfl u1).mono ?_); rintro e w3 ⟨rfl, ⟨nd, rfl⟩⟩))
                      repeat (go_quiet (fail); try go_wp2)
                      refine ⟨⟨_, _, p, f, rfl, rfl, rfl, by omega, by omega, ⟨by rw [HF.out]; simp⟩, ⟨by repeat (first | exact HB2.out | apply pw_below_drewN)⟩⟩, by simp [intOf]; omega⟩
                · obtain rfl : k = 0 := by omega
                  have c8 : decide ((0 : Int) < ((0 : Nat) : Int)) = false := decide_eq_false (by omega)
                  have HF2 : Aside0 (chk2 code code.length i = (a && b)) := ⟨by rw [HF.out]; simp [chn]⟩
                  clear HF
                  cases a
                  · have hR : right code l = false := right_false_chk2 hlt (by rw [HF2.out]; rfl)
                    go_wp2
                    ((go_ret; exact ⟨by first | exact rfl | (rw [hR]; exact rfl), by repeat (first | exact HB.out | exact HBp.out | exact HBb.out | apply below_alloc | apply pw_below_drewN | apply below_drew1)⟩))
                  · cases b
                    · have hR : right code l = false := right_false_chk2 hlt (by rw [HF2.out]; rfl)
                      go_wp2
                      ((go_ret; exact ⟨by first | exact rfl | (rw [hR]; exact rfl), by repeat (first | exact HB.out | exact HBp.out | exact HBb.out | apply below_alloc | apply pw_below_drewN | apply below_drew1)⟩))
                    · go_wp2
                      refine ⟨⟨i + 1, rfl, by omega, ⟨chk2_step HK2.out (by rw [HF2.out]; rfl)⟩, HB⟩, by simp [intOf]; omega⟩
            · have hR : right code l = false := right_false_chk2 hlt (not_way HKa.out hz (by omega) hw)
              have z3 : ((bl code i 0 i).length != 1) = true := by simpa using hw
              have z4 : (((bl code i 0 i).length : Int) != 1) = true := by rw [bne_iff_ne]; omega
              go_wp2_with ((go_at_call 38); refine (before_any _ c code i _ (Kd.C_below HC.out HB.out) HCc.out (by omega) (by omega)).mono ?_; rintro e wb ⟨Ab, cb, rfl, hcb, hbb⟩; have HBb := Aside0.mk (below_step HB.out hbb); clear hbb hcb)
              ((go_ret; exact ⟨by first | exact rfl | (rw [hR]; exact rfl), by repeat (first | exact HB.out | exact HBp.out | exact HBb.out | apply below_alloc | apply pw_below_drewN | apply below_drew1)⟩))
          · have z1 : decide ((0 : Int) < (i : Int)) = false := decide_eq_false (by omega)
            have z2 : decide (0 < i) = false := decide_eq_false hz
            have HZ : Aside0 (i = 0 ∨ Wy code code.length (i : Int) = 1) := ⟨.inl (by omega)⟩
            have H1 := Aside0.mk (ways_all HK2.out HZ.out)
            clear hz
            have HBb := HB
            go_wp2
            obtain ⟨ad1, ea, k0, -⟩ := at_T40 (Kd.C_below HC.out HBb.out) (i : Int) (by omega) (by omega)
            cases ea
            simp only [Int.toNat_natCast] at k0
            rw [ins_at] at k0
            have HCH := Aside0.mk (chk2_chn HKa.out hlt HZ.out)
            go_quiet ((go_at_call 20; (with_reducible refine Calls.quiet_of (has_any (ins code i).f0 _ _ ?hck)); (case hck => rfl)))
            have HBq := Aside0.mk (pw_below_drewN HBb.out nq)
            go_wp2
            clear k0 HB HBb
            go_loopw [8, 9, 10] (fun va vb vk w' => ∃ (a b : Bool) (k f : Nat), va = .bool a ∧ vb = .bool b ∧ vk = .int .i64 (k : Int) ∧ k ≤ i ∧ k < f ∧ Aside0 (chk2 code code.length i = ((a || chn code code.length (ins code i).f2 f k) && (b || chn code code.length (ins code i).f3 f k))) ∧ Aside0 (Below w.heap.size w w')) (fun _ _ vk _ => (intOf vk).toNat)
            case atStart => exact ⟨_, _, i, i + 1, rfl, rfl, rfl, Nat.le_refl _, by omega, HCH, HBq⟩
            case round =>
              clear HBq HCH
              obtain ⟨a, b, k, f, rfl, rfl, rfl, hk, hf, HF, HB⟩ := hrel
              obtain ⟨f, rfl⟩ : ∃ f', f = f' + 1 := ⟨f - 1, by omega⟩
              by_cases hk0 : 0 < k
              · have c8 : decide ((0 : Int) < (k : Int)) = true := decide_eq_true (by omega)
                have c9 : decide (0 < k) = true := decide_eq_true hk0
                obtain ⟨p, hpk, hbl, HPn⟩ := one_back HKa.out hk0 (show k ≤ code.length by omega) (H1.out k hk0 hk)
                have HF2 := HF.out
                rw [HPn, HPn] at HF2
                clear HPn HF
                obtain ⟨P, hP⟩ : ∃ P, P = ins code p := ⟨_, rfl⟩
                have HPP := Aside0.mk hP
                rw [← hP] at HF2
                clear hP
                have HF := Aside0.mk HF2
                clear HF2
                have HBL := Aside0.mk hbl
                clear hbl
                have r1 : ((p : Int) < (code.length : Int)) = True := eq_true (by omega)
                have r0 : (0 ≤ (p : Int)) = True := eq_true (by omega)
                have u1 := hsv_d P.f0
                cases hd : usD P.f0
                · rw [hd] at u1 HF
                  go_wp2_with (first | ((go_at_call 38); refine (before_one _ c code k p _ (Kd.C_below HC.out HB.out) HCc.out (by omega) (by omega) HBL.out).mono ?_; rintro e w2 ⟨adb, cb, rfl, hcb, hbb⟩; have HB2 := Aside0.mk (below_step HB.out hbb); clear hbb; obtain ⟨ad3, ea, m0, m1, -⟩ := at_T40 (Kd.C_below HC.out HB2.out) (p : Int) (by omega) (by omega); cases ea; obtain ⟨ad4, ea, -, -, n2, n3, -⟩ := at_T40 (Kd.C_below HC.out HB2.out) (i : Int) (by omega) (by omega); cases ea; simp only [Int.toNat_natCast] at m0 m1 n2 n3; rw [ins_at] at m0 m1 n2 n3; rw [← HPP.out] at m0 m1) | ((go_at_call 20); (with_reducible refine (has_at _ rfl u1).mono ?_); rintro e w3 ⟨rfl, ⟨nd, rfl⟩⟩))
                  refine ⟨⟨a, b, p, f, rfl, rfl, rfl, by omega, by omega, ⟨by rw [HF.out]; simp⟩, by first | exact HB2 | exact ⟨pw_below_drewN HB2.out _⟩⟩, by simp [intOf]; omega⟩
                · rw [hd] at u1 HF
                  cases a <;> cases b
                  · go_wp2_with (first | ((go_at_call 38); refine (before_one _ c code k p _ (Kd.C_below HC.out HB.out) HCc.out (by omega) (by omega) HBL.out).mono ?_; rintro e w2 ⟨adb, cb, rfl, hcb, hbb⟩; have HB2 := Aside0.mk (below_step HB.out hbb); clear hbb; obtain ⟨ad3, ea, m0, m1, -⟩ := at_T40 (Kd.C_below HC.out HB2.out) (p : Int) (by omega) (by omega); cases ea; obtain ⟨ad4, ea, -, -, n2, n3, -⟩ := at_T40 (Kd.C_below HC.out HB2.out) (i : Int) (by omega) (by omega); cases ea; simp only [Int.toNat_natCast] at m0 m1 n2 n3; rw [ins_at] at m0 m1 n2 n3; rw [← HPP.out] at m0 m1) | ((go_at_call 20); (with_reducible refine (has_at _ rfl u1).mono ?_); rintro e w3 ⟨rfl, ⟨nd, rfl⟩⟩))
                    repeat (go_quiet (fail); try go_wp2)
                    refine ⟨⟨_, _, p, f, rfl, rfl, rfl, by omega, by omega, ⟨by rw [HF.out]; simp⟩, ⟨by repeat (first | exact HB2.out | apply pw_below_drewN)⟩⟩, by simp [intOf]; omega⟩
                  · go_wp2_with (first | ((go_at_call 38); refine (before_one _ c code k p _ (Kd.C_below HC.out HB.out) HCc.out (by omega) (by omega) HBL.out).mono ?_; rintro e w2 ⟨adb, cb, rfl, hcb, hbb⟩; have HB2 := Aside0.mk (below_step HB.out hbb); clear hbb; obtain ⟨ad3, ea, m0, m1, -⟩ := at_T40 (Kd.C_below HC.out HB2.out) (p : Int) (by omega) (by omega); cases ea; obtain ⟨ad4, ea, -, -, n2, n3, -⟩ := at_T40 (Kd.C_below HC.out HB2.out) (i : Int) (by omega) (by omega); cases ea; simp only [Int.toNat_natCast] at m0 m1 n2 n3; rw [ins_at] at m0 m1 n2 n3; rw [← HPP.out] at m0 m1) | ((go_at_call 20); (with_reducible refine (has_at _ rfl u1).mono ?_); rintro e w3 ⟨rfl, ⟨nd, rfl⟩⟩))
                    repeat (go_quiet (fail); try go_wp2)
                    refine ⟨⟨_, _, p, f, rfl, rfl, rfl, by omega, by omega, ⟨by rw [HF.out]; simp⟩, ⟨by repeat (first | exact HB2.out | apply pw_below_drewN)⟩⟩, by simp [intOf]; omega⟩
                  · go_wp2_with (first | ((go_at_call 38); refine (before_one _ c code k p _ (Kd.C_below HC.out HB.out) HCc.out (by omega) (by omega) HBL.out).mono ?_; rintro e w2 ⟨adb, cb, rfl, hcb, hbb⟩; have HB2 := Aside0.mk (below_step HB.out hbb); clear hbb; obtain ⟨ad3, ea, m0, m1, -⟩ := at_T40 (Kd.C_below HC.out HB2.out) (p : Int) (by omega) (by omega); cases ea; obtain ⟨ad4, ea, -, -, n2, n3, -⟩ := at_T40 (Kd.C_below HC.out HB2.out) (i : Int) (by omega) (by omega); cases ea; simp only [Int.toNat_natCast] at m0 m1 n2 n3; rw [ins_at] at m0 m1 n2 n3; rw [← HPP.out] at m0 m1) | ((go_at_call 20); (with_reducible refine (has_at _ rfl u1).mono ?_); rintro e w3 ⟨rfl, ⟨nd, rfl⟩⟩))
                    repeat (go_quiet (fail); try go_wp2)
                    refine ⟨⟨_, _, p, f, rfl, rfl, rfl, by omega, by omega, ⟨by rw [HF.out]; simp⟩, ⟨by repeat (first | exact HB2.out | apply pw_below_drewN)⟩⟩, by simp [intOf]; omega⟩
                  · go_wp2_with (first | ((go_at_call 38); refine (before_one _ c code k p _ (Kd.C_below HC.out HB.out) HCc.out (by omega) (by omega) HBL.out).mono ?_; rintro e w2 ⟨adb, cb, rfl, hcb, hbb⟩; have HB2 := Aside0.mk (below_step HB.out hbb); clear hbb; obtain ⟨ad3, ea, m0, m1, -⟩ := at_T40 (Kd.C_below HC.out HB2.out) (p : Int) (by omega) (by omega); cases ea; obtain ⟨ad4, ea, -, -, n2, n3, -⟩ := at_T40 (Kd.C_below HC.out HB2.out) (i : Int) (by omega) (by omega); cases ea; simp only [Int.toNat_natCast] at m0 m1 n2 n3; rw [ins_at] at m0 m1 n2 n3; rw [← HPP.out] at m0 m1) | ((go_at_call 20); (with_reducible refine (has_at _ rfl u1).mono ?_); rintro e w3 ⟨rfl, ⟨nd, rfl⟩⟩))
                    repeat (go_quiet (fail); try go_wp2)
                    refine ⟨⟨_, _, p, f, rfl, rfl, rfl, by omega, by omega, ⟨by rw [HF.out]; simp⟩, ⟨by repeat (first | exact HB2.out | apply pw_below_drewN)⟩⟩, by simp [intOf]; omega⟩
              · obtain rfl : k = 0 := by omega
                have c8 : decide ((0 : Int) < ((0 : Nat) : Int)) = false := decide_eq_false (by omega)
                have HF2 : Aside0 (chk2 code code.length i = (a && b)) := ⟨by rw [HF.out]; simp [chn]⟩
                clear HF
                cases a
                · have hR : right code l = false := right_false_chk2 hlt (by rw [HF2.out]; rfl)
                  go_wp2
                  ((go_ret; exact ⟨by first | exact rfl | (rw [hR]; exact rfl), by repeat (first | exact HB.out | exact HBp.out | exact HBb.out | apply below_alloc | apply pw_below_drewN | apply below_drew1)⟩))
                · cases b
                  · have hR : right code l = false := right_false_chk2 hlt (by rw [HF2.out]; rfl)
                    go_wp2
                    ((go_ret; exact ⟨by first | exact rfl | (rw [hR]; exact rfl), by repeat (first | exact HB.out | exact HBp.out | exact HBb.out | apply below_alloc | apply pw_below_drewN | apply below_drew1)⟩))
                  · go_wp2
                    refine ⟨⟨i + 1, rfl, by omega, ⟨chk2_step HK2.out (by rw [HF2.out]; rfl)⟩, HB⟩, by simp [intOf]; omega⟩
        · obtain rfl : i = code.length := by omega
          have c6 : decide ((code.length : Int) < (code.length : Int)) = false := decide_eq_false (by omega)
          have hR : right code l = true := by
            unfold right
            rw [show decide (1 ≤ code.length) = true from decide_eq_true (by omega), show decide (code.length ≤ 400) = true from decide_eq_true (by omega), show ((ins code (code.length - 1)).f0 == 18) = true from beq_iff_eq.2 H18.out, List.all_eq_true.2 (fun j hj => HKa.out j (List.mem_range.1 hj)), List.all_eq_true.2 (fun j hj => HK2.out j (List.mem_range.1 hj))]
            rfl
          go_wp2
          ((go_ret; exact ⟨by first | exact rfl | (rw [hR]; exact rfl), by repeat (first | exact HB.out | exact HBp.out | exact HBb.out | apply below_alloc | apply pw_below_drewN | apply below_drew1)⟩))
end Go.Proofs.Ytdmbnlpcfgphpaa.Q
