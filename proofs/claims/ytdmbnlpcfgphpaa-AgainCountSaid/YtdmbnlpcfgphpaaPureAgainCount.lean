/- The plain law of AgainCount. -/
import Derived.Test.YtdmbnlpcfgphpaaStAgainCount
import Derived.Test.YtdmbnlpcfgphpaaPst
namespace Go.Proofs.Ytdmbnlpcfgphpaa.Q
open Go.RowKit Go.Proofs.YtdmbnlpcfgphpaaW.PrintWords Go.Proofs.YtdmbnlpcfgphpaaW.PrintLast Go.Proofs.YtdmbnlpcfgphpaaW.PrintMore
set_option linter.unusedVariables false
set_option linter.unusedSimpArgs false
theorem same40_l0 (l : List S40) (hl : l.length ≤ 100000) : ∀ (r i k : Nat), l.length = i + r → r < k → selvageref10_Same.l0 k l l (i : Int) = some true
  | 0, i, k + 1, h, _ => by
    simp only [selvageref10_Same.l0]
    rw [if_neg (by omega)]
  | r + 1, i, k + 1, h, hk => by
    simp only [selvageref10_Same.l0]
    rw [if_pos (by omega), if_pos (by omega), if_pos (by omega), show wrap64 ((i : Int) + 1) = ((i + 1 : Nat) : Int) by rw [wrap_of (by omega) (by omega)]; omega]
    rw [if_neg (by simp)]
    exact same40_l0 l hl r (i + 1) k (by omega) (by omega)
theorem same40 (l : List S40) (hl : l.length ≤ 100000) (k : Nat) (hk : l.length < k) : selvageref10_Same.f k l l = some true := by
  unfold selvageref10_Same.f
  rw [if_pos rfl]
  exact same40_l0 l hl l.length 0 k (by omega) hk
set_option maxRecDepth 100000 in
theorem awake13_10 : selvagelaw13_awake.f 10 = some true := by kernel_rfl
theorem awake13_ev (k : Nat) (hk : 10 ≤ k) : selvagelaw13_awake.f k = some true := at_rounds selvagelaw13_awake.mono hk awake13_10
theorem nsp_full (code : List S40) : ∀ n, nsp code n = n → ∀ j, j ≤ n → nsp code j = j ∧ (j < n → spr code j = false)
  | 0, _, j, hj => by obtain rfl : j = 0 := by omega
                      exact ⟨rfl, fun h => absurd h (by omega)⟩
  | n + 1, h, j, hj => by
    have h1 := nsp_le code n
    have h2 : nsp code n = n ∧ spr code n = false := by
      unfold nsp at h
      cases hs : spr code n
      · rw [hs] at h; simp at h; exact ⟨by omega, rfl⟩
      · rw [hs] at h; simp at h; omega
    by_cases he : j = n + 1
    · subst he; exact ⟨h, fun h => absurd h (by omega)⟩
    · obtain ⟨q1, q2⟩ := nsp_full code n h2.1 j (by omega)
      refine ⟨q1, fun hl => ?_⟩
      by_cases he2 : j = n
      · rw [he2]; exact h2.2
      · exact q2 (by omega)
theorem mea_id {code : List S40} (hs : ∀ j, j < code.length → spr code j = false) (t : Tr code) (u : Int) : mea code u = u := by
  cases hm : mkr code u with
  | none => exact mea_none hm
  | some i =>
    obtain ⟨h1, h2, h3⟩ := (mkr_some t).1 hm
    rw [hs i h1] at h3; cases h3
theorem noA_us {o : Int} (h : okO o = true) : noA o = !usA o ∧ (noA o || noB o) = !usB o := by
  rcases op_cases h with rfl | rfl | rfl | rfl | rfl | rfl | rfl | rfl | rfl | rfl | rfl | rfl | rfl | rfl | rfl | rfl | rfl | rfl <;> decide
theorem tmp_no {n : Int} (h : tmp false n = true) : n = 0 := by simpa [tmp] using h
theorem agI_id {code : List S40} (t : Tr code) (hm : ∀ u, mea code u = u) (hn : ∀ j, j ≤ code.length → nsp code j = j) {i : Nat} (hi : i < code.length) : agI code (ins code i) = ins code i := by
  have hA := t.tA i hi
  have hB := t.tB i hi
  have h7 := t.noto i hi
  have h7' := t.tgt i hi
  obtain ⟨n1, n2⟩ := noA_us (t.ok i hi)
  generalize ins code i = x at *
  obtain ⟨o, d, a, b, loc, len, k, tt⟩ := x
  dsimp only at hA hB h7 h7' n1 n2
  unfold agI
  dsimp only
  have e2 : (if noA o = true then 0 else mea code a) = a := by
    rw [hm]
    cases hu : usA o
    · rw [hu] at n1 hA; rw [n1]; exact (tmp_no hA).symm
    · rw [hu] at n1; rw [n1]; rfl
  have e3 : (if noA o = true then 0 else if noB o = true then 0 else mea code b) = b := by
    rw [hm]
    cases hu : usB o
    · rw [hu] at n2 hB
      rw [tmp_no hB]
      split
      · rfl
      · split <;> rfl
    · rw [hu] at n2
      have : noA o = false ∧ noB o = false := by simpa using n2
      rw [this.1, this.2]; rfl
  have e7 : (if tt = 0 then 0 else (nsp code tt.toNat : Int)) = tt := by
    by_cases h0 : tt = 0
    · rw [if_pos h0, h0]
    · rw [if_neg h0]
      have hT : usT o = true := by
        cases hT : usT o
        · exact absurd (h7 hT) h0
        · rfl
      have := h7' hT
      rw [hn tt.toNat (by omega)]
      omega
  rw [e2, e3, e7]
theorem outL_id {code : List S40} (t : Tr code) (h : nsp code code.length = code.length) : ∀ i, i ≤ code.length → outL code i = code.take i
  | 0, _ => by simp [outL]
  | i + 1, hi => by
    have hf := nsp_full code code.length h
    have hs := (hf i (by omega)).2 (by omega)
    unfold outL
    rw [if_neg (by rw [hs]; decide), outL_id t h i (by omega), agI_id t (mea_id (fun j hj => (hf j (by omega)).2 hj) t) (fun j hj => (hf j hj).1) (by omega : i < code.length)]
    rw [List.take_succ_eq_append_getElem (by omega)]
    simp [ins, show i < code.length by omega]
theorem spr_6 {code : List S40} {i : Nat} (h : spr code i = true) : (rd_T40 code (i : Int)).f0 = 6 := (spr_parts h).1
/-- The law's loop. -/
theorem count_l0 {code : List S40} (t : Tr code) (K : Nat) (hK : code.length < K) : ∀ (r i k : Nat), code.length = i + r → r + K < k → selvagelaw13_AgainCount.l0 k code (spL code) (outL code code.length) 0 ((i - nsp code i : Nat) : Int) (i : Int) = some true
  | 0, i, k + 1, h, hk => by
    have h4 := t.n4
    have hl := outL_len code code.length
    have h1 := nsp_le code code.length
    obtain rfl : i = code.length := by omega
    simp only [selvagelaw13_AgainCount.l0]
    rw [spL_len, if_neg (by omega), if_pos trivial, hl, if_pos (by rw [wrap_of (by omega) (by omega)]; omega)]
    by_cases h0 : nsp code code.length = code.length
    · rw [if_neg (by omega), outL_id t h0 code.length (Nat.le_refl _), List.take_length, same40 code (by omega) k (by omega)]
      rfl
    · rw [if_pos (by omega)]
  | r + 1, i, k + 1, h, hk => by
    have h4 := t.n4
    have h1 := nsp_le code i
    have hi : i < code.length := by omega
    have hsp : rdOf false (spL code) (i : Int) = spr code i := by unfold rdOf; rw [Int.toNat_natCast]; exact spL_at hi
    have e1 : wrap64 ((i : Int) + 1) = ((i + 1 : Nat) : Int) := by rw [wrap_of (by omega) (by omega)]; omega
    simp only [selvagelaw13_AgainCount.l0]
    rw [spL_len, if_pos (by omega), if_pos (by omega), hsp, e1]
    have ih := count_l0 t K hK r (i + 1) k (by omega) (by omega)
    unfold nsp at ih
    cases hs : spr code i
    · rw [hs] at ih
      rw [if_neg (by decide)]
      simp only [Bool.false_eq_true, if_false] at ih
      rw [show i + 1 - (nsp code i + 1) = i - nsp code i by omega] at ih
      exact ih
    · rw [hs] at ih
      simp only [if_true, Nat.add_zero] at ih
      rw [if_pos rfl, if_pos (by omega), if_pos (spr_6 hs), show wrap64 (((i - nsp code i : Nat) : Int) + 1) = ((i + 1 - nsp code i : Nat) : Int) by rw [wrap_of (by omega) (by omega)]; omega]
      exact ih
end Go.Proofs.Ytdmbnlpcfgphpaa.Q
namespace Go.Proofs.Ytdmbnlpcfgphpaa.StAgainCount
open Go.RowKit Go.Proofs.YtdmbnlpcfgphpaaW.PrintWords Go.Proofs.YtdmbnlpcfgphpaaW.PrintLast Go.Proofs.YtdmbnlpcfgphpaaW.PrintMore Go.Proofs.Ytdmbnlpcfgphpaa.Q
theorem all : Pure := by
  intro l0 l1 _ _ _ _
  refine ⟨1999 + 1, ?_⟩
  unfold selvagelaw13_AgainCount.f
  rw [awake13_ev _ (by omega), Option.bind_some, if_pos rfl]
  have done_ : selvagelaw13_AgainCount.j0 (1999 + 1) l0 l1 true = some true := by simp only [selvagelaw13_AgainCount.j0]; rfl
  by_cases h1 : (l0.length : Int) > 410
  · rw [if_pos h1]; exact done_
  rw [if_neg h1]
  by_cases h2 : (l1.length : Int) > 16
  · rw [decide_eq_true h2]; exact done_
  rw [decide_eq_false h2]
  simp only [selvagelaw13_AgainCount.j0]
  rw [if_neg (by decide)]
  unfold again_Spare.f again_Again.f
  rw [if_pos (by omega), Option.bind_some, if_pos (by omega), Option.bind_some]
  cases hR : right l0 l1
  · have e1 : agS l0 l1 = ([], 3) := by unfold agS; rw [hR]; rfl
    have e2 : agA l0 l1 = ([], 3) := by unfold agA; rw [hR]; rfl
    rw [e1, e2]
    rfl
  · have e1 : agS l0 l1 = (spL l0, 0) := by unfold agS; rw [hR]; rfl
    have e2 : agA l0 l1 = (outL l0 l0.length, 0) := by unfold agA; rw [hR]; rfl
    rw [e1, e2]
    dsimp only
    rw [if_pos rfl]
    have t := tr_of hR
    have h4 := t.n4
    exact count_l0 t 500 (by omega) l0.length 0 1999 (by omega) (by omega)
end Go.Proofs.Ytdmbnlpcfgphpaa.StAgainCount
namespace Go.Proofs.Ytdmbnlpcfgphpaa.Pure
theorem AgainCount : Go.Proofs.Ytdmbnlpcfgphpaa.StAgainCount.Pure := Go.Proofs.Ytdmbnlpcfgphpaa.StAgainCount.all
end Go.Proofs.Ytdmbnlpcfgphpaa.Pure
