/- Several of my texts in one: Rk, Rkm, Rk2, Tp1, Tp2, Pco, Lal, LwAll, StAgainAll, PureAgainAll, RowAgainAll. -/
import Derived.Test.YtdmbnlpcfgphpaaSmQk
import Derived.Test.YtdmbnlpcfgphpaaRref
import Derived.Test.YtdmbnlpcfgphpaaSmOt
import Derived.Test.YtdmbnlpcfgphpaaSmQl
import Derived.Test.YtdmbnlpcfgphpaaSmTr
import Derived.Test.YtdmbnlpcfgphpaaPst
import Derived.Test.YtdmbnlpcfgphpaaSmQa
import Derived.Test.YtdmbnlpcfgphpaaAin
import Derived.Deep.RegionHeld3
import Derived.Test.YtdmbnlpcfgphpaaRows
import Derived.Test.YtdmbnlpcfgphpaaOpen
import Derived.WalkKit
import Derived.ProofKit
import Derived.OpenShut
import Derived.ShutString
import Derived.ChangeOld
import Derived.Below
import Derived.SizedLaws
namespace Go.Proofs.Ytdmbnlpcfgphpaa.Q
open Go.RowKit Go.Proofs.YtdmbnlpcfgphpaaW.PrintWords Go.Proofs.YtdmbnlpcfgphpaaW.PrintLast Go.Proofs.YtdmbnlpcfgphpaaW.PrintMore
set_option linter.unusedVariables false
set_option linter.unusedSimpArgs false
theorem atomic_ev (o : Int) : selvageref13_atomic.f o = some (isAtom o) := by
  unfold selvageref13_atomic.f isAtom
  by_cases h8 : o = 8
  · rw [if_pos h8, h8]; rfl
  by_cases h9 : o = 9
  · rw [if_neg h8, if_pos h9, h9]; rfl
  by_cases h10 : o = 10
  · rw [if_neg h8, if_neg h9, if_pos h10, h10]; rfl
  by_cases h11 : o = 11
  · rw [if_neg h8, if_neg h9, if_neg h10, if_pos h11, h11]; rfl
  rw [if_neg h8, if_neg h9, if_neg h10, if_neg h11, beq_eq_false_iff_ne.2 h8, beq_eq_false_iff_ne.2 h9, beq_eq_false_iff_ne.2 h10, beq_eq_false_iff_ne.2 h11]
  rfl
section
variable {code : List S40}
theorem known_j3 (k : Nat) (i loc : Int) (b : Bool) (o d a bb f4 f5 k6 t7 : Int) : selvageref13_Known.j3 (k + 1) code i loc b o d a bb f4 f5 k6 t7 = if b = true then some (-1) else if isAtom o = true then some (-1) else selvageref13_Known.l0 k code i loc := by
  simp only [selvageref13_Known.j3]
  rw [atomic_ev, Option.bind_some]
theorem known_j2 (k : Nat) (i loc : Int) (b : Bool) (o d a bb f4 f5 k6 t7 : Int) (h : 0 ≤ f4 ∧ f4 ≤ 1000 ∧ 0 ≤ f5 ∧ f5 ≤ 1000) : selvageref13_Known.j2 (k + 2) code i loc b o d a bb f4 f5 k6 t7 = if b = true then some a else if (o = 14 ∧ f4 ≤ loc ∧ loc < f4 + f5) ∨ isAtom o = true then some (-1) else selvageref13_Known.l0 k code i loc := by
  simp only [selvageref13_Known.j2]
  split
  · rfl
  by_cases h14 : o = 14
  · rw [if_pos h14]
    by_cases h1 : loc ≥ f4
    · rw [if_pos h1, known_j3, wrap_of (by omega) (by omega)]
      by_cases h2 : loc < f4 + f5
      · rw [decide_eq_true h2, if_pos rfl, if_pos (Or.inl ⟨h14, h1, h2⟩)]
      · rw [decide_eq_false h2, if_neg (by decide)]
        by_cases ha : isAtom o = true
        · rw [if_pos ha, if_pos (Or.inr ha)]
        · rw [if_neg ha, if_neg (by rintro (h | h); exact h2 h.2.2; exact ha h)]
    · rw [if_neg h1, known_j3, if_neg (by decide)]
      by_cases ha : isAtom o = true
      · rw [if_pos ha, if_pos (Or.inr ha)]
      · rw [if_neg ha, if_neg (by rintro (h | h); exact h1 h.2.1; exact ha h)]
  · rw [if_neg h14, known_j3, if_neg (by decide)]
    by_cases ha : isAtom o = true
    · rw [if_pos ha, if_pos (Or.inr ha)]
    · rw [if_neg ha, if_neg (by rintro (h | h); exact h14 h.1; exact ha h)]
theorem known_j1 (k : Nat) (i loc : Int) (b : Bool) (o d a bb f4 f5 k6 t7 : Int) (h : 0 ≤ f4 ∧ f4 ≤ 1000 ∧ 0 ≤ f5 ∧ f5 ≤ 1000) : selvageref13_Known.j1 (k + 3) code i loc b o d a bb f4 f5 k6 t7 = if b = true then some d else if o = 7 ∧ f4 = loc then some a else if (o = 14 ∧ f4 ≤ loc ∧ loc < f4 + f5) ∨ isAtom o = true then some (-1) else selvageref13_Known.l0 k code i loc := by
  simp only [selvageref13_Known.j1]
  split
  · rfl
  by_cases h7 : o = 7
  · rw [if_pos h7, known_j2 _ _ _ _ _ _ _ _ _ _ _ _ h]
    by_cases he : f4 = loc
    · rw [if_pos (by simp [he]), if_pos ⟨h7, he⟩]
    · rw [if_neg (by simp [he]), if_neg (show ¬ (o = 7 ∧ f4 = loc) from fun h => he h.2)]
  · rw [if_neg h7, known_j2 _ _ _ _ _ _ _ _ _ _ _ _ h, if_neg (by decide), if_neg (show ¬ (o = 7 ∧ f4 = loc) from fun h => h7 h.1)]
theorem known_Ev (t : Tr code) (hL : Lb code) : ∀ i, i < code.length → ∀ loc, Ev (fun m => selvageref13_Known.l0 m code (i : Int) loc) ((kw code i loc).getD (-1)) := by
  intro i
  induction i using Nat.strongRecOn with
  | ind i ih =>
    intro hi loc
    by_cases h0 : i = 0
    · subst h0
      refine ⟨1, fun k hk => ?_⟩
      obtain ⟨q, rfl⟩ : ∃ q, k = q + 1 := ⟨k - 1, by omega⟩
      simp only [selvageref13_Known.l0]
      rw [if_neg (by decide)]
      rfl
    have hl := t.lt i (by omega) hi
    have hp : par code i < code.length := by omega
    obtain ⟨K1, h1⟩ := before_Ev code i (by omega) (by have := t.n4; omega)
    obtain ⟨K2, h2⟩ := ih (par code i) hl hp loc
    have hb : bl code i 0 i = [(par code i : Int)] := t.one i (by omega) hi
    refine ⟨K1 + K2 + 5, fun k hk => ?_⟩
    obtain ⟨q, rfl⟩ : ∃ q, k = q + 4 := ⟨k - 4, by omega⟩
    have hB := h1 (q + 3) (by omega)
    dsimp only at hB
    have hI := h2 q (by omega)
    dsimp only at hI
    have e0 : rd [(par code i : Int)] 0 = (par code i : Int) := rfl
    have e1 : rd_T40 code (par code i : Int) = ins code (par code i) := rfl
    simp only [selvageref13_Known.l0]
    rw [if_pos (by omega), hB, hb, Option.bind_some, if_pos (by simp), e0, if_pos (by omega), if_pos (by omega), e1]
    rw [known_j1 _ _ _ _ _ _ _ _ _ _ _ _ (hL _ hp), known_j1 _ _ _ _ _ _ _ _ _ _ _ _ (hL _ hp), hI, kw_step t (by omega) hi]
    by_cases h6 : (ins code (par code i)).f0 = 6
    · rw [if_pos h6]
      by_cases he : (ins code (par code i)).f4 = loc
      · rw [if_pos (by simp [he]), if_pos ⟨h6, he⟩]; rfl
      · rw [if_neg (by simp [he]), if_neg (show ¬ ((ins code (par code i)).f0 = 6 ∧ (ins code (par code i)).f4 = loc) from fun h => he h.2)]
        by_cases h7 : (ins code (par code i)).f0 = 7 ∧ (ins code (par code i)).f4 = loc
        · exact absurd h7.2 he
        · rw [if_neg h7, if_neg h7]
          split <;> rfl
    · rw [if_neg h6, if_neg (by decide), if_neg (show ¬ ((ins code (par code i)).f0 = 6 ∧ (ins code (par code i)).f4 = loc) from fun h => h6 h.1)]
      by_cases h7 : (ins code (par code i)).f0 = 7 ∧ (ins code (par code i)).f4 = loc
      · rw [if_pos h7, if_pos h7]; rfl
      · rw [if_neg h7, if_neg h7]
        split <;> rfl
theorem kw_bd (t : Tr code) {i : Nat} (hi : i < code.length) {loc u : Int} (h : kw code i loc = some u) : 0 ≤ u ∧ u < 400 := by
  obtain ⟨k, k1, k2, k3, k4⟩ := kw_made t i hi h
  rw [← k4]
  exact tmp_bd (t.tD k (by omega))
theorem rspare_Ev (t : Tr code) (hL : Lb code) {i : Nat} (hi : i < code.length) : Ev (fun m => selvageref13_Spare.f m code (i : Int)) (spr code i) := by
  obtain ⟨K, h⟩ := known_Ev t hL i hi (ins code i).f4
  refine ⟨K, fun k hk => ?_⟩
  have h1 := h k hk
  dsimp only at h1
  have e1 : rd_T40 code (i : Int) = ins code i := rfl
  unfold selvageref13_Spare.f
  dsimp only
  rw [if_pos (by omega), if_pos (by omega), e1]
  unfold spr
  by_cases h6 : (ins code i).f0 = 6
  · rw [if_pos h6, h6]
    unfold selvageref13_Known.f
    rw [h1, Option.bind_some]
    cases hk : kw code i (ins code i).f4 with
    | none => rfl
    | some u =>
      have := kw_bd t hi hk
      show some (decide (u ≥ 0)) = _
      rw [decide_eq_true this.1]; rfl
  · rw [if_neg h6, beq_eq_false_iff_ne.2 h6]; rfl
end
end Go.Proofs.Ytdmbnlpcfgphpaa.Q
namespace Go.Proofs.Ytdmbnlpcfgphpaa.Q
open Go.RowKit Go.Proofs.YtdmbnlpcfgphpaaW.PrintWords Go.Proofs.YtdmbnlpcfgphpaaW.PrintLast Go.Proofs.YtdmbnlpcfgphpaaW.PrintMore
set_option linter.unusedVariables false
set_option linter.unusedSimpArgs false
section
variable {code : List S40}
/-- One round of Meant's loop. -/
theorem meant_l0 (k : Nat) (u : Int) {i : Nat} (hi : i < code.length) (hn : code.length ≤ 400) (hh : selvageref10_Has.f (k + 1) (ins code i).f0 100 = some (usD (ins code i).f0)) {b : Bool} (hs : selvageref13_Spare.f (k + 1) code (i : Int) = some b) : selvageref13_Meant.l0 (k + 2) code u (i : Int) = if (usD (ins code i).f0 && ((ins code i).f1 == u) && b) = true then ((selvageref13_Known.f k code (i : Int) (ins code i).f4).bind fun v => selvageref13_Meant.f k code v) else selvageref13_Meant.l0 k code u ((i + 1 : Nat) : Int) := by
  have e1 : rd_T40 code (i : Int) = ins code i := rfl
  have e2 : wrap64 ((i : Int) + 1) = ((i + 1 : Nat) : Int) := by rw [wrap_of (by omega) (by omega)]; omega
  have hj : ∀ c, selvageref13_Meant.j1 (k + 1) code u (i : Int) c = if c = true then ((selvageref13_Known.f k code (i : Int) (ins code i).f4).bind fun v => selvageref13_Meant.f k code v) else selvageref13_Meant.l0 k code u ((i + 1 : Nat) : Int) := fun c => by
    cases c
    · simp only [selvageref13_Meant.j1]
      rw [if_neg (by decide), if_neg (by decide), e2]
    · simp only [selvageref13_Meant.j1]
      rw [if_pos trivial, if_pos trivial, if_pos (by omega), if_pos (by omega), e1]
      congr 1
      funext v
      cases selvageref13_Meant.f k code v <;> rfl
  simp only [selvageref13_Meant.l0]
  rw [if_pos (by omega), if_pos (by omega), e1, hh, Option.bind_some]
  cases usD (ins code i).f0
  · rw [if_neg (by decide), hj]; rfl
  · rw [if_pos rfl]
    by_cases he : (ins code i).f1 = u
    · rw [if_pos he, hs, Option.bind_some, hj, he]
      simp
    · rw [if_neg he, hj, beq_eq_false_iff_ne.2 he]; rfl
theorem meant_none (t : Tr code) (hL : Lb code) {u : Int} (hm : mkr code u = none) : ∀ r i, code.length = i + r → Ev (fun m => selvageref13_Meant.l0 m code u (i : Int)) u
  | 0, i, h => by
    refine ⟨1, fun k hk => ?_⟩
    obtain ⟨q, rfl⟩ : ∃ q, k = q + 1 := ⟨k - 1, by omega⟩
    simp only [selvageref13_Meant.l0]
    rw [if_neg (by omega)]
  | r + 1, i, h => by
    have hi : i < code.length := by omega
    obtain ⟨K1, h1⟩ := has_Ev (ins code i).f0 100 rfl
    obtain ⟨K2, h2⟩ := rspare_Ev t hL hi
    obtain ⟨K3, h3⟩ := meant_none t hL hm r (i + 1) (by omega)
    refine ⟨K1 + K2 + K3 + 3, fun k hk => ?_⟩
    obtain ⟨q, rfl⟩ : ∃ q, k = q + 2 := ⟨k - 2, by omega⟩
    have hh := h1 (q + 1) (by omega)
    dsimp only at hh
    rw [hsv_d] at hh
    have hs := h2 (q + 1) (by omega)
    dsimp only at hs ⊢
    rw [meant_l0 q u hi t.n4 hh hs]
    have := List.find?_eq_none.1 hm i (List.mem_range.2 hi)
    rw [if_neg this]
    exact h3 q (by omega)
theorem meant_some (t : Tr code) (hL : Lb code) {u v x : Int} {j : Nat} (hm : mkr code u = some j) (hv : kw code j (ins code j).f4 = some v) (H : Ev (fun m => selvageref13_Meant.f m code v) x) : ∀ r i, j = i + r → Ev (fun m => selvageref13_Meant.l0 m code u (i : Int)) x
  | 0, i, h => by
    obtain rfl : j = i := by omega
    obtain ⟨hi, m1, m2⟩ := (mkr_some t).1 hm
    obtain ⟨K1, h1⟩ := has_Ev (ins code j).f0 100 rfl
    obtain ⟨K2, h2⟩ := rspare_Ev t hL hi
    obtain ⟨K3, h3⟩ := known_Ev t hL j hi (ins code j).f4
    obtain ⟨K4, h4⟩ := H
    refine ⟨K1 + K2 + K3 + K4 + 3, fun k hk => ?_⟩
    obtain ⟨q, rfl⟩ : ∃ q, k = q + 2 := ⟨k - 2, by omega⟩
    have hh := h1 (q + 1) (by omega)
    dsimp only at hh
    rw [hsv_d] at hh
    have hs := h2 (q + 1) (by omega)
    have hk3 := h3 q (by omega)
    dsimp only at hs hk3 ⊢
    rw [meant_l0 q u hi t.n4 hh hs, m1, m2, spr_D m2, if_pos (by simp)]
    unfold selvageref13_Known.f
    rw [hk3, hv, Option.getD_some, Option.bind_some]
    exact h4 q (by omega)
  | r + 1, i, h => by
    obtain ⟨hj, m1, m2⟩ := (mkr_some t).1 hm
    have hi : i < code.length := by omega
    obtain ⟨K1, h1⟩ := has_Ev (ins code i).f0 100 rfl
    obtain ⟨K2, h2⟩ := rspare_Ev t hL hi
    obtain ⟨K3, h3⟩ := meant_some t hL hm hv H r (i + 1) (by omega)
    refine ⟨K1 + K2 + K3 + 3, fun k hk => ?_⟩
    obtain ⟨q, rfl⟩ : ∃ q, k = q + 2 := ⟨k - 2, by omega⟩
    have hh := h1 (q + 1) (by omega)
    dsimp only at hh
    rw [hsv_d] at hh
    have hs := h2 (q + 1) (by omega)
    dsimp only at hs ⊢
    rw [meant_l0 q u hi t.n4 hh hs, if_neg]
    · exact h3 q (by omega)
    · intro hc
      simp only [Bool.and_eq_true, beq_iff_eq] at hc
      have := t.uniq i j hi hj hc.1.1 (spr_D m2) (by rw [hc.1.2, m1])
      omega
theorem meant_Ev (t : Tr code) (hL : Lb code) (u : Int) : Ev (fun m => selvageref13_Meant.f m code u) (mea code u) := by
  have wrap : ∀ x v, Ev (fun m => selvageref13_Meant.l0 m code x ((0 : Nat) : Int)) v → Ev (fun m => selvageref13_Meant.f m code x) v := fun x v h => by
    obtain ⟨K, h⟩ := h
    refine ⟨K + 1, fun k hk => ?_⟩
    obtain ⟨q, rfl⟩ : ∃ q, k = q + 1 := ⟨k - 1, by omega⟩
    have := h q (by omega)
    dsimp only at this ⊢
    simp only [selvageref13_Meant.f]
    exact this
  have key : ∀ j u, mkr code u = some j → Ev (fun m => selvageref13_Meant.f m code u) (mea code u) := by
    intro j
    induction j using Nat.strongRecOn with
    | ind j ih =>
      intro u hm
      obtain ⟨hj, m1, m2⟩ := (mkr_some t).1 hm
      obtain ⟨h6, v, hv⟩ := spr_parts m2
      rw [mea_some t hm hv]
      refine wrap u _ (meant_some t hL hm hv ?_ j 0 (by omega))
      cases hm2 : mkr code v with
      | none => rw [mea_none hm2]; exact wrap v _ (meant_none t hL hm2 code.length 0 (by omega))
      | some j2 =>
        obtain ⟨k, k1, k2, k3, k4⟩ := kw_made t j hj hv
        obtain ⟨q1, q2, q3⟩ := (mkr_some t).1 hm2
        have : j2 = k := t.uniq j2 k q1 (by omega) (spr_D q3) k3 (by rw [q2, k4])
        exact ih j2 (by omega) v hm2
  cases hm : mkr code u with
  | none => rw [mea_none hm]; exact wrap u _ (meant_none t hL hm code.length 0 (by omega))
  | some j => exact key j u hm
end
end Go.Proofs.Ytdmbnlpcfgphpaa.Q
namespace Go.Proofs.Ytdmbnlpcfgphpaa.Q
open Go.RowKit Go.Proofs.YtdmbnlpcfgphpaaW.PrintWords Go.Proofs.YtdmbnlpcfgphpaaW.PrintLast Go.Proofs.YtdmbnlpcfgphpaaW.PrintMore
set_option linter.unusedVariables false
set_option linter.unusedSimpArgs false
theorem wrap_nat {c : Nat} (h : c ≤ 1000) : wrap64 ((c : Int) + 1) = ((c + 1 : Nat) : Int) := by
  rw [wrap_of (by omega) (by omega)]; omega
section
variable {code : List S40}
theorem rag_l1 (t : Tr code) (hL : Lb code) {out : List S40} {i q : Nat} {x0 x1 x2 x3 x4 x5 x6 : Int} {v : List S40} (hi : i < code.length) (hq : q ≤ code.length) (ho : out.length ≤ 400) (H : Ev (fun m => selvageref13_Again.l0 m code (out ++ [⟨x0, x1, x2, x3, x4, x5, x6, (nsp code q : Int)⟩]) ((i + 1 : Nat) : Int)) v) : ∀ r k, q = k + r → Ev (fun m => selvageref13_Again.l1 m code out (i : Int) (nsp code k : Int) (k : Int) x0 x1 x2 x3 x4 x5 x6 (q : Int)) v
  | 0, k, h => by
    have h4 := t.n4
    obtain rfl : q = k := by omega
    obtain ⟨K, h1⟩ := H
    refine ⟨K + 1, fun k hk => ?_⟩
    obtain ⟨p, rfl⟩ : ∃ p, k = p + 1 := ⟨k - 1, by omega⟩
    have := h1 p (by omega)
    dsimp only at this ⊢
    simp only [selvageref13_Again.l1]
    rw [if_neg (by omega), if_pos (by omega), show wrap64 ((i : Int) + 1) = ((i + 1 : Nat) : Int) by rw [wrap_of (by omega) (by omega)]; omega]
    exact this
  | r + 1, k, h => by
    have h4 := t.n4
    have hk : k < code.length := by omega
    have hle := nsp_le code k
    have e3 := wrap_nat (show nsp code k ≤ 1000 by omega)
    have e1 := wrap_nat (show k ≤ 1000 by omega)
    obtain ⟨K1, h1⟩ := rspare_Ev t hL hk
    obtain ⟨K2, h2⟩ := rag_l1 t hL hi hq ho H r (k + 1) (by omega)
    refine ⟨K1 + K2 + 1, fun m hm => ?_⟩
    obtain ⟨p, rfl⟩ : ∃ p, m = p + 1 := ⟨m - 1, by omega⟩
    have hs := h1 p (by omega)
    have hr := h2 p (by omega)
    dsimp only at hs hr ⊢
    simp only [selvageref13_Again.l1]
    rw [if_pos (by omega), hs, Option.bind_some, e1]
    cases hsp : spr code k
    · rw [nsp_keep hsp] at hr
      rw [if_neg (by decide), e3]
      exact hr
    · rw [nsp_spr hsp] at hr
      rw [if_pos rfl]
      exact hr
theorem rag_j2 (t : Tr code) (hL : Lb code) {out : List S40} {i : Nat} (hi : i < code.length) (ho : out.length ≤ 400) {x : S40} (hx : x = ins code i) {A B : Int} {v : List S40} (H : Ev (fun m => selvageref13_Again.l0 m code (out ++ [⟨x.f0, x.f1, A, B, x.f4, x.f5, x.f6, if x.f7 = 0 then 0 else (nsp code x.f7.toNat : Int)⟩]) ((i + 1 : Nat) : Int)) v) : Ev (fun m => selvageref13_Again.j2 m code out (i : Int) x.f0 x.f1 A B x.f4 x.f5 x.f6 x.f7) v := by
  have h4 := t.n4
  obtain ⟨K1, h1⟩ := has_Ev x.f0 116 rfl
  have hT := t.tgt i hi
  have hN := t.noto i hi
  rw [← hx] at hT hN
  cases hu : usT x.f0
  · have h7 := hN hu
    rw [if_pos h7] at H
    obtain ⟨K2, h2⟩ := H
    refine ⟨K1 + K2 + 1, fun m hm => ?_⟩
    obtain ⟨p, rfl⟩ : ∃ p, m = p + 1 := ⟨m - 1, by omega⟩
    have hh := h1 p (by omega)
    have hr := h2 p (by omega)
    dsimp only at hh hr ⊢
    rw [hsv_t, hu] at hh
    simp only [selvageref13_Again.j2]
    rw [hh, Option.bind_some, if_neg (by decide), if_pos (by omega), show wrap64 ((i : Int) + 1) = ((i + 1 : Nat) : Int) by rw [wrap_of (by omega) (by omega)]; omega, h7]
    exact hr
  · have h7 := hT hu
    rw [if_neg (by omega)] at H
    obtain ⟨q, hq⟩ : ∃ q : Nat, x.f7 = (q : Int) := ⟨x.f7.toNat, by omega⟩
    rw [hq] at H h7 ⊢
    rw [Int.toNat_natCast] at H
    obtain ⟨K2, h2⟩ := rag_l1 t hL hi (by omega) ho H q 0 (by omega)
    refine ⟨K1 + K2 + 1, fun m hm => ?_⟩
    obtain ⟨p, rfl⟩ : ∃ p, m = p + 1 := ⟨m - 1, by omega⟩
    have hh := h1 p (by omega)
    have hr := h2 p (by omega)
    dsimp only at hh hr ⊢
    rw [hsv_t, hu] at hh
    simp only [selvageref13_Again.j2]
    rw [hh, Option.bind_some, if_pos rfl]
    exact hr
theorem rag_l0 (t : Tr code) (hL : Lb code) : ∀ r i, code.length = i + r → Ev (fun m => selvageref13_Again.l0 m code (outL code i) (i : Int)) (outL code code.length)
  | 0, i, h => by
    obtain rfl : i = code.length := by omega
    refine ⟨1, fun m hm => ?_⟩
    obtain ⟨p, rfl⟩ : ∃ p, m = p + 1 := ⟨m - 1, by omega⟩
    simp only [selvageref13_Again.l0]
    rw [if_neg (by omega)]
  | r + 1, i, h => by
    have h4 := t.n4
    have hi : i < code.length := by omega
    have hol := outL_len code i
    have hle := nsp_le code i
    have e2 : wrap64 ((i : Int) + 1) = ((i + 1 : Nat) : Int) := by rw [wrap_of (by omega) (by omega)]; omega
    obtain ⟨K1, h1⟩ := rspare_Ev t hL hi
    have ih := rag_l0 t hL r (i + 1) (by omega)
    cases hsp : spr code i
    · have ho := t.ok i hi
      have hO : outL code (i + 1) = outL code i ++ [agI code (ins code i)] := by conv => { lhs; unfold outL }; rw [hsp, if_neg (by decide)]
      have eA := agI_f2 (code := code) ho
      have eB := agI_f3 (code := code) ho
      have tA := t.tA i hi
      have tB := t.tB i hi
      have e1 : rd_T40 code (i : Int) = ins code i := rfl
      rw [hO] at ih
      have hag : agI code (ins code i) = ⟨(ins code i).f0, (ins code i).f1, (agI code (ins code i)).f2, (agI code (ins code i)).f3, (ins code i).f4, (ins code i).f5, (ins code i).f6, if (ins code i).f7 = 0 then 0 else (nsp code (ins code i).f7.toNat : Int)⟩ := rfl
      rw [hag] at ih
      obtain ⟨K2, h2⟩ := rag_j2 t hL hi (by omega) rfl ih
      obtain ⟨K3, h3⟩ := has_Ev (ins code i).f0 97 rfl
      obtain ⟨K4, h4'⟩ := has_Ev (ins code i).f0 98 rfl
      obtain ⟨K5, h5⟩ := meant_Ev t hL (ins code i).f2
      obtain ⟨K6, h6⟩ := meant_Ev t hL (ins code i).f3
      refine ⟨K1 + K2 + K3 + K4 + K5 + K6 + 2, fun m hm => ?_⟩
      obtain ⟨p, rfl⟩ : ∃ p, m = p + 2 := ⟨m - 2, by omega⟩
      have g1 := h1 (p + 1) (by omega)
      have g2 := h2 p (by omega)
      have g3 := h3 (p + 1) (by omega)
      have g4 := h4' p (by omega)
      have g5 := h5 (p + 1) (by omega)
      have g6 := h6 p (by omega)
      dsimp only at g1 g2 g3 g4 g5 g6 ⊢
      rw [hsv_a] at g3
      rw [hsv_b] at g4
      have hj : ∀ A, A = (agI code (ins code i)).f2 → selvageref13_Again.j1 (p + 1) code (outL code i) (i : Int) (ins code i).f0 (ins code i).f1 A (ins code i).f3 (ins code i).f4 (ins code i).f5 (ins code i).f6 (ins code i).f7 = some (outL code code.length) := fun A hA => by
        subst hA
        simp only [selvageref13_Again.j1]
        rw [g4, Option.bind_some]
        cases hb : usB (ins code i).f0
        · rw [hb] at eB tB
          rw [if_neg (by decide)]
          have : (ins code i).f3 = (agI code (ins code i)).f3 := by rw [eB]; simpa [tmp] using tB
          rw [this]
          exact g2
        · rw [hb, if_pos rfl] at eB
          rw [if_pos rfl, g6, Option.bind_some, ← eB]
          exact g2
      simp only [selvageref13_Again.l0]
      rw [if_pos (by omega), g1, Option.bind_some, hsp, if_neg (by decide), if_pos (by omega), e1, g3, Option.bind_some]
      cases ha : usA (ins code i).f0
      · rw [ha] at eA tA
        rw [if_neg (by decide)]
        exact hj _ (by rw [eA]; simpa [tmp] using tA)
      · rw [ha, if_pos rfl] at eA
        rw [if_pos rfl, g5, Option.bind_some]
        exact hj _ eA.symm
    · have hO : outL code (i + 1) = outL code i := by conv => { lhs; unfold outL }; rw [hsp, if_pos rfl]
      rw [hO] at ih
      obtain ⟨K2, h2⟩ := ih
      refine ⟨K1 + K2 + 1, fun m hm => ?_⟩
      obtain ⟨p, rfl⟩ : ∃ p, m = p + 1 := ⟨m - 1, by omega⟩
      have g1 := h1 p (by omega)
      have g2 := h2 p (by omega)
      dsimp only at g1 g2 ⊢
      simp only [selvageref13_Again.l0]
      rw [if_pos (by omega), g1, Option.bind_some, hsp, if_pos rfl, e2]
      exact g2
theorem rag_Ev (t : Tr code) (hL : Lb code) : Ev (fun m => selvageref13_Again.f m code) (outL code code.length) := rag_l0 t hL code.length 0 (by omega)
end
end Go.Proofs.Ytdmbnlpcfgphpaa.Q
namespace Go.Proofs.Ytdmbnlpcfgphpaa.Q
open Go.RowKit Go.Proofs.YtdmbnlpcfgphpaaW.PrintWords Go.Proofs.YtdmbnlpcfgphpaaW.PrintLast Go.Proofs.YtdmbnlpcfgphpaaW.PrintMore
set_option linter.unusedVariables false
set_option linter.unusedSimpArgs false
theorem stp_end (x : S40) (i : Int) (T s : List Int) (hok : okO x.f0 = true) (he : endsA x T = true) : (stp x i T s).fin ≠ 0 ∧ (stp x i T s).fin ≠ 4 ∧ (stp x i T s).new = [] := by
  obtain ⟨o, d, a, b, loc, len, kk, tt⟩ := x
  dsimp only at hok
  rcases op_cases hok with rfl | rfl | rfl | rfl | rfl | rfl | rfl | rfl | rfl | rfl | rfl | rfl | rfl | rfl | rfl | rfl | rfl | rfl <;> simp [endsA] at he
  · simp [stp, he, stGo]
  · have : outb ⟨13, d, a, b, loc, len, kk, tt⟩ T = true := by simpa [outb] using he
    simp [stp, this, stGo]
  · have : outb ⟨14, d, a, b, loc, len, kk, tt⟩ T = true := by simpa [outb] using he
    simp [stp, this, stGo]
  · simp [stp, stGo]
theorem stp_asks (x : S40) (i : Int) (T : List Int) (hok : okO x.f0 = true) (he : endsA x T = false) (ha : isAsk x.f0 = true) : (stp x i T []).fin = 4 ∧ (stp x i T []).new = [] ∧ ∀ y, (stp x i T [y]).next = tnxt x i T y ∧ (stp x i T [y]).T = tnew x T y ∧ ∃ a, (stp x i T [y]).new = [a] := by
  obtain ⟨o, d, a, b, loc, len, kk, tt⟩ := x
  dsimp only at hok ha
  rcases op_cases hok with rfl | rfl | rfl | rfl | rfl | rfl | rfl | rfl | rfl | rfl | rfl | rfl | rfl | rfl | rfl | rfl | rfl | rfl <;> simp [isAsk] at ha
  · simp [stp, stAsk, tnxt, tnew]
  · simp [stp, stAsk, tnxt, tnew]
  · simp [stp, stAsk, tnxt, tnew]
  · simp [stp, stAsk, tnxt, tnew]
  · refine ⟨rfl, rfl, fun y => ?_⟩
    by_cases hy : y = rd T a <;> simp [stp, stCas, tnxt, tnew, hy]
  · have : outb ⟨13, d, a, b, loc, len, kk, tt⟩ T = false := by simpa [endsA, outb] using he
    simp [stp, stAsk, tnxt, tnew, this]
theorem stp_rest (x : S40) (i : Int) (T : List Int) (hok : okO x.f0 = true) (he : endsA x T = false) (ha : isAsk x.f0 = false) : (stp x i T []).fin = 0 ∧ (stp x i T []).next = tnxt x i T 0 ∧ (stp x i T []).T = tnew x T 0 ∧ ∃ a, (stp x i T []).new = if isTell x.f0 = true then [a] else [] := by
  obtain ⟨o, d, a, b, loc, len, kk, tt⟩ := x
  dsimp only at hok ha
  rcases op_cases hok with rfl | rfl | rfl | rfl | rfl | rfl | rfl | rfl | rfl | rfl | rfl | rfl | rfl | rfl | rfl | rfl | rfl | rfl <;> simp [isAsk] at ha
  · simp [stp, stSet, tnxt, tnew, isTell]; exact ⟨⟨0, 0, 0, 0⟩, trivial⟩
  · simp [stp, stSet, tnxt, tnew, isTell]; exact ⟨⟨0, 0, 0, 0⟩, trivial⟩
  · simp [stp, stSet, tnxt, tnew, isTell]; exact ⟨⟨0, 0, 0, 0⟩, trivial⟩
  · simp [stp, stSet, tnxt, tnew, isTell]; exact ⟨⟨0, 0, 0, 0⟩, trivial⟩
  · have : ¬ rd T b = 0 := by simpa [endsA] using he
    simp [stp, stSet, tnxt, tnew, isTell, this]; exact ⟨⟨0, 0, 0, 0⟩, trivial⟩
  · simp [stp, stTell, tnxt, tnew, isTell]
  · simp [stp, stTell, tnxt, tnew, isTell]
  · have : outb ⟨14, d, a, b, loc, len, kk, tt⟩ T = false := by simpa [endsA, outb] using he
    simp [stp, stTell, tnxt, tnew, isTell, this]
  · simp [stp, stTell, tnxt, tnew, isTell]
  · by_cases hy : rd T a < rd T b <;> simp [stp, stGo, tnxt, tnew, isTell, hy] <;> exact ⟨⟨0, 0, 0, 0⟩, trivial⟩
  · by_cases hy : rd T a = rd T b <;> simp [stp, stGo, tnxt, tnew, isTell, hy] <;> exact ⟨⟨0, 0, 0, 0⟩, trivial⟩
  · simp [endsA] at he
end Go.Proofs.Ytdmbnlpcfgphpaa.Q
namespace Go.Proofs.Ytdmbnlpcfgphpaa.Q
open Go.RowKit Go.Proofs.YtdmbnlpcfgphpaaW.PrintWords Go.Proofs.YtdmbnlpcfgphpaaW.PrintLast Go.Proofs.YtdmbnlpcfgphpaaW.PrintMore
set_option linter.unusedVariables false
set_option linter.unusedSimpArgs false
section
variable {code : List S40}
theorem tr_ok (t : Tr code) {i : Nat} (hi : i < code.length) : trOk code (i : Int) = true := by
  have h1 := tmp_bd (t.tD i hi)
  have h2 := tmp_bd (t.tA i hi)
  have h3 := tmp_bd (t.tB i hi)
  simp only [trOk, Bool.and_eq_true, Bool.or_eq_true, decide_eq_true_eq, Bool.not_eq_true', Int.toNat_natCast]
  refine ⟨⟨⟨⟨⟨⟨by omega, by omega⟩, t.ok i hi⟩, h1⟩, h2⟩, h3⟩, ?_⟩
  cases hT : usT (ins code i).f0
  · exact .inl rfl
  · have := (t.tgt i hi hT).1
    exact .inr (by omega)
/-- From some number of rounds on the reference's words answer at all pieces. -/
theorem ev_all (t : Tr code) (hL : Lb code) : ∃ K, ∀ n, K ≤ n → ∀ i, i < code.length → selvageref13_Spare.f n code (i : Int) = some (spr code i) ∧ selvageref13_Known.f n code (i : Int) (ins code i).f4 = some ((kw code i (ins code i).f4).getD (-1)) := by
  have h : ∀ m, m ≤ code.length → ∃ K, ∀ n, K ≤ n → ∀ i, i < m → selvageref13_Spare.f n code (i : Int) = some (spr code i) ∧ selvageref13_Known.f n code (i : Int) (ins code i).f4 = some ((kw code i (ins code i).f4).getD (-1)) := by
    intro m
    induction m with
    | zero => exact fun _ => ⟨0, fun n _ i hi => absurd hi (by omega)⟩
    | succ m ih =>
      intro hm
      obtain ⟨K, hK⟩ := ih (by omega)
      obtain ⟨K1, h1⟩ := rspare_Ev t hL (i := m) (by omega)
      obtain ⟨K2, h2⟩ := known_Ev t hL m (by omega) (ins code m).f4
      refine ⟨K + K1 + K2, fun n hn i hi => ?_⟩
      by_cases he : i < m
      · exact hK n (by omega) i he
      · obtain rfl : i = m := by omega
        exact ⟨h1 n (by omega), h2 n (by omega)⟩
  exact h code.length (Nat.le_refl _)
theorem tnxt_in (t : Tr code) {i : Nat} (hi : i < code.length) {T : List Int} (he : endsA (ins code i) T = false) (old : Int) : ∃ c : Nat, tnxt (ins code i) (i : Int) T old = (c : Int) ∧ i < c ∧ c < code.length := by
  have h18 : (ins code i).f0 ≠ 18 := fun e => by simp [endsA, e] at he
  have h1 := t.nx i hi h18
  have h2 := t.tgt i hi
  have key : tnxt (ins code i) (i : Int) T old = (i : Int) + 1 ∨ (tnxt (ins code i) (i : Int) T old = (ins code i).f7 ∧ usT (ins code i).f0 = true) := by
    unfold tnxt
    by_cases a1 : (ins code i).f0 = 16
    · rw [if_pos a1]
      split
      · exact .inl rfl
      · exact .inr ⟨rfl, by rw [a1]; decide⟩
    · rw [if_neg a1]
      by_cases a2 : (ins code i).f0 = 17
      · rw [if_pos a2]
        split
        · exact .inl rfl
        · exact .inr ⟨rfl, by rw [a2]; decide⟩
      · rw [if_neg a2]
        by_cases a3 : (ins code i).f0 = 12
        · rw [if_pos a3]
          split
          · exact .inl rfl
          · exact .inr ⟨rfl, by rw [a3]; decide⟩
        · rw [if_neg a3]
          exact .inl rfl
  rcases key with e | ⟨e, hT⟩
  · exact ⟨i + 1, by rw [e]; omega, by omega, h1⟩
  · have := h2 hT
    exact ⟨(ins code i).f7.toNat, by rw [e]; omega, by omega, by omega⟩
/-- What a round of the trail is, of a piece of right code. -/
theorem trlO_st {n : Nat} {fill : Bool} (t : Tr code) {i : Nat} (hi : i < code.length) (f : Nat) (T ans ps ts : List Int) :
    (endsA (ins code i) T = true → trlO n code fill (f + 1) (i : Int) T ans ps ts = some (ps, ts ++ ans)) ∧
    (endsA (ins code i) T = false → isAsk (ins code i).f0 = false → trlO n code fill (f + 1) (i : Int) T ans ps ts = trlO n code fill f (tnxt (ins code i) (i : Int) T 0) (tnew (ins code i) T 0) ans (if isTell (ins code i).f0 = true then ps ++ [(i : Int)] else ps) ts) ∧
    (endsA (ins code i) T = false → isAsk (ins code i).f0 = true → spO n code (i : Int) fill = some false → trlO n code fill (f + 1) (i : Int) T [] ps ts = some (ps, ts) ∧ ∀ y s, trlO n code fill (f + 1) (i : Int) T (y :: s) ps ts = trlO n code fill f (tnxt (ins code i) (i : Int) T y) (tnew (ins code i) T y) s (ps ++ [(i : Int)]) (ts ++ [y])) ∧
    (endsA (ins code i) T = false → isAsk (ins code i).f0 = true → spO n code (i : Int) fill = some true → ∀ kv, selvageref13_Known.f n code (i : Int) (ins code i).f4 = some kv → 0 ≤ kv → kv < 400 → trlO n code fill (f + 1) (i : Int) T ans ps ts = trlO n code fill f (tnxt (ins code i) (i : Int) T (rd T kv)) (tnew (ins code i) T (rd T kv)) ans (ps ++ [(i : Int)]) (ts ++ [rd T kv])) := by
  have ok := tr_ok t hi
  refine ⟨fun h => ?_, fun h ha => ?_, fun h ha hs => ⟨?_, fun y s => ?_⟩, fun h ha hs kv hk h0 h1 => ?_⟩
  · conv => lhs; unfold trlO
    rw [if_pos ok, Int.toNat_natCast, if_pos h]
  · conv => lhs; unfold trlO
    rw [if_pos ok, Int.toNat_natCast, if_neg (by rw [h]; decide), if_neg (by rw [ha]; decide)]
  · unfold trlO
    rw [if_pos ok, Int.toNat_natCast, if_neg (by rw [h]; decide), if_pos ha, hs, Option.bind_some, if_neg (by decide)]
  · conv => lhs; unfold trlO
    rw [if_pos ok, Int.toNat_natCast, if_neg (by rw [h]; decide), if_pos ha, hs, Option.bind_some, if_neg (by decide)]
  · conv => lhs; unfold trlO
    rw [if_pos ok, Int.toNat_natCast, if_neg (by rw [h]; decide), if_pos ha, hs, Option.bind_some, if_pos rfl, hk, Option.bind_some, if_pos ⟨h0, h1⟩]
/-- Without filling: the pieces of a run's acts. -/
theorem trl_false {n : Nat} (t : Tr code) (hK : ∀ i, i < code.length → selvageref13_Spare.f n code (i : Int) = some (spr code i)) : ∀ (f i : Nat) (T ans ps ts : List Int), i < code.length → code.length - i ≤ f → ∃ ts', trlO n code false f (i : Int) T ans ps ts = some (ps ++ (runG code f (i : Int) T ans).1.map (fun p => (p.1 : Int)), ts')
  | 0, i, T, ans, ps, ts, hi, hf => absurd hf (by omega)
  | f + 1, i, T, ans, ps, ts, hi, hf => by
    obtain ⟨e1, e2, e3, -⟩ := @trlO_st code n false t i hi f T ans ps ts
    have ok := t.ok i hi
    have hs : spO n code (i : Int) false = some false := by unfold spO; rw [hK i hi]; rfl
    have tg : ∀ a : S47, ([a].map fun a => (i, a)).map (fun p : Nat × S47 => (p.1 : Int)) = [(i : Int)] := fun a => rfl
    cases he : endsA (ins code i) T
    · cases ha : isAsk (ins code i).f0
      · obtain ⟨c1, c2, c3⟩ := tnxt_in t hi he 0
        obtain ⟨b1, b2, b3, a, b4⟩ := stp_rest (ins code i) (i : Int) T ok he ha
        have g1 := (@runG_st code f i T ans _ (stp_go2 (ins code i) (i : Int) T ans (by omega))).1 b1
        rw [e2 he ha, g1]
        dsimp only
        rw [b2, b3, b4, c2]
        obtain ⟨ts', h⟩ := trl_false t hK f c1 (tnew (ins code i) T 0) ans (if isTell (ins code i).f0 = true then ps ++ [(i : Int)] else ps) ts c3.2 (by omega)
        refine ⟨ts', h.trans ?_⟩
        cases hb : isTell (ins code i).f0 <;> simp
      · obtain ⟨b1, b2, b3⟩ := stp_asks (ins code i) (i : Int) T ok he ha
        obtain ⟨d1, d2⟩ := e3 he ha hs
        cases ans with
        | nil =>
          have g1 := (@runG_st code f i T [] _ rfl).2 (by omega)
          rw [d1, g1, b2]
          exact ⟨ts, by simp⟩
        | cons y s =>
          obtain ⟨c, c2, c3⟩ := tnxt_in t hi he y
          obtain ⟨b4, b5, a, b6⟩ := b3 y
          have g1 := (@runG_st code f i T (y :: s) _ (stp_ask2 (ins code i) (i : Int) T y s b1)).1 rfl
          rw [d2, g1]
          dsimp only
          rw [b4, b5, b6, c2]
          obtain ⟨ts', h⟩ := trl_false t hK f c (tnew (ins code i) T y) s (ps ++ [(i : Int)]) (ts ++ [y]) c3.2 (by omega)
          exact ⟨ts', h.trans (by simp)⟩
    · obtain ⟨b1, b2, b3⟩ := stp_end (ins code i) (i : Int) T ans ok he
      have g1 := (@runG_st code f i T ans _ rfl).2 b1
      rw [e1 he, g1, b3]
      exact ⟨ts ++ ans, by simp⟩
/-- What a spare piece is told: the number of the temp that it knows is that of the one that stands for its own. -/
theorem kw_meant (t : Tr code) {i : Nat} {T U : List Int} (S : Sm code i T U) (hi : i < code.length) (hs : spr code i = true) : ∃ kv, kw code i (ins code i).f4 = some kv ∧ (0 ≤ kv ∧ kv < 400) ∧ rd T kv = rd T (mea code (ins code i).f1) := by
  obtain ⟨-, kv, hkv⟩ := spr_parts hs
  obtain ⟨k, k1, k2, k3, k4⟩ := kw_made t i hi hkv
  refine ⟨kv, hkv, kw_bd t hi hkv, ?_⟩
  have h1 := S.a k (by omega) k2 (by omega) k3
  rw [k4] at h1
  rw [mea_some t ((mkr_some t).2 ⟨hi, rfl, hs⟩) hkv, h1]
/-- With filling: the full answers. -/
theorem trl_true {l : List S80} (hR : right code l = true) {n : Nat} (hK : ∀ i, i < code.length → selvageref13_Spare.f n code (i : Int) = some (spr code i) ∧ selvageref13_Known.f n code (i : Int) (ins code i).f4 = some ((kw code i (ins code i).f4).getD (-1))) : ∀ (f i : Nat) (T U ans ps ts : List Int), i < code.length → code.length - i ≤ f → Sm code i T U → ∃ ps', trlO n code true f (i : Int) T ans ps ts = some (ps', ts ++ trF code f (i : Int) T ans)
  | 0, i, T, U, ans, ps, ts, hi, hf, _ => absurd hf (by omega)
  | f + 1, i, T, U, ans, ps, ts, hi, hf, S => by
    have t := tr_of hR
    obtain ⟨e1, e2, e3, e4⟩ := @trlO_st code n true t i hi f T ans ps ts
    have ok := t.ok i hi
    have hsp : spO n code (i : Int) true = some (spr code i) := by unfold spO; rw [(hK i hi).1]; simp
    cases he : endsA (ins code i) T
    · cases ha : isAsk (ins code i).f0
      · obtain ⟨c1, c2, c3⟩ := tnxt_in t hi he 0
        obtain ⟨b1, b2, b3, a, b4⟩ := stp_rest (ins code i) (i : Int) T ok he ha
        have ki : spr code i = false := by
          cases hs : spr code i
          · rfl
          · rw [(spr_parts hs).1] at ha; cases ha
        obtain ⟨c, m1, m2, m3, m4, S2⟩ := (stp_sim hR hi ki S []).2.2 b1
        rw [e2 he ha, c2]
        rw [b2, c2] at m1
        have hcc : c = c1 := by omega
        subst hcc
        rw [b3] at S2
        obtain ⟨ps', h⟩ := trl_true hR hK f c (tnew (ins code i) T 0) _ ans (if isTell (ins code i).f0 = true then ps ++ [(i : Int)] else ps) ts m3 (by omega) S2
        refine ⟨ps', h.trans ?_⟩
        conv => rhs; unfold trF
        rw [Int.toNat_natCast, if_neg (by omega), if_pos b1, b2, b3, c2]
      · obtain ⟨b1, b2, b3⟩ := stp_asks (ins code i) (i : Int) T ok he ha
        cases hs : spr code i
        · rw [hs] at hsp
          obtain ⟨d1, d2⟩ := e3 he ha hsp
          cases ans with
          | nil =>
            rw [d1]
            unfold trF
            rw [Int.toNat_natCast, if_pos b1, hs, if_neg (by decide)]
            exact ⟨ps, by simp⟩
          | cons y s =>
            obtain ⟨c1, c2, c3⟩ := tnxt_in t hi he y
            obtain ⟨b4, b5, a, b6⟩ := b3 y
            obtain ⟨c, m1, m2, m3, m4, S2⟩ := (stp_sim hR hi hs S [y]).2.2 (stp_ask1 _ _ _ _ b1).1
            rw [d2, c2]
            rw [b4, c2] at m1
            have hcc : c = c1 := by omega
            subst hcc
            rw [b5] at S2
            obtain ⟨ps', h⟩ := trl_true hR hK f c (tnew (ins code i) T y) _ s (ps ++ [(i : Int)]) (ts ++ [y]) m3 (by omega) S2
            refine ⟨ps', h.trans ?_⟩
            conv => rhs; unfold trF
            rw [Int.toNat_natCast, if_pos b1, hs, if_neg (by decide)]
            dsimp only
            rw [b4, b5, c2]
            simp
        · rw [hs] at hsp
          obtain ⟨kv, k1, k2, k3⟩ := kw_meant t S hi hs
          have hkn := (hK i hi).2
          rw [k1] at hkn
          have d2 := e4 he ha hsp kv hkn k2.1 k2.2
          obtain ⟨h6, -⟩ := spr_parts hs
          have hi1 := t.nx i hi (by rw [h6]; decide)
          obtain ⟨-, s2⟩ := stp_6 (ins code i) (i : Int) T h6
          have n1 : tnxt (ins code i) (i : Int) T (rd T kv) = ((i + 1 : Nat) : Int) := by
            have := (b3 (rd T kv)).1
            rw [s2] at this
            rw [← this]
            simp
          have n2 : tnew (ins code i) T (rd T kv) = T.set (ins code i).f1.toNat (rd T (mea code (ins code i).f1)) := by
            have := (b3 (rd T kv)).2.1
            rw [s2] at this
            rw [← this, k3]
          rw [d2, n1, n2]
          obtain ⟨ps', h⟩ := trl_true hR hK f (i + 1) _ _ ans (ps ++ [(i : Int)]) (ts ++ [rd T kv]) hi1 (by omega) (S.spare t hi hs)
          refine ⟨ps', h.trans ?_⟩
          conv => rhs; unfold trF
          rw [Int.toNat_natCast, if_pos b1, if_pos hs, s2, k3]
          simp
    · obtain ⟨b1, b2, b3⟩ := stp_end (ins code i) (i : Int) T [] ok he
      rw [e1 he]
      unfold trF
      rw [Int.toNat_natCast, if_neg b2, if_neg b1]
      exact ⟨ps, rfl⟩
end
end Go.Proofs.Ytdmbnlpcfgphpaa.Q
namespace Go.Proofs.Ytdmbnlpcfgphpaa.Q
open Go.RowKit Go.Proofs.YtdmbnlpcfgphpaaW.PrintWords Go.Proofs.YtdmbnlpcfgphpaaW.PrintLast Go.Proofs.YtdmbnlpcfgphpaaW.PrintMore
set_option linter.unusedVariables false
set_option linter.unusedSimpArgs false
set_option maxRecDepth 100000 in
theorem awake13_10 : selvagelaw13_awake.f 10 = some true := by kernel_rfl
theorem awake13_ev (k : Nat) (hk : 10 ≤ k) : selvagelaw13_awake.f k = some true := at_rounds selvagelaw13_awake.mono hk awake13_10
theorem nums13_l0 (l : List Int) (hl : l.length ≤ 100000) : ∀ (r i k : Nat), l.length = i + r → r < k → selvageref08_SameNums.l0 k l l (i : Int) = some true
  | 0, i, k + 1, h, _ => by
    simp only [selvageref08_SameNums.l0]
    rw [if_neg (by omega)]
  | r + 1, i, k + 1, h, hk => by
    simp only [selvageref08_SameNums.l0]
    rw [if_pos (by omega), if_pos (by omega), if_pos (by omega), show wrap64 ((i : Int) + 1) = ((i + 1 : Nat) : Int) by rw [wrap_of (by omega) (by omega)]; omega]
    simp only [if_true]
    exact nums13_l0 l hl r (i + 1) k (by omega) (by omega)
theorem nums13_self (l : List Int) (hl : l.length ≤ 100000) (k : Nat) (hk : l.length < k) : selvageref08_SameNums.f k l l = some true := by
  unfold selvageref08_SameNums.f
  rw [if_pos rfl]
  exact nums13_l0 l hl l.length 0 k (by omega) hk
theorem trF_len (code : List S40) : ∀ (f : Nat) (i : Int) (T ans : List Int), (trF code f i T ans).length ≤ f + ans.length
  | 0, i, T, ans => by simp [trF]
  | f + 1, i, T, ans => by
    unfold trF
    split
    · split
      · have := trF_len code f (stp (ins code i.toNat) i T [rd T (mea code (ins code i.toNat).f1)]).next (stp (ins code i.toNat) i T [rd T (mea code (ins code i.toNat).f1)]).T ans
        rw [List.length_cons]
        omega
      · cases ans with
        | nil => simp
        | cons y s =>
          have := trF_len code f (stp (ins code i.toNat) i T [y]).next (stp (ins code i.toNat) i T [y]).T s
          simp only [List.length_cons]
          omega
    · split
      · have := trF_len code f (stp (ins code i.toNat) i T []).next (stp (ins code i.toNat) i T []).T ans
        omega
      · omega
/-- More fuel changes nothing. -/
theorem runG_fuel {code : List S40} {l : List S80} (hR : right code l = true) : ∀ (f g i : Nat) (T ans : List Int), i < code.length → code.length - i ≤ f → code.length - i ≤ g → runG code f (i : Int) T ans = runG code g (i : Int) T ans
  | 0, _, i, _, _, hi, hf, _ => absurd hf (by omega)
  | _ + 1, 0, i, _, _, hi, _, hg => absurd hg (by omega)
  | f + 1, g + 1, i, T, ans, hi, hf, hg => by
    obtain ⟨hn1, hn2, h18, hchk, -⟩ := right_parts hR
    have hN := next_in hn2 h18 hi (hchk i hi) T ans
    obtain ⟨g0, g1⟩ := @runG_st code f i T ans _ rfl
    obtain ⟨k0, k1⟩ := @runG_st code g i T ans _ rfl
    by_cases h0 : (stp (ins code i) (i : Int) T ans).fin = 0
    · obtain ⟨n1, n2⟩ := hN h0
      obtain ⟨j, hj⟩ : ∃ j : Nat, (stp (ins code i) (i : Int) T ans).next = (j : Int) := ⟨(stp (ins code i) (i : Int) T ans).next.toNat, by omega⟩
      rw [g0 h0, k0 h0, hj, runG_fuel hR f g j _ _ (by omega) (by omega) (by omega)]
    · rw [g1 h0, k1 h0]
theorem trF_fuel {code : List S40} {l : List S80} (hR : right code l = true) : ∀ (f g i : Nat) (T ans : List Int), i < code.length → code.length - i ≤ f → code.length - i ≤ g → trF code f (i : Int) T ans = trF code g (i : Int) T ans
  | 0, _, i, _, _, hi, hf, _ => absurd hf (by omega)
  | _ + 1, 0, i, _, _, hi, _, hg => absurd hg (by omega)
  | f + 1, g + 1, i, T, ans, hi, hf, hg => by
    obtain ⟨hn1, hn2, h18, hchk, -⟩ := right_parts hR
    have step : ∀ (a : List Int), (stp (ins code i) (i : Int) T a).fin = 0 → ∀ U s, trF code f (stp (ins code i) (i : Int) T a).next U s = trF code g (stp (ins code i) (i : Int) T a).next U s := fun a h0 U s => by
      obtain ⟨n1, n2⟩ := next_in hn2 h18 hi (hchk i hi) T a h0
      obtain ⟨j, hj⟩ : ∃ j : Nat, (stp (ins code i) (i : Int) T a).next = (j : Int) := ⟨(stp (ins code i) (i : Int) T a).next.toNat, by omega⟩
      rw [hj]
      exact trF_fuel hR f g j _ _ (by omega) (by omega) (by omega)
    unfold trF
    rw [Int.toNat_natCast]
    by_cases h4 : (stp (ins code i) (i : Int) T []).fin = 4
    · rw [if_pos h4, if_pos h4]
      by_cases hs : spr code i = true
      · rw [if_pos hs, if_pos hs, step _ (stp_ask1 _ _ _ _ h4).1]
      · rw [if_neg hs, if_neg hs]
        cases ans with
        | nil => rfl
        | cons y s => dsimp only; rw [step _ (stp_ask1 _ _ _ _ h4).1]
    · rw [if_neg h4, if_neg h4]
      by_cases h0 : (stp (ins code i) (i : Int) T []).fin = 0
      · rw [if_pos h0, if_pos h0, step _ h0]
      · rw [if_neg h0, if_neg h0]
end Go.Proofs.Ytdmbnlpcfgphpaa.Q
namespace Go.Proofs.Ytdmbnlpcfgphpaa.Q
open Go.RowKit Go.Proofs.YtdmbnlpcfgphpaaW.PrintWords Go.Proofs.YtdmbnlpcfgphpaaW.PrintLast Go.Proofs.YtdmbnlpcfgphpaaW.PrintMore
set_option linter.unusedVariables false
set_option linter.unusedSimpArgs false
/-- A slice that a call has made, as its caller reads it. -/
theorem fresh_C {α : Type} {d : Kd α} {e base n : Nat} {W : World} {ok : Nat → Prop} {v : Value} {xs : List α} (h : d.R e W base ok v xs) (hn : xs.length = n) : ∃ B cB, v = .slice B n cB ∧ n ≤ cB ∧ d.C W B xs.length xs := by
  subst hn
  obtain ⟨B, cB, rfl⟩ := Kd.R_slice h
  obtain ⟨-, h2, h3⟩ := Kd.R_reads' h
  exact ⟨B, cB, rfl, h2, h3⟩
/-- What the law has in hand: the copy, the marks, the code that is left, the full answers. -/
structure AlS (w W : World) (B7 : Option Addr) (l7 : List S40) (B8 : Option Addr) (l8 : List Bool) (B10 : Option Addr) (l10 : List S40) (B12 : Option Addr) (l12 : List Int) : Prop where
  HB : Below w.heap.size w W
  C7 : Kd.C k40 W B7 l7.length l7
  C8 : Kd.C Kd.bool W B8 l8.length l8
  C10 : Kd.C k40 W B10 l10.length l10
  C12 : (Kd.int .i64).C W B12 l12.length l12
section
variable {w W W' : World} {B7 B8 B10 B12 : Option Addr} {l7 l10 : List S40} {l8 : List Bool} {l12 : List Int}
theorem AlS.below (S : AlS w W B7 l7 B8 l8 B10 l10 B12 l12) (hb : Below W.heap.size W W') : AlS w W' B7 l7 B8 l8 B10 l10 B12 l12 :=
  ⟨below_step S.HB hb, Kd.C_below S.C7 hb, Kd.C_below S.C8 hb, Kd.C_below S.C10 hb, Kd.C_below S.C12 hb⟩
theorem AlS.start (w : World) : AlS w w none [] none [] none [] none [] :=
  ⟨Below.refl _ _, (Kd.R_reads' (Kd.R_nil k40 40 w 0 (fun _ => True))).2.2, (Kd.R_reads' (Kd.R_nil Kd.bool 4 w 0 (fun _ => True))).2.2, (Kd.R_reads' (Kd.R_nil k40 40 w 0 (fun _ => True))).2.2, (Kd.R_reads' (Kd.R_nil (Kd.int .i64) 2 w 0 (fun _ => True))).2.2⟩
end
section
variable {A : Option Addr} {c : Nat} {code : List S40} {Al : Option Addr} {cl : Nat} {l : List S80} {An : Option Addr} {cn : Nat} {answers : List Int} {w : World} {sp : List Bool} {out : List S40} {fu ps : List Int} {err : Int} {b : Bool}
theorem at_boolA {w : World} {A : Option Addr} {xs : List Bool} (h : Kd.C Kd.bool w A xs.length xs) (i : Nat) (hi : i < xs.length) : ∃ ad, A = some ad ∧ w.cell? (ad.add i) = some (.bool (xs.getD i false)) := by
  obtain ⟨ad, c, e, _, hK, hc0⟩ := Kd.C_get h false (i : Int) (by omega) (by omega)
  obtain rfl := hK
  refine ⟨ad, e, ?_⟩
  have h0 := hc0 0 _ rfl
  rw [show Kd.bool.sz = 1 from rfl, Nat.mul_one, Nat.add_zero, Int.toNat_natCast] at h0
  exact h0
/-- The contracts of what the law calls ahead of its loop. -/
structure AlH (A : Option Addr) (c : Nat) (code : List S40) (Al : Option Addr) (cl : Nat) (l : List S80) (An : Option Addr) (cn : Nat) (answers : List Int) (w : World) (sp : List Bool) (out : List S40) (fu : List Int) (err : Int) (b : Bool) : Prop where
  h24 : ∀ W, Calls Try.prog 24 #[] W fun e w' => e = .returned (.bool true) ∧ Below W.heap.size W w'
  h12 : ∀ W, Below w.heap.size w W → Calls Try.prog 12 #[.slice A code.length c] W fun e w' => ∃ v, e = .returned v ∧ Kd.R k40 40 w' W.heap.size (fun _ => True) v code ∧ Below W.heap.size W w'
  h25 : ∀ W B cB, Below w.heap.size w W → Kd.C k40 W B code.length code → code.length ≤ cB → Calls Try.prog 25 #[.slice B code.length cB, .slice Al l.length cl] W fun e w' => ∃ v, e = .returned (.tuple #[v, .int .i64 err]) ∧ Kd.R Kd.bool 4 w' W.heap.size (fun _ => True) v sp ∧ Below W.heap.size W w'
  h26 : ∀ W B cB, Below w.heap.size w W → Kd.C k40 W B code.length code → code.length ≤ cB → Calls Try.prog 26 #[.slice B code.length cB, .slice Al l.length cl] W fun e w' => ∃ v, e = .returned (.tuple #[v, .int .i64 err]) ∧ Kd.R k40 40 w' W.heap.size (fun _ => True) v out ∧ Below W.heap.size W w'
  h27 : ∀ W B cB, Below w.heap.size w W → Kd.C k40 W B code.length code → code.length ≤ cB → Calls Try.prog 27 #[.slice B code.length cB, .slice Al l.length cl, .slice An answers.length cn] W fun e w' => ∃ v, e = .returned (.tuple #[v, .int .i64 err]) ∧ Kd.R (Kd.int .i64) 2 w' W.heap.size (fun _ => True) v fu ∧ Below W.heap.size W w'
  h14 : ∀ W, Below w.heap.size w W → Calls Try.prog 14 #[.slice A code.length c, .slice Al l.length cl] W fun e w' => e = .returned (.bool b) ∧ Below W.heap.size W w'
set_option maxHeartbeats 8000000 in
set_option maxRecDepth 100000 in
theorem all_wrong (H : AlH A c code Al cl l An cn answers w [] [] [] 3 false) (h1 : code.length ≤ 60) (h2 : l.length ≤ 16) (h3 : answers.length ≤ 100) :
    Calls Try.prog 7 #[.slice A code.length c, .slice Al l.length cl, .slice An answers.length cn] w fun e w' => e = .returned (.bool true) ∧ Below w.heap.size w w' := by
  have HH := Aside0.mk H
  clear H
  have hcode : code.length ≤ 60 := h1
  have c1 : decide ((60 : Int) < (code.length : Int)) = false := decide_eq_false (by omega)
  have c1' : decide (60 < code.length) = false := decide_eq_false (by omega)
  have c2 : decide ((16 : Int) < (l.length : Int)) = false := decide_eq_false (by omega)
  have c2' : decide (16 < l.length) = false := decide_eq_false (by omega)
  have c3 : decide ((100 : Int) < (answers.length : Int)) = false := decide_eq_false (by omega)
  have c3' : decide (100 < answers.length) = false := decide_eq_false (by omega)
  have S0 := Aside0.mk (AlS.start w)
  go_enter Try.func7, Try.ntmps7
  go_wp2_with (first | (go_at_call 24; refine (HH.out.h24 _).mono ?_; rintro e w1 ⟨rfl, hb⟩; have S1 := Aside0.mk (S0.out.below hb); clear hb) | (go_at_call 12; refine (HH.out.h12 _ S1.out.HB).mono ?_; rintro e w2 ⟨v, rfl, hR, hb⟩; obtain ⟨B7, c7, rfl, hn7, hC⟩ := fresh_C hR rfl; have N7 := Aside0.mk hn7; have S2 : Aside0 (AlS w w2 B7 code none [] none [] none []) := ⟨⟨(S1.out.below hb).HB, hC, (S1.out.below hb).C8, (S1.out.below hb).C10, (S1.out.below hb).C12⟩⟩; clear hb hR hC hn7) | (go_at_call 25; refine (HH.out.h25 _ _ _ S2.out.HB S2.out.C7 N7.out).mono ?_; rintro e w3 ⟨v, rfl, hR, hb⟩; obtain ⟨B8, c8, rfl, hn8, hC⟩ := fresh_C hR rfl; have N8 := Aside0.mk hn8; have S3 : Aside0 (AlS w w3 B7 code B8 [] none [] none []) := ⟨⟨(S2.out.below hb).HB, (S2.out.below hb).C7, hC, (S2.out.below hb).C10, (S2.out.below hb).C12⟩⟩; clear hb hR hC hn8) | (go_at_call 26; refine (HH.out.h26 _ _ _ S3.out.HB S3.out.C7 N7.out).mono ?_; rintro e w4 ⟨v, rfl, hR, hb⟩; obtain ⟨B10, c10, rfl, hn10, hC⟩ := fresh_C hR rfl; have N10 := Aside0.mk hn10; have S4 : Aside0 (AlS w w4 B7 code B8 [] B10 [] none []) := ⟨⟨(S3.out.below hb).HB, (S3.out.below hb).C7, (S3.out.below hb).C8, hC, (S3.out.below hb).C12⟩⟩; clear hb hR hC hn10) | (go_at_call 27; refine (HH.out.h27 _ _ _ S4.out.HB S4.out.C7 N7.out).mono ?_; rintro e w5 ⟨v, rfl, hR, hb⟩; obtain ⟨B12, c12, rfl, hn12, hC⟩ := fresh_C hR rfl; have N12 := Aside0.mk hn12; have S5 : Aside0 (AlS w w5 B7 code B8 [] B10 [] B12 []) := ⟨⟨(S4.out.below hb).HB, (S4.out.below hb).C7, (S4.out.below hb).C8, (S4.out.below hb).C10, hC⟩⟩; clear hb hR hC hn12) | (go_at_call 14; refine (HH.out.h14 _ S5.out.HB).mono ?_; rintro e w6 ⟨rfl, hb⟩; have S6 := Aside0.mk (S5.out.below hb); clear hb))
  go_ret
  exact ⟨rfl, S6.out.HB⟩
/-- The contracts of what it calls from its loop on. -/
structure AlK (A : Option Addr) (c : Nat) (code : List S40) (An : Option Addr) (cn : Nat) (answers : List Int) (w : World) (sp : List Bool) (out : List S40) (ps fu : List Int) : Prop where
  k18 : ∀ W B1 k1 B2 k2 (xs : List S40), xs.length ≤ 400 → Kd.C k40 W B1 xs.length xs → xs.length ≤ k1 → Kd.C k40 W B2 xs.length xs → xs.length ≤ k2 → Calls Try.prog 18 #[.slice B1 xs.length k1, .slice B2 xs.length k2] W fun e w' => e = .returned (.bool true) ∧ Below W.heap.size W w'
  k22 : ∀ W B1 k1 B2 k2 (xs : List Int), xs.length ≤ 400 → (Kd.int .i64).C W B1 xs.length xs → xs.length ≤ k1 → (Kd.int .i64).C W B2 xs.length xs → xs.length ≤ k2 → Calls Try.prog 22 #[.slice B1 xs.length k1, .slice B2 xs.length k2] W fun e w' => e = .returned (.bool true) ∧ Below W.heap.size W w'
  k28 : ∀ W (i : Nat), i < code.length → Below w.heap.size w W → Calls Try.prog 28 #[.slice A code.length c, .int .i64 (i : Int)] W fun e w' => e = .returned (.bool (sp.getD i false)) ∧ Below W.heap.size W w'
  k29 : ∀ W, Below w.heap.size w W → Calls Try.prog 29 #[.slice A code.length c, .slice An answers.length cn, .bool true] W fun e w' => ∃ v0_ v1_ : Value, e = .returned (.tuple #[v0_, v1_]) ∧ Kd.R (Kd.int .i64) 3 w' W.heap.size (fun _ => True) v0_ ps ∧ Kd.R (Kd.int .i64) 2 w' W.heap.size (fun _ => True) v1_ fu ∧ Below W.heap.size W w'
  k30 : ∀ W, Below w.heap.size w W → Calls Try.prog 30 #[.slice A code.length c] W fun e w' => ∃ v, e = .returned v ∧ Kd.R k40 40 w' W.heap.size (fun _ => True) v out ∧ Below W.heap.size W w'
set_option maxHeartbeats 8000000 in
set_option maxRecDepth 100000 in
theorem all_right (hr : Kd.C k40 w A code.length code) (hc : code.length ≤ c) (H : AlH A c code Al cl l An cn answers w sp out fu 0 true) (K : AlK A c code An cn answers w sp out ps fu) (hsp : sp.length = code.length) (hout : out.length ≤ 400) (hfu : fu.length ≤ 400) (h1 : code.length ≤ 60) (h2 : l.length ≤ 16) (h3 : answers.length ≤ 100) :
    Calls Try.prog 7 #[.slice A code.length c, .slice Al l.length cl, .slice An answers.length cn] w fun e w' => e = .returned (.bool true) ∧ Below w.heap.size w w' := by
  have HH := Aside0.mk H
  clear H
  have hcode : code.length ≤ 60 := h1
  have c1 : decide ((60 : Int) < (code.length : Int)) = false := decide_eq_false (by omega)
  have c1' : decide (60 < code.length) = false := decide_eq_false (by omega)
  have c2 : decide ((16 : Int) < (l.length : Int)) = false := decide_eq_false (by omega)
  have c2' : decide (16 < l.length) = false := decide_eq_false (by omega)
  have c3 : decide ((100 : Int) < (answers.length : Int)) = false := decide_eq_false (by omega)
  have c3' : decide (100 < answers.length) = false := decide_eq_false (by omega)
  have S0 := Aside0.mk (AlS.start w)
  have KK := Aside0.mk K
  have HC := Aside0.mk hr
  have HCc := Aside0.mk hc
  clear hr hc
  have HSP := Aside0.mk hsp
  clear K hsp
  go_enter Try.func7, Try.ntmps7
  go_wp2_with (first | (go_at_call 24; refine (HH.out.h24 _).mono ?_; rintro e w1 ⟨rfl, hb⟩; have S1 := Aside0.mk (S0.out.below hb); clear hb) | (go_at_call 12; refine (HH.out.h12 _ S1.out.HB).mono ?_; rintro e w2 ⟨v, rfl, hR, hb⟩; obtain ⟨B7, c7, rfl, hn7, hC⟩ := fresh_C hR rfl; have N7 := Aside0.mk hn7; have S2 : Aside0 (AlS w w2 B7 code none [] none [] none []) := ⟨⟨(S1.out.below hb).HB, hC, (S1.out.below hb).C8, (S1.out.below hb).C10, (S1.out.below hb).C12⟩⟩; clear hb hR hC hn7) | (go_at_call 25; refine (HH.out.h25 _ _ _ S2.out.HB S2.out.C7 N7.out).mono ?_; rintro e w3 ⟨v, rfl, hR, hb⟩; obtain ⟨B8, c8, rfl, hn8, hC⟩ := fresh_C hR HSP.out; have N8 := Aside0.mk hn8; have S3 : Aside0 (AlS w w3 B7 code B8 sp none [] none []) := ⟨⟨(S2.out.below hb).HB, (S2.out.below hb).C7, hC, (S2.out.below hb).C10, (S2.out.below hb).C12⟩⟩; clear hb hR hC hn8) | (go_at_call 26; refine (HH.out.h26 _ _ _ S3.out.HB S3.out.C7 N7.out).mono ?_; rintro e w4 ⟨v, rfl, hR, hb⟩; obtain ⟨B10, c10, rfl, hn10, hC⟩ := fresh_C hR rfl; have N10 := Aside0.mk hn10; have S4 : Aside0 (AlS w w4 B7 code B8 sp B10 out none []) := ⟨⟨(S3.out.below hb).HB, (S3.out.below hb).C7, (S3.out.below hb).C8, hC, (S3.out.below hb).C12⟩⟩; clear hb hR hC hn10) | (go_at_call 27; refine (HH.out.h27 _ _ _ S4.out.HB S4.out.C7 N7.out).mono ?_; rintro e w5 ⟨v, rfl, hR, hb⟩; obtain ⟨B12, c12, rfl, hn12, hC⟩ := fresh_C hR rfl; have N12 := Aside0.mk hn12; have S5 : Aside0 (AlS w w5 B7 code B8 sp B10 out B12 fu) := ⟨⟨(S4.out.below hb).HB, (S4.out.below hb).C7, (S4.out.below hb).C8, (S4.out.below hb).C10, hC⟩⟩; clear hb hR hC hn12) | (go_at_call 14; refine (HH.out.h14 _ S5.out.HB).mono ?_; rintro e w6 ⟨rfl, hb⟩; have S6 := Aside0.mk (S5.out.below hb); clear hb) | (go_at_call 18; refine (KK.out.k18 _ B7 c7 A c code (by omega) S6.out.C7 N7.out (Kd.C_below HC.out S6.out.HB) HCc.out).mono ?_; rintro e w7 ⟨rfl, hb⟩; have S7 := Aside0.mk (S6.out.below hb); clear hb))
  go_loopw [14] (fun v w' => ∃ i : Nat, v = .int .i64 (i : Int) ∧ i ≤ code.length ∧ Aside0 (AlS w w' B7 code B8 sp B10 out B12 fu)) (fun v _ => code.length - (intOf v).toNat)
  case atStart => exact ⟨0, rfl, by omega, S7⟩
  case round =>
    clear S0 S1 S2 S3 S4 S5 S6 S7
    obtain ⟨i, rfl, hi, S⟩ := hrel
    by_cases hlt : i < code.length
    · have c4 : decide ((i : Int) < (code.length : Int)) = true := decide_eq_true (by omega)
      have q1 : ((i : Int) < (code.length : Int)) = True := eq_true (by omega)
      have q0 : (0 ≤ (i : Int)) = True := eq_true (by omega)
      obtain ⟨ad, e_, hx⟩ := at_boolA S.out.C8 i (by rw [HSP.out]; exact hlt)
      cases e_
      go_wp2_with fail
      go_region_held3 (fun w' => w'.cell? (ad.add i) = some (.bool (sp.getD i false)) ∧ Below wr.heap.size wr w') (first | exact ⟨pw_cell_below (below_drew1 (Below.refl _ _)) hx, below_drew1 (Below.refl _ _)⟩ | exact ⟨pw_cell_below hbw hx, hbw⟩)
        (first | (go_at_call 28; refine (KK.out.k28 _ i hlt (S.out.below ?hbb).HB).mono ?_; (case hbb => first | exact below_drew1 (Below.refl _ _) | assumption); rintro e w' ⟨rfl, hb⟩; have hbw := below_step (below_drew1 (Below.refl wr.heap.size wr)) hb))
      rename_i hq
      have S7 := Aside0.mk (S.out.below hq.2)
      clear hq S hx
      go_wp2_with fail
      exact ⟨⟨i + 1, by simp, by omega, S7⟩, by simp [intOf]; omega⟩
    · have c4 : decide ((i : Int) < (code.length : Int)) = false := decide_eq_false (by omega)
      have HO := Aside0.mk hout
      have HF := Aside0.mk hfu
      have c4' : decide (i < code.length) = false := decide_eq_false hlt
      clear hout hfu
      go_wp2_with (first
        | (go_at_call 29; refine (KK.out.k29 _ S.out.HB).mono ?_; rintro e w7 ⟨v0, v1, rfl, hR0, hR1, hb⟩; obtain ⟨P_, cp, rfl, -, -⟩ := fresh_C hR0 rfl; obtain ⟨B16, c16, rfl, hn16, hC⟩ := fresh_C hR1 rfl; have S7 := Aside0.mk (S.out.below hb); have C16 := Aside0.mk hC; have N16 := Aside0.mk hn16; clear hR0 hR1 hb hC hn16)
        | (go_at_call 30; refine (KK.out.k30 _ S7.out.HB).mono ?_; rintro e w8 ⟨v, rfl, hR, hb⟩; obtain ⟨B30, c30, rfl, hn30, hC⟩ := fresh_C hR rfl; have S8 := Aside0.mk (S7.out.below hb); have D16 := Aside0.mk (Kd.C_below C16.out hb); have C30 := Aside0.mk hC; have N30 := Aside0.mk hn30; clear hR hb hC hn30)
        | (go_at_call 18; refine (KK.out.k18 _ B10 c10 B30 c30 out HO.out S8.out.C10 N10.out C30.out N30.out).mono ?_; rintro e w9 ⟨rfl, hb⟩; have S9 := Aside0.mk (S8.out.below hb); have E16 := Aside0.mk (Kd.C_below D16.out hb); clear hb)
        | (go_at_call 22; refine (KK.out.k22 _ B12 c12 B16 c16 fu HF.out S9.out.C12 N12.out E16.out N16.out).mono ?_; rintro e w10 ⟨rfl, hb⟩; have S10 := Aside0.mk (S9.out.below hb); clear hb))
      show bodyPost Try.prog Try.f7 _ Exit.ret _ _
      refine bodyPost_ret (v := .bool true) ?_ rfl ⟨rfl, S10.out.HB⟩
      simp [results, Try.results7, go_sem]
set_option maxHeartbeats 8000000 in
set_option maxRecDepth 100000 in
/-- Texts that are too great are let go. -/
theorem all_big (h24 : ∀ W, Calls Try.prog 24 #[] W fun e w' => e = .returned (.bool true) ∧ Below W.heap.size W w') (h : ¬ (code.length ≤ 60 ∧ l.length ≤ 16 ∧ answers.length ≤ 100)) :
    Calls Try.prog 7 #[.slice A code.length c, .slice Al l.length cl, .slice An answers.length cn] w fun e w' => e = .returned (.bool true) ∧ Below w.heap.size w w' := by
  have HH := Aside0.mk h24
  clear h24
  by_cases h1 : 60 < code.length
  · have c1 : decide ((60 : Int) < (code.length : Int)) = true := decide_eq_true (by omega)
    have c1' : decide (60 < code.length) = true := decide_eq_true h1
    go_enter Try.func7, Try.ntmps7
    go_wp2_with (go_at_call 24; refine (HH.out _).mono ?_; rintro e w1 ⟨rfl, hb⟩; have HB := Aside0.mk hb; clear hb)
    go_ret
    exact ⟨rfl, HB.out⟩
  have c1 : decide ((60 : Int) < (code.length : Int)) = false := decide_eq_false (by omega)
  have c1' : decide (60 < code.length) = false := decide_eq_false h1
  by_cases h2 : 16 < l.length
  · have c2 : decide ((16 : Int) < (l.length : Int)) = true := decide_eq_true (by omega)
    have c2' : decide (16 < l.length) = true := decide_eq_true h2
    go_enter Try.func7, Try.ntmps7
    go_wp2_with (go_at_call 24; refine (HH.out _).mono ?_; rintro e w1 ⟨rfl, hb⟩; have HB := Aside0.mk hb; clear hb)
    go_ret
    exact ⟨rfl, HB.out⟩
  have c2 : decide ((16 : Int) < (l.length : Int)) = false := decide_eq_false (by omega)
  have c2' : decide (16 < l.length) = false := decide_eq_false h2
  have h3 : 100 < answers.length := by omega
  have c3 : decide ((100 : Int) < (answers.length : Int)) = true := decide_eq_true (by omega)
  have c3' : decide (100 < answers.length) = true := decide_eq_true h3
  go_enter Try.func7, Try.ntmps7
  go_wp2_with (go_at_call 24; refine (HH.out _).mono ?_; rintro e w1 ⟨rfl, hb⟩; have HB := Aside0.mk hb; clear hb)
  go_ret
  exact ⟨rfl, HB.out⟩
end
end Go.Proofs.Ytdmbnlpcfgphpaa.Q
namespace Go.Proofs.Ytdmbnlpcfgphpaa.Q
open Go.RowKit Go.Proofs.YtdmbnlpcfgphpaaW.PrintWords Go.Proofs.YtdmbnlpcfgphpaaW.PrintLast Go.Proofs.YtdmbnlpcfgphpaaW.PrintMore
set_option linter.unusedVariables false
set_option linter.unusedSimpArgs false
theorem same40_l0 (l : List S40) (hl : l.length ≤ 100000) : ∀ (r i k : Nat), l.length = i + r → r < k → selvageref10_Same.l0 k l l (i : Int) = some true
  | 0, i, k + 1, h, _ => by
    simp only [selvageref10_Same.l0]
    rw [if_neg (by omega)]
  | r + 1, i, k + 1, h, hk => by
    simp only [selvageref10_Same.l0]
    rw [if_pos (by omega), if_pos (by omega), if_pos (by omega), show wrap64 ((i : Int) + 1) = ((i + 1 : Nat) : Int) by rw [wrap_of (by omega) (by omega)]; omega]
    rw [if_neg (by simp)]
    exact same40_l0 l hl r (i + 1) k (by omega) (by omega)
theorem same40 (l : List S40) (hl : l.length ≤ 100000) (k : Nat) (hk : l.length < k) : selvageref10_Same.f k l l = some true := by
  unfold selvageref10_Same.f
  rw [if_pos rfl]
  exact same40_l0 l hl l.length 0 k (by omega) hk
theorem lal_awake (W : World) : Calls Try.prog 24 #[] W fun e w' => e = .returned (.bool true) ∧ Below W.heap.size W w' := selvagelaw13_awake.calls 10 true W awake13_10
section
variable {A : Option Addr} {c : Nat} {code : List S40} {Al : Option Addr} {cl : Nat} {l : List S80} {An : Option Addr} {cn : Nat} {answers : List Int} {w : World}
theorem lal_H (hr : Kd.C k40 w A code.length code) (hc : code.length ≤ c) (hrl : Kd.C k80 w Al l.length l) (hcl : l.length ≤ cl) (hra : (Kd.int .i64).C w An answers.length answers) (hca : answers.length ≤ cn) (hwK : ∀ i, i < code.length → wf64 (ins code i).f6) (hwA : ∀ x ∈ answers, wf64 x) (h1 : code.length ≤ 60) (h2 : l.length ≤ 16) (h3 : answers.length ≤ 100)
    {sp : List Bool} {out : List S40} {fu : List Int} {err : Int} {b : Bool} (e1 : agS code l = (sp, err)) (e2 : agA code l = (out, err)) (e3 : agF code l answers = (fu, err)) (e4 : right code l = b) : AlH A c code Al cl l An cn answers w sp out fu err b := by
  refine ⟨lal_awake, fun W hW => ?_, fun W B cB hW hC hn => ?_, fun W B cB hW hC hn => ?_, fun W B cB hW hC hn => ?_, fun W hW => ?_⟩
  · exact selvageref10_Copy.calls A c code code W (Kd.C_below hr hW) hc (by unfold selvageref10_Copy.f; rw [Option.bind_some, if_pos (by simp; omega), List.nil_append])
  · have h := spare_any B cB code Al cl l W hC hn (Kd.C_below hrl hW) hcl (by omega)
    rw [e1] at h
    exact h
  · have h := again_any B cB code Al cl l W hC hn (Kd.C_below hrl hW) hcl (by omega)
    rw [e2] at h
    exact h
  · have h := full_any B cB code Al cl l An cn answers W hC hn (Kd.C_below hrl hW) hcl (by omega) (Kd.C_below hra hW) hca (by omega) hwK hwA
    rw [e3] at h
    exact h
  · have h := rref_any A c code Al cl l W (Kd.C_below hr hW) hc (Kd.C_below hrl hW) hcl h2
    rw [e4] at h
    exact h
theorem lal_K (hr : Kd.C k40 w A code.length code) (hc : code.length ≤ c) (hra : (Kd.int .i64).C w An answers.length answers) (hca : answers.length ≤ cn) (h1 : code.length ≤ 60) (h2 : l.length ≤ 16) (h3 : answers.length ≤ 100) (hR : right code l = true) :
    ∃ ps, AlK A c code An cn answers w (spL code) (outL code code.length) ps (full code answers) := by
  have t := tr_of hR
  have n1 := t.n1
  have hL := lb_of hR (by omega)
  obtain ⟨K1, hK⟩ := ev_all t hL
  obtain ⟨K2, hA⟩ := rag_Ev t hL
  obtain ⟨ps, hps⟩ := trl_true hR (n := K1 + 100) (fun i hi => hK _ (by omega) i hi) (K1 + 100) 0 zT zT answers [] [] (by omega) (by omega) (Sm.zero t)
  rw [List.nil_append] at hps
  have hfu : trF code (K1 + 100) 0 zT answers = trF code code.length 0 zT answers := trF_fuel hR (K1 + 100) code.length 0 zT answers (by omega) (by omega) (by omega)
  have hps2 : trlO (K1 + 100) code true (K1 + 100) 0 zT answers [] [] = some (ps, full code answers) := by rw [full_tr hR, ← hfu]; exact hps
  refine ⟨ps, fun W B1 k1 B2 k2 xs hx g1 g2 g3 g4 => ?_, fun W B1 k1 B2 k2 xs hx g1 g2 g3 g4 => ?_, fun W i hi hW => ?_, fun W hW => ?_, fun W hW => ?_⟩
  · exact (selvageref10_Same.calls 500 B1 k1 xs B2 k2 xs true W g1 g2 g3 g4 (same40 xs (by omega) 500 (by omega))).mono fun e w' h => ⟨h.1, h.2.below⟩
  · exact (selvageref08_SameNums.calls 500 B1 k1 xs B2 k2 xs true W g1 g2 g3 g4 (nums13_self xs (by omega) 500 (by omega))).mono fun e w' h => ⟨h.1, h.2.below⟩
  · rw [spL_at hi]
    exact selvageref13_Spare.calls K1 A c code i (spr code i) W (Kd.C_below hr hW) hc (hK K1 (Nat.le_refl _) i hi).1
  · exact trail_any (K1 + 100) A c code An cn answers true (ps, full code answers) W (Kd.C_below hr hW) hc (Kd.C_below hra hW) hca (by omega) (by omega) hps2
  · exact selvageref13_Again.calls K2 A c code (outL code code.length) W (Kd.C_below hr hW) hc (hA K2 (Nat.le_refl _))
end
def selvagelaw13_AgainAll.f (k : Nat) (l0 : List (S40)) (l1 : List (S80)) (l2 : List Int) : Option (Bool) := if (l0.all fun x => (Lit.int .i64 x.f6).wf) = true ∧ (l2.all fun x => (Lit.int .i64 x).wf) = true then some true else none
theorem selvagelaw13_AgainAll.calls (k : Nat) (A0 : Option Addr) (c0 : Nat) (l0 : List (S40)) (A1 : Option Addr) (c1 : Nat) (l1 : List (S80)) (A2 : Option Addr) (c2 : Nat) (l2 : List Int) (r : Bool) (w : World) (hr0 : Kd.C k40 w A0 l0.length l0) (hc0 : l0.length ≤ c0) (hr1 : Kd.C k80 w A1 l1.length l1) (hc1 : l1.length ≤ c1) (hr2 : Kd.C (Kd.int .i64) w A2 l2.length l2) (hc2 : l2.length ≤ c2) (h : selvagelaw13_AgainAll.f k l0 l1 l2 = some r) :
    Calls Try.prog 7 #[.slice A0 l0.length c0, .slice A1 l1.length c1, .slice A2 l2.length c2] w fun e w' => e = .returned (.bool r) ∧ Below w.heap.size w w' := by
  unfold selvagelaw13_AgainAll.f at h
  split at h
  case isFalse => cases h
  rename_i hs
  obtain rfl := Option.some.inj h
  by_cases hb : l0.length ≤ 60 ∧ l1.length ≤ 16 ∧ l2.length ≤ 100
  case neg => exact all_big lal_awake hb
  obtain ⟨h1, h2, h3⟩ := hb
  have hwK : ∀ i, i < l0.length → wf64 (ins l0 i).f6 := fun i hi => List.all_eq_true.1 hs.1 (ins l0 i) (by unfold ins; rw [List.getD_eq_getElem?_getD, List.getElem?_eq_getElem hi]; exact List.getElem_mem hi)
  have hwA : ∀ x ∈ l2, wf64 x := fun x hx => List.all_eq_true.1 hs.2 x hx
  cases hR : right l0 l1
  · exact all_wrong (lal_H hr0 hc0 hr1 hc1 hr2 hc2 hwK hwA h1 h2 h3 (by unfold agS; rw [hR]; rfl) (by unfold agA; rw [hR]; rfl) (by unfold agF; rw [hR]; rfl) hR) h1 h2 h3
  · obtain ⟨ps, K⟩ := lal_K hr0 hc0 hr2 hc2 h1 h2 h3 hR
    have t := tr_of hR
    have hN := nsp_le l0 l0.length
    have hlen := outL_len l0 l0.length
    have hfl : (full l0 l2).length ≤ 400 := by
      rw [full_tr hR]
      have := trF_len l0 l0.length 0 zT l2
      omega
    exact all_right hr0 hc0 (lal_H hr0 hc0 hr1 hc1 hr2 hc2 hwK hwA h1 h2 h3 (by unfold agS; rw [hR]; rfl) (by unfold agA; rw [hR]; rfl) (by unfold agF; rw [hR]; rfl) hR) K spL_len (by omega) hfl h1 h2 h3
end Go.Proofs.Ytdmbnlpcfgphpaa.Q
namespace Go.Proofs.Ytdmbnlpcfgphpaa.StAgainAll
open Go.RowKit Go.Proofs.YtdmbnlpcfgphpaaW.PrintWords Go.Proofs.YtdmbnlpcfgphpaaW.PrintLast Go.Proofs.Ytdmbnlpcfgphpaa.Q
def good40 (x : S40) : Prop := (Lit.int .i64 x.f0).wf = true ∧ (Lit.int .i64 x.f1).wf = true ∧ (Lit.int .i64 x.f2).wf = true ∧ (Lit.int .i64 x.f3).wf = true ∧ (Lit.int .i64 x.f4).wf = true ∧ (Lit.int .i64 x.f5).wf = true ∧ (Lit.int .i64 x.f6).wf = true ∧ (Lit.int .i64 x.f7).wf = true
def good80 (x : S80) : Prop := True ∧ (Lit.int .i64 x.f1).wf = true
def Pure : Prop := ∀ (l0 : List S40) (l1 : List S80) (l2 : List Int), (∀ x ∈ l0, good40 x) → l0.length * 64 ≤ 140737488351232 → (∀ x ∈ l1, good80 x) → l1.length * 16 ≤ 140737488351232 → (∀ x ∈ l2, (Lit.int .i64 x).wf = true) → l2.length * 8 ≤ 140737488351232 → ∃ k, selvagelaw13_AgainAll.f k l0 l1 l2 = some true
end Go.Proofs.Ytdmbnlpcfgphpaa.StAgainAll
namespace Go.Proofs.Ytdmbnlpcfgphpaa.StAgainAll
open Go.RowKit Go.Proofs.YtdmbnlpcfgphpaaW.PrintWords Go.Proofs.YtdmbnlpcfgphpaaW.PrintLast Go.Proofs.YtdmbnlpcfgphpaaW.PrintMore Go.Proofs.Ytdmbnlpcfgphpaa.Q
theorem all : Pure := by
  intro l0 l1 l2 g0 _ _ _ g2 _
  refine ⟨0, ?_⟩
  unfold selvagelaw13_AgainAll.f
  rw [if_pos]
  exact ⟨List.all_eq_true.2 (fun x hx => (g0 x hx).2.2.2.2.2.2.1), List.all_eq_true.2 (fun x hx => g2 x hx)⟩
end Go.Proofs.Ytdmbnlpcfgphpaa.StAgainAll
namespace Go.Proofs.Ytdmbnlpcfgphpaa.Pure
theorem AgainAll : Go.Proofs.Ytdmbnlpcfgphpaa.StAgainAll.Pure := Go.Proofs.Ytdmbnlpcfgphpaa.StAgainAll.all
end Go.Proofs.Ytdmbnlpcfgphpaa.Pure
namespace Go.Proofs.Ytdmbnlpcfgphpaa.againAll
open Go.ChangeShapes Go.WideShapes Go.ChangeAt Go.RowKit Go.Proofs.YtdmbnlpcfgphpaaW.PrintWords Go.Proofs.Ytdmbnlpcfgphpaa.Q Go.Proofs.Ytdmbnlpcfgphpaa.Opn Go.Proofs.Ytdmbnlpcfgphpaa.StAgainAll
set_option linter.unusedVariables false
theorem o40 : Opn Try.prog 40 k40 good40 := Opn.struct Try.underlying40 (by kernel_rfl) (by kernel_rfl) (ts := [3, 3, 3, 3, 3, 3, 2, 3]) rfl (OpnF.cons (Opn.int Try.underlying3 (by kernel_rfl)) (by kernel_rfl) (OpnF.cons (Opn.int Try.underlying3 (by kernel_rfl)) (by kernel_rfl) (OpnF.cons (Opn.int Try.underlying3 (by kernel_rfl)) (by kernel_rfl) (OpnF.cons (Opn.int Try.underlying3 (by kernel_rfl)) (by kernel_rfl) (OpnF.cons (Opn.int Try.underlying3 (by kernel_rfl)) (by kernel_rfl) (OpnF.cons (Opn.int Try.underlying3 (by kernel_rfl)) (by kernel_rfl) (OpnF.cons (Opn.int Try.underlying2 (by kernel_rfl)) (by kernel_rfl) (OpnF.one (Opn.int Try.underlying3 (by kernel_rfl)) (by kernel_rfl))))))))) (fun x : S40 => (x.f0, x.f1, x.f2, x.f3, x.f4, x.f5, x.f6, x.f7)) (fun a => ⟨a.1, a.2.1, a.2.2.1, a.2.2.2.1, a.2.2.2.2.1, a.2.2.2.2.2.1, a.2.2.2.2.2.2.1, a.2.2.2.2.2.2.2⟩) (fun _ => rfl)
theorem o80 : Opn Try.prog 80 k80 good80 := Opn.struct Try.underlying80 (by kernel_rfl) (by kernel_rfl) (ts := [4, 2]) rfl (OpnF.cons (Opn.bool Try.underlying4 (by kernel_rfl)) (by kernel_rfl) (OpnF.one (Opn.int Try.underlying2 (by kernel_rfl)) (by kernel_rfl))) (fun x : S80 => (x.f0, x.f1)) (fun a => ⟨a.1, a.2⟩) (fun _ => rfl)
theorem own : ownKnob Try.prog.godebug = none := by kernel_rfl
theorem laidOut : laidOutB Try.prog = true := by kernel_rfl
set_option maxRecDepth 100000 in
theorem lifted (os : Os) (started : os.Started) (H : Type) (enc : TypeId × Value → H) :
    ReturnsInHanded {} Try.checked os 7 .any (Rows.againAllSpec.pre6 enc Try.prog Try.f7 Rows.againAllRow.domain false) (Rows.againAllSpec.post enc Try.prog Try.f7 false true false false) := by
  refine returnsInHanded_of_change_sized (C := Try.checked) own started (by kernel_rfl) Try.func7
    (ChangeSpec.witness6 (enc := enc) (C := Try.checked) false ⟨#[], #[.slice none 0 0, .slice none 0 0, .slice none 0 0], []⟩ 8 (by kernel_rfl) (by kernel_rfl) (by kernel_rfl) (by kernel_rfl)) ?_
  intro W base args ds gs before hval0 hW hcnd hsz0 _
  have hsz : (DataW.weightsEach Try.prog (Try.f7.params.toList ++ Rows.againAllSpec.plain.varTypes Try.prog) (ds ++ gs)).all (· ≤ reachBytes) = true := hsz0
  have hval : ∀ (j : Nat) t v, Try.f7.params[j]? = some t → args[j]? = some v → Value.okWide Try.prog W .any base t v := hval0
  have hW' := hW
  obtain ⟨p, q, hA0, hV, rfl, hfz, hnd⟩ := hW
  have hA : DataW.TrodAll enc Try.prog W 0 (fun _ => true) true Try.f7.params.toList args.toList ds p := hA0
  rw [Try.params7] at hA hval hsz
  obtain ⟨v0, vs0, d0, ds0, p0, q0, hargs, rfl, rfl, h0, r0⟩ := trodAll_cons hA
  obtain ⟨v1, vs1, d1, ds1, p1, q1, rfl, rfl, rfl, h1, r1⟩ := trodAll_cons r0
  obtain ⟨v2, vs2, d2, ds2, p2, q2, rfl, rfl, rfl, h2, r2⟩ := trodAll_cons r1
  obtain ⟨rfl, rfl, rfl⟩ := trodAll_nil r2
  obtain rfl : args = #[v0, v1, v2] := by cases args; simp_all
  obtain ⟨rfl, rfl⟩ := trodVars_none hV
  have k0 := h0
  have lt0 : ∀ x ∈ p0, x.block < W.heap.size := by obtain ⟨m, hm⟩ := k0; exact DataW.trod_lt m _ _ _ hm
  obtain ⟨A0, c0, l0, rfl, r0_, m0, w0, y0⟩ := Opn.arg_slice (j := 0) (Opn.slice (t := 22) Try.underlying22 (by kernel_rfl) (B := 64) (by kernel_rfl) o40) Try.underlying22 hsz rfl rfl (hval 0 22 v0 rfl rfl) h0
  have k1 := h1
  have lt1 : ∀ x ∈ p1, x.block < W.heap.size := by obtain ⟨m, hm⟩ := k1; exact DataW.trod_lt m _ _ _ hm
  obtain ⟨A1, c1, l1, rfl, r1_, m1, w1, y1⟩ := Opn.arg_slice (j := 1) (Opn.slice (t := 23) Try.underlying23 (by kernel_rfl) (B := 16) (by kernel_rfl) o80) Try.underlying23 hsz rfl rfl (hval 1 23 v1 rfl rfl) h1
  have k2 := h2
  have lt2 : ∀ x ∈ p2, x.block < W.heap.size := by obtain ⟨m, hm⟩ := k2; exact DataW.trod_lt m _ _ _ hm
  obtain ⟨A2, c2, l2, rfl, r2_, m2, w2, y2⟩ := Opn.arg_slice (j := 2) (Opn.slice (t := 24) Try.underlying24 (by kernel_rfl) (B := 8) (by kernel_rfl) (Opn.int Try.underlying2 (by kernel_rfl))) Try.underlying24 hsz rfl rfl (hval 2 24 v2 rfl rfl) h2
  clear hA0 hval0 hsz0 hsz
  obtain ⟨k, hk⟩ := Pure.AgainAll l0 l1 l2 w0 y0 w1 y1 w2 y2
  refine (selvagelaw13_AgainAll.calls k _ _ l0 _ _ l1 _ _ l2 true W r0_ m0 r1_ m1 r2_ m2 hk).mono fun e W' ⟨he, bel⟩ => ?_
  subst he
  exact ⟨_, rfl, _, _, _, [], _, [], hW', trodAll_mk1 (shut_bool Try.underlying4 _), (trodAll_cons_mk (Below.trod laidOut (by kernel_rfl) (of_decide_eq_true (by kernel_rfl)) k0 bel lt0) (trodAll_cons_mk (Below.trod laidOut (by kernel_rfl) (of_decide_eq_true (by kernel_rfl)) k1 bel lt1) (trodAll_cons_mk (Below.trod laidOut (by kernel_rfl) (of_decide_eq_true (by kernel_rfl)) k2 bel lt2) trodAll_mk0))), rfl, bel.frame _, fun h => by cases h⟩
theorem over : Rows.againAllRow.holds Try.pinned (OpenSpec.ofChange Rows.againAllSpec) :=
  OpenClaim.holds_of_wide 7 Try.f7 rfl rfl rfl rfl rfl rfl rfl ⟨rfl, rfl, rfl, rfl, rfl⟩ rfl rfl rfl rfl rfl (by kernel_rfl) Try.func7 (by kernel_rfl)
    (of_decide_eq_true (by kernel_rfl)) (by unfold Func.isWrapper; first | (rw [if_pos (by decide +kernel)]; kernel_rfl) | (rw [if_neg (by decide +kernel)]; exact ⟨rfl, rfl⟩))
    (fun os started H enc _ => lifted os started H enc)
theorem proved : Rows.AgainAllSaid := over
#print axioms proved
end Go.Proofs.Ytdmbnlpcfgphpaa.againAll
namespace Go.Proofs.Ytdmbnlpcfgphpaa
/-- The row, under a short name, for the claim. -/
theorem againAll_holds : Rows.AgainAllSaid := againAll.proved
end Go.Proofs.Ytdmbnlpcfgphpaa
