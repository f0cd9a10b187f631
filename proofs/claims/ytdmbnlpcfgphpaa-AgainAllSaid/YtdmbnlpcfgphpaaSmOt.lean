/- Several of my texts in one: Pmore, Ot1, Ot2, Ot3, Ot4, Ot5, Ot6. -/
import Derived.Test.YtdmbnlpcfgphpaaPst
import Derived.Test.YtdmbnlpcfgphpaaAgn
import Derived.Test.YtdmbnlpcfgphpaaFul
namespace Go.Proofs.Ytdmbnlpcfgphpaa.Q
open Go.RowKit Go.Proofs.YtdmbnlpcfgphpaaW.PrintWords Go.Proofs.YtdmbnlpcfgphpaaW.PrintLast Go.Proofs.YtdmbnlpcfgphpaaW.PrintMore
set_option linter.unusedVariables false
set_option linter.unusedSimpArgs false
theorem stp_more (x : S40) (i : Int) (T ans more : List Int) : ((stp x i T ans).fin ≠ 4 → stp x i T (ans ++ more) = ⟨(stp x i T ans).next, (stp x i T ans).fin, (stp x i T ans).T, (stp x i T ans).ans ++ more, (stp x i T ans).new⟩) ∧ ((stp x i T ans).fin = 4 → (stp x i T ans).new = [] ∧ (stp x i T ans).ans = [] ∧ (stp x i T ans).T = T) := by
  refine stp_rel (fun r s => (r.fin ≠ 4 → s = ⟨r.next, r.fin, r.T, r.ans ++ more, r.new⟩) ∧ (r.fin = 4 → r.new = [] ∧ r.ans = [] ∧ r.T = T)) x x i i T T ans (ans ++ more) rfl rfl rfl rfl (fun _ => rfl) (fun _ => rfl) ?_ ?_ ?_ ?_ ?_ ?_ ?_ ?_
  · intro v _ _; exact ⟨fun _ => rfl, fun h => by simp [stSet] at h⟩
  · intro s hs; exact ⟨fun _ => rfl, fun h => by simp only [stGo] at h; omega⟩
  · intro k loc new _
    cases ans with
    | nil => exact ⟨fun h => absurd rfl h, fun _ => ⟨rfl, rfl, rfl⟩⟩
    | cons n r => exact ⟨fun _ => rfl, fun h => by simp [stAsk] at h⟩
  · intro _
    cases ans with
    | nil => exact ⟨fun h => absurd rfl h, fun _ => ⟨rfl, rfl, rfl⟩⟩
    | cons n r =>
      by_cases hn : n = rd T x.f2
      · simp [stCas, hn]
      · simp [stCas, hn]
  · intro k loc v _; exact ⟨fun _ => rfl, fun h => by simp [stTell] at h⟩
  · intro _; exact ⟨fun _ => rfl, fun h => by simp [stGo] at h⟩
  · intro _; exact ⟨fun _ => rfl, fun h => by simp [stGo] at h⟩
  · intro _; exact ⟨fun _ => rfl, fun h => by simp [stGo] at h⟩
theorem stp_fin (x : S40) (i : Int) (T ans : List Int) : 0 ≤ (stp x i T ans).fin ∧ (stp x i T ans).fin ≤ 4 := by
  refine stp_elim (fun r => 0 ≤ r.fin ∧ r.fin ≤ 4) x i T ans ?_ ?_ ?_ ?_ ?_ ?_ ?_
  · intros; simp [stSet]
  · intro s hs; simp only [stGo]; omega
  · intros; cases ans <;> simp [stAsk]
  · intro _
    cases ans with
    | nil => simp [stCas]
    | cons n r => by_cases hn : n = rd T x.f2 <;> simp [stCas, hn]
  · intros; simp [stTell]
  · intros; simp [stGo]
  · intros; simp [stGo]
theorem runF_step (code : List S40) (f : Nat) (i : Int) (T ans : List Int) (acts : List S47) : runF code (f + 1) i T ans acts = if (stp (ins code i.toNat) i T ans).fin = 0 then runF code f (stp (ins code i.toNat) i T ans).next (stp (ins code i.toNat) i T ans).T (stp (ins code i.toNat) i T ans).ans (acts ++ (stp (ins code i.toNat) i T ans).new) else (acts ++ (stp (ins code i.toNat) i T ans).new, (stp (ins code i.toNat) i T ans).fin) := rfl
theorem runF_acts (code : List S40) : ∀ (f : Nat) (i : Int) (T ans : List Int) (acts : List S47), acts <+: (runF code f i T ans acts).1
  | 0, _, _, _, _ => List.prefix_refl _
  | f + 1, i, T, ans, acts => by
    rw [runF_step]
    split
    · exact (List.prefix_append _ _).trans (runF_acts code f _ _ _ _)
    · exact List.prefix_append _ _
theorem runF_more (code : List S40) (more : List Int) : ∀ (f : Nat) (i : Int) (T ans : List Int) (acts : List S47), ((runF code f i T ans acts).2 ≠ 4 → runF code f i T (ans ++ more) acts = runF code f i T ans acts) ∧ ((runF code f i T ans acts).2 = 4 → (runF code f i T ans acts).1 <+: (runF code f i T (ans ++ more) acts).1)
  | 0, _, _, _, _ => ⟨fun _ => rfl, fun h => by simp [runF] at h⟩
  | f + 1, i, T, ans, acts => by
    obtain ⟨h1, h2⟩ := stp_more (ins code i.toNat) i T ans more
    rw [runF_step code f i T ans acts]
    by_cases h4 : (stp (ins code i.toNat) i T ans).fin = 4
    · obtain ⟨e1, e2, e3⟩ := h2 h4
      rw [if_neg (by rw [h4]; decide), e1, List.append_nil]
      refine ⟨fun h => absurd h4 h, fun _ => ?_⟩
      exact runF_acts code (f + 1) i T (ans ++ more) acts
    · have e := h1 h4
      rw [runF_step code f i T (ans ++ more) acts, e]
      dsimp only
      by_cases h0 : (stp (ins code i.toNat) i T ans).fin = 0
      · rw [if_pos h0, if_pos h0]
        exact runF_more code more f _ _ _ _
      · rw [if_neg h0, if_neg h0]
        exact ⟨fun _ => rfl, fun h => absurd h h4⟩
/-- How far right code goes: its acts, its end. -/
theorem runF_ends {code : List S40} {l : List S80} (hR : right code l = true) : ∀ (f i : Nat) (T ans : List Int) (acts : List S47), i < code.length → code.length - i ≤ f → (1 ≤ (runF code f i T ans acts).2 ∧ (runF code f i T ans acts).2 ≤ 4) ∧ (runF code f i T ans acts).1.length ≤ acts.length + (code.length - i)
  | 0, i, _, _, _, hi, hf => absurd hf (by omega)
  | f + 1, i, T, ans, acts, hi, hf => by
    obtain ⟨hn1, hn2, h18, hc, -⟩ := right_parts hR
    rw [runF_step, Int.toNat_natCast]
    have hw := stp_new (ins code i) i T ans
    have hfin := stp_fin (ins code i) i T ans
    by_cases h0 : (stp (ins code i) i T ans).fin = 0
    · rw [if_pos h0]
      obtain ⟨h1, h2⟩ := next_in hn2 h18 hi (hc i hi) T ans h0
      obtain ⟨j, hj⟩ : ∃ j : Nat, (stp (ins code i) i T ans).next = (j : Int) := ⟨(stp (ins code i) i T ans).next.toNat, by omega⟩
      rw [hj] at h1 h2 ⊢
      have := runF_ends hR f j (stp (ins code i) i T ans).T (stp (ins code i) i T ans).ans (acts ++ (stp (ins code i) i T ans).new) (by omega) (by omega)
      refine ⟨this.1, ?_⟩
      have h3 := this.2
      rw [List.length_append] at h3
      omega
    · rw [if_neg h0]
      refine ⟨by dsimp only; omega, ?_⟩
      dsimp only
      rw [List.length_append]
      omega
theorem runAll_len (code : List S40) (l : List S80) (answers : List Int) : (runAll code l answers).1.length ≤ 400 := by
  unfold runAll
  split
  · rename_i h
    have hp := right_parts h
    have := (runF_ends h code.length 0 zT answers [] (by omega) (by omega)).2
    simp at this
    have h2 := hp.2.1
    have : (runF code code.length 0 zT answers []).1.length ≤ code.length := this
    omega
  · simp
end Go.Proofs.Ytdmbnlpcfgphpaa.Q
namespace Go.Proofs.Ytdmbnlpcfgphpaa.Q
open Go.RowKit Go.Proofs.YtdmbnlpcfgphpaaW.PrintWords Go.Proofs.YtdmbnlpcfgphpaaW.PrintLast Go.Proofs.YtdmbnlpcfgphpaaW.PrintMore
set_option linter.unusedVariables false
set_option linter.unusedSimpArgs false
section
variable {code : List S40}
theorem nsp_keep {i : Nat} (h : spr code i = false) : nsp code (i + 1) = nsp code i + 1 := by
  conv => { lhs; unfold nsp }
  rw [h]; rfl
theorem nsp_spr {i : Nat} (h : spr code i = true) : nsp code (i + 1) = nsp code i := by
  conv => { lhs; unfold nsp }
  rw [h]; rfl
theorem nsp_mono {i : Nat} : ∀ j, i ≤ j → nsp code i ≤ nsp code j := by
  intro j h
  induction j with
  | zero => rw [show i = 0 by omega]; exact Nat.le_refl _
  | succ j ih =>
    by_cases he : i = j + 1
    · rw [he]; exact Nat.le_refl _
    · have h1 := ih (by omega)
      cases hs : spr code j
      · rw [nsp_keep hs]; omega
      · rw [nsp_spr hs]; exact h1
theorem nsp_lt {i j : Nat} (h : spr code i = false) (hij : i < j) : nsp code i < nsp code j := by
  have h1 := nsp_mono (code := code) (i := i + 1) j (by omega)
  rw [nsp_keep h] at h1
  omega
theorem nsp_inj {i j : Nat} (hi : spr code i = false) (hj : spr code j = false) (h : nsp code i = nsp code j) : i = j := by
  rcases Nat.lt_trichotomy i j with h1 | h1 | h1
  · have := nsp_lt hi h1; omega
  · exact h1
  · have := nsp_lt hj h1; omega
theorem nsp_const {c i : Nat} (hc : c ≤ i) (h : ∀ m, c ≤ m → m < i → spr code m = true) : nsp code c = nsp code i := by
  induction i with
  | zero => rw [show c = 0 by omega]
  | succ i ih =>
    by_cases he : c = i + 1
    · rw [he]
    · rw [nsp_spr (h i (by omega) (by omega)), ih (by omega) (fun m h1 h2 => h m h1 (by omega))]
/-- If there are no more between, all between are spare. -/
theorem nsp_between {c i : Nat} (h : nsp code i ≤ nsp code c) {m : Nat} (h1 : c ≤ m) (h2 : m < i) : spr code m = true := by
  cases hs : spr code m
  · have h3 := nsp_lt hs h2
    have h4 := nsp_mono (code := code) (i := c) m h1
    omega
  · rfl
theorem outL_at : ∀ m i, i < m → spr code i = false → (outL code m)[nsp code i]? = some (agI code (ins code i))
  | 0, i, h, _ => absurd h (by omega)
  | m + 1, i, h, hs => by
    unfold outL
    by_cases hm : spr code m = true
    · rw [if_pos hm]
      have : i ≠ m := fun e => by rw [e, hm] at hs; cases hs
      exact outL_at m i (by omega) hs
    · rw [if_neg hm]
      by_cases he : i = m
      · subst he
        rw [List.getElem?_append_right (by rw [outL_len]; exact Nat.le_refl _), outL_len, Nat.sub_self]
        rfl
      · have h1 := nsp_lt hs (show i < m by omega)
        rw [List.getElem?_append_left (by rw [outL_len]; exact h1)]
        exact outL_at m i (by omega) hs
theorem ins_out {i : Nat} (hi : i < code.length) (hs : spr code i = false) : ins (outL code code.length) (nsp code i) = agI code (ins code i) := by
  unfold ins
  rw [List.getD_eq_getElem?_getD, outL_at code.length i hi hs]
  rfl
theorem out_inv : ∀ m j, j < nsp code m → ∃ i, i < m ∧ spr code i = false ∧ nsp code i = j
  | 0, j, h => absurd h (by simp [nsp])
  | m + 1, j, h => by
    cases hs : spr code m
    · rw [nsp_keep hs] at h
      by_cases he : j = nsp code m
      · exact ⟨m, by omega, hs, he.symm⟩
      · obtain ⟨i, h1, h2⟩ := out_inv m j (by omega)
        exact ⟨i, by omega, h2⟩
    · rw [nsp_spr hs] at h
      obtain ⟨i, h1, h2⟩ := out_inv m j h
      exact ⟨i, by omega, h2⟩
theorem spr_op {i : Nat} (h : spr code i = true) : (ins code i).f0 ≠ 18 ∧ usT (ins code i).f0 = false := by
  rw [(spr_parts h).1]; decide
theorem spr_0 : spr code 0 = false := by
  unfold spr; rw [kw_zero]; simp
/-- Piece q is the nearest one above i that stays. -/
def Kp (code : List S40) (q i : Nat) : Prop := spr code q = false ∧ ∃ c, q < c ∧ c ≤ i ∧ par code c = q ∧ ∀ m, c ≤ m → m < i → spr code m = true
theorem kp_ex (t : Tr code) : ∀ i, 0 < i → i < code.length → ∃ q, Kp code q i := by
  intro i
  induction i using Nat.strongRecOn with
  | ind i ih =>
    intro h0 hi
    have hl := t.lt i h0 hi
    cases hs : spr code (par code i)
    · exact ⟨par code i, hs, i, hl, Nat.le_refl _, rfl, fun m h1 h2 => absurd h1 (by omega)⟩
    · have ho := spr_op hs
      have hp0 : 0 < par code i := by
        rcases Nat.eq_zero_or_pos (par code i) with h | h
        · rw [h, spr_0] at hs; cases hs
        · exact h
      have hk : i = par code i + 1 := by
        rcases t.kid h0 hi with h | h
        · exact h.1
        · rw [ho.2] at h; cases h.1
      obtain ⟨q, hq, c, c1, c2, c3, c4⟩ := ih (par code i) hl hp0 (by omega)
      refine ⟨q, hq, c, c1, by omega, c3, fun m h1 h2 => ?_⟩
      by_cases he : m = par code i
      · rw [he]; exact hs
      · exact c4 m h1 (by omega)
theorem kp_uniq (t : Tr code) {i q r : Nat} (hi : i < code.length) (h : Kp code q i) (k : Kp code r i) : q = r := by
  obtain ⟨hq, c, c1, c2, c3, c4⟩ := h
  obtain ⟨hr, d, d1, d2, d3, d4⟩ := k
  rcases Nat.lt_trichotomy c d with e | e | e
  · have hs := c4 (d - 1) (by omega) (by omega)
    have := t.par_next (i := d - 1) (by omega) (spr_op hs).1
    rw [show d - 1 + 1 = d by omega, d3] at this
    rw [this, hs] at hr; cases hr
  · rw [← c3, ← d3, e]
  · have hs := d4 (c - 1) (by omega) (by omega)
    have := t.par_next (i := c - 1) (by omega) (spr_op hs).1
    rw [show c - 1 + 1 = c by omega, c3] at this
    rw [this, hs] at hq; cases hq
theorem Kp.lt {q i : Nat} (h : Kp code q i) : q < i := by
  obtain ⟨_, c, c1, c2, _⟩ := h; omega
/-- What stays above i is above the nearest one, or is it. -/
theorem kp_sub (t : Tr code) {k q i : Nat} (hi : i < code.length) (h : Kp code q i) (hk : spr code k = false) (hs : Sub code k i) (hne : k ≠ i) : Sub code k q := by
  obtain ⟨hq, c, c1, c2, c3, c4⟩ := h
  have key : ∀ m, c ≤ m → m ≤ i → Sub code k m → k ≠ m → Sub code k q := by
    intro m
    induction m using Nat.strongRecOn with
    | ind m ih =>
      intro h1 h2 h3 h4
      by_cases he : m = c
      · subst he
        have := sub_up h3 h4
        rwa [c3] at this
      · have hp := c4 (m - 1) (by omega) (by omega)
        have h5 := t.par_next (i := m - 1) (by omega) (spr_op hp).1
        rw [show m - 1 + 1 = m by omega] at h5
        have h6 := sub_up h3 h4
        rw [h5] at h6
        exact ih (m - 1) (by omega) (by omega) (by omega) h6 (fun e => by rw [e, hp] at hk; cases hk)
  exact key i c2 (Nat.le_refl _) hs hne
/-- From which piece one comes to a piece of the code that is left. -/
theorem out_isB (t : Tr code) {q i : Nat} (hq : q < code.length) (hi : i < code.length) (h0 : 0 < i) (kq : spr code q = false) (ki : spr code i = false) : isB_q (outL code code.length) (nsp code i) (nsp code q) = true ↔ Kp code q i := by
  unfold isB_q
  rw [ins_out hq kq]
  have e0 : (agI code (ins code q)).f0 = (ins code q).f0 := rfl
  have e7 : (agI code (ins code q)).f7 = if (ins code q).f7 = 0 then 0 else (nsp code (ins code q).f7.toNat : Int) := rfl
  rw [e0, e7]
  simp only [Bool.or_eq_true, Bool.and_eq_true, beq_iff_eq]
  constructor
  · rintro (⟨h1, h2⟩ | ⟨h1, h2⟩)
    · have h18 : (ins code q).f0 ≠ 18 := by simpa using h2
      have hlt : q < i := by
        rcases Nat.lt_or_ge q i with h | h
        · exact h
        · have := nsp_mono (code := code) (i := i) q h; omega
      refine ⟨kq, q + 1, by omega, by omega, t.par_next hq h18, fun m m1 m2 => nsp_between (c := q + 1) ?_ m1 m2⟩
      rw [nsp_keep kq]; omega
    · have ht := t.tgt q hq h1
      rw [if_neg (by omega)] at h2
      have hle : (ins code q).f7.toNat ≤ i := by
        rcases Nat.lt_or_ge i (ins code q).f7.toNat with h | h
        · have := nsp_lt ki h; omega
        · exact h
      exact ⟨kq, (ins code q).f7.toNat, by omega, hle, t.par_to hq h1, fun m m1 m2 => nsp_between (by omega) m1 m2⟩
  · rintro ⟨_, c, c1, c2, c3, c4⟩
    have hc := nsp_const c2 c4
    rcases t.kid (j := c) (by omega) (by omega) with ⟨k1, k2⟩ | ⟨k1, k2⟩
    · rw [c3] at k1 k2
      left
      rw [← hc, k1, nsp_keep kq]
      exact ⟨rfl, by simpa using k2⟩
    · rw [c3] at k1 k2
      right
      have ht := t.tgt q hq k1
      rw [if_neg (by omega), ← hc, k2]
      exact ⟨k1, rfl⟩
theorem filter_one {p : Nat → Bool} {k : Nat} : ∀ j, k < j → p k = true → (∀ m, m < j → p m = true → m = k) → (List.range j).filter p = [k]
  | 0, h, _, _ => absurd h (by omega)
  | j + 1, h, hk, hu => by
    rw [List.range_succ, List.filter_append]
    by_cases he : k = j
    · subst he
      have h0 : (List.range k).filter p = [] := by
        rw [List.filter_eq_nil_iff]
        intro m hm
        have hm' := List.mem_range.1 hm
        intro hp
        have := hu m (by omega) hp
        omega
      rw [h0]; simp [hk]
    · rw [filter_one j (by omega) hk (fun m hm => hu m (by omega))]
      have : p j = false := by
        cases hp : p j
        · rfl
        · exact absurd (hu j (by omega) hp) (fun e => he e.symm)
      simp [this]
theorem out_bl (t : Tr code) {q i : Nat} (hi : i < code.length) (h0 : 0 < i) (ki : spr code i = false) (h : Kp code q i) : bl_q (outL code code.length) (nsp code i) 0 (nsp code i) = [(nsp code q : Int)] := by
  unfold bl_q
  have e : List.range' 0 (nsp code i) = List.range (nsp code i) := by rw [List.range_eq_range']
  have hql := h.lt
  rw [e, filter_one (k := nsp code q) (nsp code i) (nsp_lt h.1 hql) ((out_isB t (by omega) hi h0 h.1 ki).2 h) (fun m hm hp => ?_)]
  · rfl
  · obtain ⟨r, r1, r2, r3⟩ := out_inv i m hm
    rw [← r3] at hp ⊢
    rw [kp_uniq t hi h ((out_isB t (by omega) hi h0 r2 ki).1 hp)]
end
end Go.Proofs.Ytdmbnlpcfgphpaa.Q
namespace Go.Proofs.Ytdmbnlpcfgphpaa.Q
open Go.RowKit Go.Proofs.YtdmbnlpcfgphpaaW.PrintWords Go.Proofs.YtdmbnlpcfgphpaaW.PrintLast Go.Proofs.YtdmbnlpcfgphpaaW.PrintMore
set_option linter.unusedVariables false
set_option linter.unusedSimpArgs false
section
variable {code : List S40}
theorem noA_us {o : Int} (h : okO o = true) : noA o = !usA o ∧ (noA o || noB o) = !usB o := by
  rcases op_cases h with rfl | rfl | rfl | rfl | rfl | rfl | rfl | rfl | rfl | rfl | rfl | rfl | rfl | rfl | rfl | rfl | rfl | rfl <;> decide
theorem mea_bd (t : Tr code) {u : Int} (h : 0 ≤ u ∧ u < 400) : 0 ≤ mea code u ∧ mea code u < 400 := by
  rw [← mnt_Mg t]
  exact bd_mnt (Mg_bd t) h
theorem mea_keep (t : Tr code) {k : Nat} (hk : k < code.length) (hs : spr code k = false) (hd : usD (ins code k).f0 = true) : mea code (ins code k).f1 = (ins code k).f1 := by
  cases hm : mkr code (ins code k).f1 with
  | none => exact mea_none hm
  | some i =>
    obtain ⟨h1, h2, h3⟩ := (mkr_some t).1 hm
    rw [t.uniq i k h1 hk (spr_D h3) hd h2, hs] at h3
    cases h3
/-- The temp that stands for one that is made above is made above, by a piece that stays. -/
theorem mea_made (t : Tr code) {i : Nat} : ∀ k, k < i → k < code.length → Sub code k i → usD (ins code k).f0 = true → ∃ k2, k2 < i ∧ spr code k2 = false ∧ Sub code k2 i ∧ usD (ins code k2).f0 = true ∧ (ins code k2).f1 = mea code (ins code k).f1 := by
  intro k
  induction k using Nat.strongRecOn with
  | ind k ih =>
    intro h1 h2 h3 h4
    cases hs : spr code k
    · exact ⟨k, h1, hs, h3, h4, (mea_keep t h2 hs h4).symm⟩
    · obtain ⟨h6, v, hv⟩ := spr_parts hs
      obtain ⟨j, j1, j2, j3, j4⟩ := kw_made t k h2 hv
      obtain ⟨k2, q1, q2, q3, q4, q5⟩ := ih j j1 (by omega) (by omega) (Sub.trans j2 h3) j3
      refine ⟨k2, q1, q2, q3, q4, ?_⟩
      rw [q5, j4, mea_some t ((mkr_some t).2 ⟨h2, rfl, hs⟩) hv]
theorem agI_parts (x : S40) : (agI code x).f0 = x.f0 ∧ (agI code x).f1 = x.f1 ∧ (agI code x).f4 = x.f4 ∧ (agI code x).f5 = x.f5 ∧ (agI code x).f6 = x.f6 := ⟨rfl, rfl, rfl, rfl, rfl⟩
theorem agI_f2 {x : S40} (ho : okO x.f0 = true) : (agI code x).f2 = if usA x.f0 = true then mea code x.f2 else 0 := by
  show (if noA x.f0 = true then 0 else mea code x.f2) = _
  rw [(noA_us ho).1]
  cases usA x.f0 <;> rfl
theorem agI_f3 {x : S40} (ho : okO x.f0 = true) : (agI code x).f3 = if usB x.f0 = true then mea code x.f3 else 0 := by
  show (if noA x.f0 = true then 0 else if noB x.f0 = true then 0 else mea code x.f3) = _
  have h := (noA_us ho).2
  cases hb : usB x.f0 <;> rw [hb] at h
  · cases ha : noA x.f0
    · rw [ha] at h; simp at h; rw [h]; rfl
    · rfl
  · simp at h; rw [h.1, h.2]; rfl
/-- .. its length; the last piece. -/
theorem last_keep (t : Tr code) : spr code (code.length - 1) = false ∧ nsp code code.length = nsp code (code.length - 1) + 1 := by
  have h : spr code (code.length - 1) = false := by
    cases hs : spr code (code.length - 1)
    · rfl
    · exact absurd t.last (spr_op hs).1
  refine ⟨h, ?_⟩
  have := nsp_keep h
  rwa [show code.length - 1 + 1 = code.length by have := t.n1; omega] at this
theorem to_keep (t : Tr code) {i : Nat} (hi : i < code.length) (ki : spr code i = false) (hT : usT (ins code i).f0 = true) : nsp code i + 1 < nsp code (ins code i).f7.toNat ∧ nsp code (ins code i).f7.toNat < nsp code code.length := by
  have ht := t.tgt i hi hT
  obtain ⟨q, hq⟩ : ∃ q : Nat, (ins code i).f7 = (q : Int) := ⟨(ins code i).f7.toNat, by omega⟩
  rw [hq] at ht ⊢
  rw [Int.toNat_natCast]
  have hp := t.par_to hi hT
  rw [hq, Int.toNat_natCast] at hp
  have h18 : (ins code (q - 1)).f0 = 18 := by
    apply Classical.byContradiction
    intro h
    have := t.par_next (i := q - 1) (by omega) h
    rw [show q - 1 + 1 = q by omega, hp] at this
    omega
  have hk : spr code (q - 1) = false := by
    cases hs : spr code (q - 1)
    · rfl
    · exact absurd h18 (spr_op hs).1
  have h1 := nsp_keep hk
  rw [show q - 1 + 1 = q by omega] at h1
  have h2 := nsp_mono (code := code) (i := i + 1) (q - 1) (by omega)
  rw [nsp_keep ki] at h2
  have h3 := (last_keep t).2
  have h4 := nsp_mono (code := code) (i := q) (code.length - 1) (by omega)
  omega
theorem out_chk {l : List S80} (hR : right code l = true) {i : Nat} (hi : i < code.length) (ki : spr code i = false) : chk (outL code code.length) l (nsp code code.length) (nsp code i) = true := by
  have t := tr_of hR
  have h := (right_parts hR).2.2.2.1 i hi
  have hN := t.tgt i hi
  have hto := to_keep t hi ki
  unfold chk at h ⊢
  rw [ins_out hi ki]
  simp only [Bool.and_eq_true] at h ⊢
  obtain ⟨⟨⟨⟨⟨⟨⟨a1, a2⟩, a3⟩, a4⟩, a5⟩, a6⟩, a7⟩, a8⟩ := h
  refine ⟨⟨⟨⟨⟨⟨⟨a1, a2⟩, ?_⟩, ?_⟩, a5⟩, a6⟩, ?_⟩, ?_⟩
  · rw [agI_f2 a1]
    show tmp (usA (ins code i).f0) _ = true
    cases hu : usA (ins code i).f0
    · rfl
    · rw [hu] at a3
      have := mea_bd t (tmp_bd a3)
      simp [tmp]; omega
  · rw [agI_f3 a1]
    show tmp (usB (ins code i).f0) _ = true
    cases hu : usB (ins code i).f0
    · rfl
    · rw [hu] at a4
      have := mea_bd t (tmp_bd a4)
      simp [tmp]; omega
  · show (if usT (ins code i).f0 = true then _ else ((if (ins code i).f7 = 0 then 0 else (nsp code (ins code i).f7.toNat : Int)) == 0)) = true
    cases hT : usT (ins code i).f0
    · rw [if_neg (by decide), if_pos (t.noto i hi hT)]; rfl
    · have h1 := hto hT
      have h2 := hN hT
      rw [if_pos rfl]
      show (decide ((nsp code i : Int) + 1 < (if (ins code i).f7 = 0 then 0 else (nsp code (ins code i).f7.toNat : Int))) && decide ((if (ins code i).f7 = 0 then 0 else (nsp code (ins code i).f7.toNat : Int)) < (nsp code code.length : Int))) = true
      rw [if_neg (by omega)]
      simp; omega
  · show (!(usD (ins code i).f0 && (Md (outL code code.length) (nsp code i) (ins code i).f1).isSome)) = true
    cases hD : usD (ins code i).f0
    · rfl
    · cases hm : Md (outL code code.length) (nsp code i) (ins code i).f1 with
      | none => rfl
      | some v =>
        obtain ⟨j, rfl, j1, j2, j3⟩ := md_spec_q _ _ _ _ hm
        obtain ⟨r, r1, r2, r3⟩ := out_inv i j j1
        rw [← r3, ins_out (by omega) r2] at j2 j3
        have := t.uniq r i (by omega) hi j2 hD j3
        omega
theorem out_T {l : List S80} (hR : right code l = true) : ∀ k, k < nsp code code.length → usT (ins (outL code code.length) k).f0 = true → (k : Int) + 1 < (ins (outL code code.length) k).f7 := fun k hk h => by
  obtain ⟨i, i1, i2, i3⟩ := out_inv code.length k hk
  rw [← i3] at h ⊢
  exact (chk_to (out_chk hR i1 i2) h).1
theorem out_Fm {l : List S80} (hR : right code l = true) {q i : Nat} (hi : i < code.length) (h0 : 0 < i) (ki : spr code i = false) (h : Kp code q i) : Wy (outL code code.length) (nsp code code.length) (nsp code i : Int) = 1 ∧ Fm (outL code code.length) (nsp code code.length) (nsp code i : Int) = (nsp code q : Int) := by
  have t := tr_of hR
  have hb := out_bl t hi h0 ki h
  have h1 := nsp_lt ki hi
  have h2 : 0 < nsp code i := by
    have := nsp_lt (code := code) spr_0 h0
    omega
  obtain ⟨w1, w2⟩ := ways_bl_q (out_T hR) (nsp code i) (by omega) (by omega)
  rw [hb] at w1 w2
  refine ⟨by rw [w1]; rfl, ?_⟩
  have := w2 (by simp)
  simpa using this.symm
theorem out_chn {l : List S80} (hR : right code l = true) {k : Nat} {u : Int} (kk : spr code k = false) (hd : usD (ins code k).f0 = true) (hu : (ins code k).f1 = u) : ∀ f i, nsp code i < f → i < code.length → k < i → spr code i = false → Sub code k i → chn_q (outL code code.length) (nsp code code.length) u f (nsp code i) = true
  | 0, i, h, _, _, _, _ => absurd h (by omega)
  | f + 1, i, hf, hi, hk, ki, hs => by
    have t := tr_of hR
    obtain ⟨q, hq⟩ := kp_ex t i (by omega) hi
    have hF := (out_Fm hR hi (by omega) ki hq).2
    have hql := hq.lt
    have h0 := nsp_lt kk hk
    unfold chn_q
    rw [if_neg (by omega), hF, Int.toNat_natCast, ins_out (by omega) hq.1]
    by_cases he : k = q
    · subst he
      have e1 : (agI code (ins code k)).f1 = u := hu
      have e0 : usD (agI code (ins code k)).f0 = true := hd
      rw [e0, e1]; simp
    · have h1 := kp_sub t hi hq kk hs (by omega)
      have h2 := Sub.le t h1
      have h3 := nsp_lt hq.1 hql
      rw [out_chn hR kk hd hu f q (by omega) (by omega) (by omega) hq.1 h1, Bool.or_true]
theorem out_right {l : List S80} (hR : right code l = true) : right (outL code code.length) l = true := by
  have t := tr_of hR
  obtain ⟨k1, k2⟩ := last_keep t
  have hl := nsp_le code code.length
  have hn4 := t.n4
  have hn1 := t.n1
  have hc : ∀ j, j < nsp code code.length → chk (outL code code.length) l (nsp code code.length) j = true := fun j hj => by
    obtain ⟨i, i1, i2, i3⟩ := out_inv code.length j hj
    rw [← i3]; exact out_chk hR i1 i2
  have hc2 : ∀ j, j < nsp code code.length → chk2 (outL code code.length) (nsp code code.length) j = true := fun j hj => by
    obtain ⟨i, i1, i2, i3⟩ := out_inv code.length j hj
    have ho := t.ok i i1
    have a1 := above_chn_q hc (ins (outL code code.length) j).f2 j hj
    have a2 := above_chn_q hc (ins (outL code code.length) j).f3 j hj
    unfold chk2
    rw [a1, a2]
    rw [← i3] at hj ⊢
    rw [ins_out i1 i2]
    have e0 : (agI code (ins code i)).f0 = (ins code i).f0 := rfl
    rw [e0, agI_f2 ho, agI_f3 ho]
    simp only [Bool.and_eq_true]
    refine ⟨⟨?_, ?_⟩, ?_⟩
    · by_cases h0 : i = 0
      · subst h0; rfl
      · obtain ⟨q, hq⟩ := kp_ex t i (by omega) i1
        rw [(out_Fm hR i1 (by omega) i2 hq).1]; simp
    · cases hu : usA (ins code i).f0
      · rfl
      · obtain ⟨k, q1, q2, q3, q4⟩ := t.opA i i1 hu
        obtain ⟨p, p1, p2, p3, p4, p5⟩ := mea_made t k q1 (by omega) q2 q3
        rw [q4] at p5
        rw [if_pos rfl, out_chn hR p2 p4 p5 _ i (by omega) i1 p1 i2 p3]; rfl
    · cases hu : usB (ins code i).f0
      · rfl
      · obtain ⟨k, q1, q2, q3, q4⟩ := t.opB i i1 hu
        obtain ⟨p, p1, p2, p3, p4, p5⟩ := mea_made t k q1 (by omega) q2 q3
        rw [q4] at p5
        rw [if_pos rfl, out_chn hR p2 p4 p5 _ i (by omega) i1 p1 i2 p3]; rfl
  unfold right
  rw [outL_len]
  simp only [Bool.and_eq_true, decide_eq_true_eq, beq_iff_eq, List.all_eq_true, List.mem_range]
  refine ⟨⟨⟨⟨by omega, by omega⟩, ?_⟩, hc⟩, hc2⟩
  rw [k2, Nat.add_sub_cancel, ins_out (by omega) k1]
  exact t.last
end
end Go.Proofs.Ytdmbnlpcfgphpaa.Q
namespace Go.Proofs.Ytdmbnlpcfgphpaa.Q
open Go.RowKit Go.Proofs.YtdmbnlpcfgphpaaW.PrintWords Go.Proofs.YtdmbnlpcfgphpaaW.PrintLast Go.Proofs.YtdmbnlpcfgphpaaW.PrintMore
set_option linter.unusedVariables false
set_option linter.unusedSimpArgs false
section
variable {code : List S40}
theorem kn_spr (t : Tr code) {m : Nat} (hm : m < code.length) (h : spr code m = true) : kn code (m + 1) = kn code m := by
  have ho := spr_op h
  obtain ⟨h6, h7⟩ := (spr_kn m).1 h
  rw [kn_step t (by omega) (t.nx m hm ho.1), t.par_next hm ho.1]
  unfold kstep
  rw [if_pos h6, if_pos h7]
theorem kn_chain (t : Tr code) {c i : Nat} (hi : i < code.length) (hc : c ≤ i) (h : ∀ m, c ≤ m → m < i → spr code m = true) : kn code i = kn code c := by
  induction i with
  | zero => rw [show c = 0 by omega]
  | succ i ih =>
    by_cases he : c = i + 1
    · rw [he]
    · rw [kn_spr t (by omega) (h i (by omega) (by omega)), ih (by omega) (by omega) (fun m h1 h2 => h m h1 (by omega))]
theorem kn_kp (t : Tr code) {q i : Nat} (hi : i < code.length) (h : Kp code q i) : kn code i = kstep (ins code q) (Mg code) (kn code q) := by
  obtain ⟨_, c, c1, c2, c3, c4⟩ := h
  rw [kn_chain t hi c2 c4, kn_step t (by omega) (by omega), c3]
theorem out_par {l : List S80} (hR : right code l = true) {q i : Nat} (hi : i < code.length) (h0 : 0 < i) (ki : spr code i = false) (h : Kp code q i) : par (outL code code.length) (nsp code i) = nsp code q := by
  unfold par
  rw [outL_len, (out_Fm hR hi h0 ki h).2, Int.toNat_natCast]
theorem out_kw {l : List S80} (hR : right code l = true) : ∀ i, i < code.length → spr code i = false → ∀ loc, kw (outL code code.length) (nsp code i) loc = kn code i loc := by
  have t := tr_of hR
  have tO := tr_of (out_right hR)
  intro i
  induction i using Nat.strongRecOn with
  | ind i ih =>
    intro hi ki loc
    by_cases h0 : i = 0
    · subst h0; rfl
    obtain ⟨q, hq⟩ := kp_ex t i (by omega) hi
    have hql := hq.lt
    have h1 := nsp_lt ki hi
    have h2 : 0 < nsp code i := by
      have := nsp_lt (code := code) spr_0 (show 0 < i by omega)
      omega
    have ihq := ih q hql (by omega) hq.1 loc
    rw [kw_step tO h2 (by rw [outL_len]; exact h1), out_par hR hi (by omega) ki hq, ins_out (by omega) hq.1, kn_kp t hi hq, ihq]
    have e0 : (agI code (ins code q)).f0 = (ins code q).f0 := rfl
    have e1 : (agI code (ins code q)).f1 = (ins code q).f1 := rfl
    have e4 : (agI code (ins code q)).f4 = (ins code q).f4 := rfl
    have e5 : (agI code (ins code q)).f5 = (ins code q).f5 := rfl
    rw [e0, e1, e4, e5]
    have e2 := agI_f2 (code := code) (t.ok q (by omega))
    have hkq := hq.1
    have hsk := spr_kn (code := code) q
    rw [hkq] at hsk
    unfold kstep
    by_cases h6 : (ins code q).f0 = 6
    · have hnone : (kn code q (ins code q).f4).isSome = false := by
        cases hh : (kn code q (ins code q).f4).isSome
        · rfl
        · exact absurd (hsk.2 ⟨h6, hh⟩) (by decide)
      rw [if_pos h6, if_neg (show ¬ (kn code q (ins code q).f4).isSome = true by rw [hnone]; decide)]
      try dsimp only
      by_cases he : (ins code q).f4 = loc
      · rw [if_pos ⟨h6, he⟩, if_pos he.symm]
      · rw [if_neg (fun h => he h.2), if_neg (fun h => he h.2), if_neg (by rw [h6]; simp [isAtom]), if_neg (fun h => he h.symm)]
    rw [if_neg (fun h => h6 h.1), if_neg h6]
    by_cases h7 : (ins code q).f0 = 7
    · rw [if_pos h7]
      try dsimp only
      have e2' : (agI code (ins code q)).f2 = mea code (ins code q).f2 := by rw [e2, if_pos (by rw [h7]; decide)]
      rw [e2', mnt_Mg t]
      by_cases he : (ins code q).f4 = loc
      · rw [if_pos ⟨h7, he⟩, if_pos he.symm]
      · rw [if_neg (fun h => he h.2), if_neg (by rw [h7]; simp [isAtom]), if_neg (fun h => he h.symm)]
    rw [if_neg (fun h => h7 h.1), if_neg h7]
    by_cases h14 : (ins code q).f0 = 14
    · rw [if_pos h14]
      try dsimp only
      by_cases he : (ins code q).f4 ≤ loc ∧ loc < (ins code q).f4 + (ins code q).f5
      · rw [if_pos (Or.inl ⟨h14, he⟩), if_pos he]
      · rw [if_neg (by rintro (h | h); exact he h.2; rw [h14] at h; revert h; decide), if_neg he]
    rw [if_neg h14]
    by_cases ha : isAtom (ins code q).f0 = true
    · rw [if_pos (Or.inr ha), if_pos ha]
    · rw [if_neg (by rintro (h | h); exact h14 h.1; exact ha h), if_neg ha]
theorem out_spr {l : List S80} (hR : right code l = true) : ∀ j, j < nsp code code.length → spr (outL code code.length) j = false := fun j hj => by
  obtain ⟨i, i1, i2, i3⟩ := out_inv code.length j hj
  subst i3
  have h := spr_kn (code := code) i
  rw [i2] at h
  unfold spr
  rw [ins_out i1 i2]
  have e0 : (agI code (ins code i)).f0 = (ins code i).f0 := rfl
  have e4 : (agI code (ins code i)).f4 = (ins code i).f4 := rfl
  rw [e0, e4, out_kw hR i i1 i2]
  cases h1 : (ins code i).f0 == 6
  · rfl
  · cases h2 : (kn code i (ins code i).f4).isSome
    · rfl
    · exact absurd (h.2 ⟨by simpa using h1, h2⟩) (by decide)
theorem out_spL {l : List S80} (hR : right code l = true) : spL (outL code code.length) = List.replicate (nsp code code.length) false := by
  apply List.ext_getElem
  · rw [spL_len, outL_len, List.length_replicate]
  · intro j h1 h2
    rw [List.getElem_replicate]
    rw [spL_len, outL_len] at h1
    simp only [spL, List.getElem_map, List.getElem_range]
    exact out_spr hR j h1
end
end Go.Proofs.Ytdmbnlpcfgphpaa.Q
namespace Go.Proofs.Ytdmbnlpcfgphpaa.Q
open Go.RowKit Go.Proofs.YtdmbnlpcfgphpaaW.PrintWords Go.Proofs.YtdmbnlpcfgphpaaW.PrintLast Go.Proofs.YtdmbnlpcfgphpaaW.PrintMore
set_option linter.unusedVariables false
set_option linter.unusedSimpArgs false
/-- What is told along one run: a spare piece gets what it knows. -/
def trF (code : List S40) : Nat → Int → List Int → List Int → List Int
  | 0, _, _, ans => ans
  | f + 1, i, T, ans =>
    if (stp (ins code i.toNat) i T []).fin = 4 then
      if spr code i.toNat = true then rd T (mea code (ins code i.toNat).f1) :: trF code f (stp (ins code i.toNat) i T [rd T (mea code (ins code i.toNat).f1)]).next (stp (ins code i.toNat) i T [rd T (mea code (ins code i.toNat).f1)]).T ans
      else match ans with
        | [] => []
        | y :: s => y :: trF code f (stp (ins code i.toNat) i T [y]).next (stp (ins code i.toNat) i T [y]).T s
    else if (stp (ins code i.toNat) i T []).fin = 0 then trF code f (stp (ins code i.toNat) i T []).next (stp (ins code i.toNat) i T []).T ans
    else ans
section
variable {code : List S40}
theorem stp_ask1 (x : S40) (i : Int) (T : List Int) (y : Int) : (stp x i T []).fin = 4 → (stp x i T [y]).fin = 0 ∧ (stp x i T [y]).ans = [] := by
  refine stp_rel (fun r s => r.fin = 4 → s.fin = 0 ∧ s.ans = []) x x i i T T [] [y] rfl rfl rfl rfl (fun _ => rfl) (fun _ => rfl) ?_ ?_ ?_ ?_ ?_ ?_ ?_ ?_
  · intro v _ _ h; simp [stSet] at h
  · intro s hs h; simp only [stGo] at h; omega
  · intro k loc new _ h; exact ⟨rfl, rfl⟩
  · intro _ h; unfold stCas; dsimp only; split <;> exact ⟨rfl, rfl⟩
  · intro k loc v _ h; simp [stTell] at h
  · intro _ h; simp [stGo] at h
  · intro _ h; simp [stGo] at h
  · intro _ h; simp [stGo] at h
theorem stp_ask2 (x : S40) (i : Int) (T : List Int) (y : Int) (s : List Int) (h : (stp x i T []).fin = 4) : stp x i T (y :: s) = ⟨(stp x i T [y]).next, 0, (stp x i T [y]).T, s, (stp x i T [y]).new⟩ := by
  obtain ⟨h1, h2⟩ := stp_ask1 x i T y h
  have h3 := (stp_more x i T [y] s).1 (by omega)
  rw [h1, h2] at h3
  exact h3
theorem stp_go2 (x : S40) (i : Int) (T : List Int) (s : List Int) (h : (stp x i T []).fin ≠ 4) : stp x i T s = ⟨(stp x i T []).next, (stp x i T []).fin, (stp x i T []).T, s, (stp x i T []).new⟩ := by
  have h3 := (stp_more x i T [] s).1 h
  rw [List.nil_append] at h3
  rw [h3]
  have h4 : (stp x i T []).ans = [] := by
    refine stp_elim (fun r => r.ans = []) x i T [] ?_ ?_ ?_ ?_ ?_ ?_ ?_ <;> intros <;> rfl
  rw [h4, List.nil_append]
theorem folF_0 {f i : Nat} {T : List Int} (h : (stp (ins code i) (i : Int) T []).fin = 0) (more : List Int) : folF code (f + 1) (i : Int) T more = folF code f (stp (ins code i) (i : Int) T []).next (stp (ins code i) (i : Int) T []).T more := by
  have e := stp_go2 (ins code i) (i : Int) T more (by omega)
  have hs := @folF_st code f i T more _ e
  exact hs.1 h
theorem folF_ask {f i : Nat} {T : List Int} (h : (stp (ins code i) (i : Int) T []).fin = 4) (y : Int) (more : List Int) : folF code (f + 1) (i : Int) T (y :: more) = folF code f (stp (ins code i) (i : Int) T [y]).next (stp (ins code i) (i : Int) T [y]).T more := by
  have e := stp_ask2 (ins code i) (i : Int) T y more h
  have hs := @folF_st code f i T (y :: more) _ e
  exact hs.1 rfl
theorem folF_end {f i : Nat} {T : List Int} (h : (stp (ins code i) (i : Int) T []).fin ≠ 0) : folF code (f + 1) (i : Int) T [] = ((i : Int), T, (stp (ins code i) (i : Int) T []).fin == 4) :=
  (@folF_st code f i T [] _ rfl).2 h
theorem Mg_mea (t : Tr code) {i : Nat} (hi : i < code.length) (h : spr code i = true) : (Mg code (ins code i).f1).getD 0 = mea code (ins code i).f1 := by
  rw [← mnt_Mg t]
  unfold mnt
  rw [Mg_spr t hi h]
  obtain ⟨w, hw⟩ := Option.isSome_iff_exists.1 ((spr_kn i).1 h).2
  rw [hw]
  rfl
theorem ful_tr {l : List S80} (hR : right code l = true) : ∀ (f i : Nat) (T out ans : List Int) (g : Nat), i < code.length → code.length - i ≤ f → f + 1 ≤ g → (∀ more, fol code (out ++ more) = folF code f (i : Int) T more) → fulF code g out ans = out ++ trF code f (i : Int) T ans
  | 0, i, T, out, ans, g, hi, hf, _, _ => absurd hf (by omega)
  | f + 1, i, T, out, ans, g, hi, hf, hg, H => by
    obtain ⟨h1, h2, h3, h4, -⟩ := right_parts hR
    have t := tr_of hR
    obtain ⟨g, rfl⟩ : ∃ q, g = q + 1 := ⟨g - 1, by omega⟩
    have H0 := H []
    rw [List.append_nil] at H0
    unfold trF
    rw [Int.toNat_natCast]
    by_cases hask : (stp (ins code i) (i : Int) T []).fin = 4
    · rw [if_pos hask]
      rw [folF_end (by omega), hask] at H0
      have hst := @fulF_st code g i out ans T (by rw [H0]; exact Int.toNat_natCast _) (by rw [H0])
      have ht : (fol code out).2.2 = true := by rw [H0]; rfl
      have step : ∀ y s, fulF code g (out ++ [y]) s = out ++ (y :: trF code f (stp (ins code i) (i : Int) T [y]).next (stp (ins code i) (i : Int) T [y]).T s) := fun y s => by
        have h0 := (stp_ask1 (ins code i) (i : Int) T y hask).1
        have hn := next_in h2 h3 hi (h4 i hi) T [y] h0
        obtain ⟨q, hq⟩ : ∃ q : Nat, (stp (ins code i) (i : Int) T [y]).next = (q : Int) := ⟨(stp (ins code i) (i : Int) T [y]).next.toNat, by omega⟩
        rw [hq] at hn ⊢
        rw [ful_tr hR f q (stp (ins code i) (i : Int) T [y]).T (out ++ [y]) s g (by omega) (by omega) (by omega) (fun more => by
          rw [List.append_assoc, H ([y] ++ more)]
          show folF code (f + 1) (i : Int) T (y :: more) = _
          rw [folF_ask hask, hq])]
        rw [List.append_assoc]
        rfl
      cases hs : spr code i
      · rw [if_neg (by decide)]
        have h5 := hst.2.2 ht hs
        cases ans with
        | nil => rw [h5.1 rfl, List.append_nil]
        | cons y s => rw [h5.2 y s rfl, step y s]
      · rw [if_pos rfl, hst.2.1 ht hs, Mg_mea t hi hs, step _ ans]
    · rw [if_neg hask]
      by_cases h0 : (stp (ins code i) (i : Int) T []).fin = 0
      · rw [if_pos h0]
        have hn := next_in h2 h3 hi (h4 i hi) T [] h0
        obtain ⟨q, hq⟩ : ∃ q : Nat, (stp (ins code i) (i : Int) T []).next = (q : Int) := ⟨(stp (ins code i) (i : Int) T []).next.toNat, by omega⟩
        rw [hq] at hn ⊢
        exact ful_tr hR f q _ out ans (g + 1) (by omega) (by omega) (by omega) (fun more => by rw [H more, folF_0 h0, hq])
      · rw [if_neg h0]
        rw [folF_end h0] at H0
        have hst := @fulF_st code g i out ans T (by rw [H0]; exact Int.toNat_natCast _) (by rw [H0])
        exact hst.1 (by rw [H0]; simpa using hask)
theorem full_tr {l : List S80} (hR : right code l = true) (answers : List Int) : full code answers = trF code code.length 0 zT answers := by
  have h := (right_parts hR).1
  have := ful_tr hR code.length 0 zT [] answers (code.length + 1) (by omega) (by omega) (by omega) (fun more => rfl)
  rw [List.nil_append] at this
  exact this
end
end Go.Proofs.Ytdmbnlpcfgphpaa.Q
namespace Go.Proofs.Ytdmbnlpcfgphpaa.Q
open Go.RowKit Go.Proofs.YtdmbnlpcfgphpaaW.PrintWords Go.Proofs.YtdmbnlpcfgphpaaW.PrintLast Go.Proofs.YtdmbnlpcfgphpaaW.PrintMore
set_option linter.unusedVariables false
set_option linter.unusedSimpArgs false
/-- A run, of each act the piece that does it. -/
def runG (code : List S40) : Nat → Int → List Int → List Int → List (Nat × S47) × Int
  | 0, _, _, _ => ([], 0)
  | f + 1, i, T, ans => if (stp (ins code i.toNat) i T ans).fin = 0 then
      ((stp (ins code i.toNat) i T ans).new.map (fun a => (i.toNat, a)) ++ (runG code f (stp (ins code i.toNat) i T ans).next (stp (ins code i.toNat) i T ans).T (stp (ins code i.toNat) i T ans).ans).1, (runG code f (stp (ins code i.toNat) i T ans).next (stp (ins code i.toNat) i T ans).T (stp (ins code i.toNat) i T ans).ans).2)
    else ((stp (ins code i.toNat) i T ans).new.map (fun a => (i.toNat, a)), (stp (ins code i.toNat) i T ans).fin)
theorem runG_st {code : List S40} {f i : Nat} {T ans : List Int} {r : Rs} (h : stp (ins code i) (i : Int) T ans = r) : (r.fin = 0 → runG code (f + 1) (i : Int) T ans = (r.new.map (fun a => (i, a)) ++ (runG code f r.next r.T r.ans).1, (runG code f r.next r.T r.ans).2)) ∧ (r.fin ≠ 0 → runG code (f + 1) (i : Int) T ans = (r.new.map (fun a => (i, a)), r.fin)) := by
  subst h
  conv => enter [1, 2, 1]; unfold runG
  conv => enter [2, 2, 1]; unfold runG
  rw [Int.toNat_natCast]
  exact ⟨fun h0 => by rw [if_pos h0], fun h0 => by rw [if_neg h0]⟩
theorem runF_G {code : List S40} : ∀ (f : Nat) (i : Int) (T ans : List Int) (acts : List S47), runF code f i T ans acts = (acts ++ (runG code f i T ans).1.map (·.2), (runG code f i T ans).2)
  | 0, i, T, ans, acts => by simp [runF, runG]
  | f + 1, i, T, ans, acts => by
    have hm : ∀ l : List S47, (l.map (fun a => (i.toNat, a))).map (·.2) = l := fun l => by
      rw [List.map_map]
      conv => rhs; rw [← List.map_id l]
      rfl
    unfold runF runG
    by_cases h : (stp (ins code i.toNat) i T ans).fin = 0
    · rw [if_pos h, if_pos h, runF_G f]
      dsimp only
      rw [List.map_append, hm, List.append_assoc]
    · rw [if_neg h, if_neg h]
      dsimp only
      rw [hm]
section
variable {code : List S40}
/-- The temps of the code and of what is left of it, at piece i. -/
structure Sm (code : List S40) (i : Nat) (T U : List Int) : Prop where
  lT : T.length = 400
  lU : U.length = 400
  a : ∀ k, k < code.length → Sub code k i → k ≠ i → usD (ins code k).f0 = true → rd T (mea code (ins code k).f1) = rd T (ins code k).f1
  b : ∀ k, k < code.length → Sub code k i → k ≠ i → spr code k = false → usD (ins code k).f0 = true → rd U (ins code k).f1 = rd T (ins code k).f1
theorem Sm.zero (t : Tr code) : Sm code 0 zT zT := by
  refine ⟨zT_len, zT_len, fun k _ h hn => ?_, fun k _ h hn => ?_⟩ <;> (have := Sub.le t h; omega)
theorem D_bd (t : Tr code) {k : Nat} (hk : k < code.length) : 0 ≤ (ins code k).f1 ∧ (ins code k).f1 < 400 := tmp_bd (t.tD k hk)
/-- Below i, behind a store into its temp. -/
theorem set_ne (t : Tr code) {T : List Int} (hT : T.length = 400) {i k : Nat} (hi : i < code.length) (hk : k < code.length) (hne : k ≠ i) (di : usD (ins code i).f0 = true) (dk : usD (ins code k).f0 = true) (v : Int) : rd (T.set (ins code i).f1.toNat v) (ins code k).f1 = rd T (ins code k).f1 := by
  have b1 := D_bd t hi
  have b2 := D_bd t hk
  rw [rd_set_at hT b1.1 b1.2 _ b2.1 b2.2, if_neg (fun e => hne (t.uniq k i hk hi dk di e))]
theorem set_eq (t : Tr code) {T : List Int} (hT : T.length = 400) {i : Nat} (hi : i < code.length) (v : Int) : rd (T.set (ins code i).f1.toNat v) (ins code i).f1 = v := by
  have b1 := D_bd t hi
  rw [rd_set_at hT b1.1 b1.2 _ b1.1 b1.2, if_pos rfl]
theorem Sm.keep (t : Tr code) {i c : Nat} {T U : List Int} (S : Sm code i T U) (hi : i < code.length) (ki : spr code i = false) (hc : c < code.length) (h0 : 0 < c) (hp : par code c = i) (hd : usD (ins code i).f0 = false) : Sm code c T U := by
  refine ⟨S.lT, S.lU, fun k hk hs hn dk => ?_, fun k hk hs hn sk dk => ?_⟩
  · have h1 := sub_up hs hn
    rw [hp] at h1
    by_cases he : k = i
    · subst he; rw [hd] at dk; cases dk
    · exact S.a k hk h1 he dk
  · have h1 := sub_up hs hn
    rw [hp] at h1
    by_cases he : k = i
    · subst he; rw [hd] at dk; cases dk
    · exact S.b k hk h1 he sk dk
theorem Sm.set (t : Tr code) {i c : Nat} {T U : List Int} (S : Sm code i T U) (hi : i < code.length) (ki : spr code i = false) (hc : c < code.length) (h0 : 0 < c) (hp : par code c = i) (hd : usD (ins code i).f0 = true) (v : Int) : Sm code c (T.set (ins code i).f1.toNat v) (U.set (ins code i).f1.toNat v) := by
  refine ⟨by rw [List.length_set]; exact S.lT, by rw [List.length_set]; exact S.lU, fun k hk hs hn dk => ?_, fun k hk hs hn sk dk => ?_⟩
  · have h1 := sub_up hs hn
    rw [hp] at h1
    by_cases he : k = i
    · subst he; rw [mea_keep t hk ki dk]
    · have hlt := Sub.le t h1
      obtain ⟨p, p1, p2, p3, p4, p5⟩ := mea_made t k (by omega) hk h1 dk
      rw [← p5, set_ne t S.lT hi (by omega) (by omega) hd p4, set_ne t S.lT hi hk he hd dk, p5]
      exact S.a k hk h1 he dk
  · have h1 := sub_up hs hn
    rw [hp] at h1
    by_cases he : k = i
    · subst he; rw [set_eq t S.lT hk, set_eq t S.lU hk]
    · rw [set_ne t S.lT hi hk he hd dk, set_ne t S.lU hi hk he hd dk]
      exact S.b k hk h1 he sk dk
theorem Sm.spare (t : Tr code) {i : Nat} {T U : List Int} (S : Sm code i T U) (hi : i < code.length) (si : spr code i = true) : Sm code (i + 1) (T.set (ins code i).f1.toNat (rd T (mea code (ins code i).f1))) U := by
  have hd := spr_D si
  have ho := spr_op si
  have hp := t.par_next hi ho.1
  have hi1 := t.nx i hi ho.1
  have hs1 : Sub code i (i + 1) := .step _ (by omega) hi1 (by rw [hp]; exact .self)
  have hme : ∀ k, k < i + 1 → k < code.length → Sub code k (i + 1) → usD (ins code k).f0 = true → rd (T.set (ins code i).f1.toNat (rd T (mea code (ins code i).f1))) (mea code (ins code k).f1) = rd T (mea code (ins code k).f1) := fun k k1 k2 k3 k4 => by
    obtain ⟨p, p1, p2, p3, p4, p5⟩ := mea_made t k k1 k2 k3 k4
    rw [← p5]
    exact set_ne t S.lT hi (by omega) (fun e => by rw [e, si] at p2; cases p2) hd p4 _
  refine ⟨by rw [List.length_set]; exact S.lT, S.lU, fun k hk hs hn dk => ?_, fun k hk hs hn sk dk => ?_⟩
  · have h1 := sub_up hs hn
    have hle := Sub.le t hs
    rw [hp] at h1
    rw [hme k (by omega) hk hs dk]
    by_cases he : k = i
    · subst he; rw [set_eq t S.lT hk]
    · rw [set_ne t S.lT hi hk he hd dk]
      exact S.a k hk h1 he dk
  · have h1 := sub_up hs hn
    rw [hp] at h1
    have he : k ≠ i := fun e => by rw [e, si] at sk; cases sk
    rw [set_ne t S.lT hi hk he hd dk]
    exact S.b k hk h1 he sk dk
/-- Operands. -/
theorem Sm.opnd (t : Tr code) {i : Nat} {T U : List Int} (S : Sm code i T U) (hi : i < code.length) {u : Int} (h : ∃ k, k < i ∧ Sub code k i ∧ usD (ins code k).f0 = true ∧ (ins code k).f1 = u) : rd U (mea code u) = rd T u := by
  obtain ⟨k, k1, k2, k3, k4⟩ := h
  obtain ⟨p, p1, p2, p3, p4, p5⟩ := mea_made t k k1 (by omega) k2 k3
  have h1 := S.b p (by omega) p3 (by omega) p2 p4
  have h2 := S.a k (by omega) k2 (by omega) k3
  rw [p5] at h1
  rw [← k4, h1, h2]
theorem stp_sim {l : List S80} (hR : right code l = true) {i : Nat} {T U : List Int} (hi : i < code.length) (ki : spr code i = false) (S : Sm code i T U) (a : List Int) :
    (stp (agI code (ins code i)) (nsp code i : Int) U a).fin = (stp (ins code i) (i : Int) T a).fin ∧ (stp (agI code (ins code i)) (nsp code i : Int) U a).new = (stp (ins code i) (i : Int) T a).new ∧
    ((stp (ins code i) (i : Int) T a).fin = 0 → ∃ c : Nat, (stp (ins code i) (i : Int) T a).next = (c : Int) ∧ (stp (agI code (ins code i)) (nsp code i : Int) U a).next = (nsp code c : Int) ∧ c < code.length ∧ i < c ∧ Sm code c (stp (ins code i) (i : Int) T a).T (stp (agI code (ins code i)) (nsp code i : Int) U a).T) := by
  have t := tr_of hR
  have ho := t.ok i hi
  have key : ((stp (agI code (ins code i)) (nsp code i : Int) U a).fin = (stp (ins code i) (i : Int) T a).fin ∧ (stp (agI code (ins code i)) (nsp code i : Int) U a).new = (stp (ins code i) (i : Int) T a).new) ∧
      ((stp (ins code i) (i : Int) T a).fin = 0 → (((stp (ins code i) (i : Int) T a).next = (i : Int) + 1 ∧ (stp (agI code (ins code i)) (nsp code i : Int) U a).next = (nsp code i : Int) + 1) ∧ (ins code i).f0 ≠ 18 ∨ ((stp (ins code i) (i : Int) T a).next = (ins code i).f7 ∧ (stp (agI code (ins code i)) (nsp code i : Int) U a).next = (agI code (ins code i)).f7) ∧ usT (ins code i).f0 = true) ∧
        ((∃ v, usD (ins code i).f0 = true ∧ (stp (ins code i) (i : Int) T a).T = T.set (ins code i).f1.toNat v ∧ (stp (agI code (ins code i)) (nsp code i : Int) U a).T = U.set (ins code i).f1.toNat v) ∨ (usD (ins code i).f0 = false ∧ (stp (ins code i) (i : Int) T a).T = T ∧ (stp (agI code (ins code i)) (nsp code i : Int) U a).T = U))) := by
    refine stp_rel (fun r s => (s.fin = r.fin ∧ s.new = r.new) ∧ (r.fin = 0 → ((r.next = (i : Int) + 1 ∧ s.next = (nsp code i : Int) + 1) ∧ (ins code i).f0 ≠ 18 ∨ (r.next = (ins code i).f7 ∧ s.next = (agI code (ins code i)).f7) ∧ usT (ins code i).f0 = true) ∧
        ((∃ v, usD (ins code i).f0 = true ∧ r.T = T.set (ins code i).f1.toNat v ∧ s.T = U.set (ins code i).f1.toNat v) ∨ (usD (ins code i).f0 = false ∧ r.T = T ∧ s.T = U)))) (ins code i) (agI code (ins code i)) (i : Int) (nsp code i : Int) T U a a rfl rfl rfl rfl ?_ ?_ ?_ ?_ ?_ ?_ ?_ ?_ ?_ ?_
    · intro hu; rw [agI_f2 ho, if_pos hu]; exact S.opnd t hi (t.opA i hi hu)
    · intro hu; rw [agI_f3 ho, if_pos hu]; exact S.opnd t hi (t.opB i hi hu)
    · intro v h1 h2
      exact ⟨⟨rfl, rfl⟩, fun _ => ⟨Or.inl ⟨⟨rfl, rfl⟩, by omega⟩, Or.inl ⟨v, by unfold usD; simp; omega, rfl, rfl⟩⟩⟩
    · intro s hs; exact ⟨⟨rfl, rfl⟩, fun h => by simp only [stGo] at h; omega⟩
    · intro k loc new hk
      have hD : usD (ins code i).f0 = true := by rcases hk with h | h | h | h | h <;> rw [h] <;> decide
      cases a with
      | nil => exact ⟨⟨rfl, rfl⟩, fun h => by simp [stAsk] at h⟩
      | cons y r => exact ⟨⟨rfl, rfl⟩, fun _ => ⟨Or.inl ⟨⟨rfl, rfl⟩, by omega⟩, Or.inl ⟨y, hD, rfl, rfl⟩⟩⟩
    · intro hk
      have hu : rd U (agI code (ins code i)).f2 = rd T (ins code i).f2 := by
        have hA : usA (ins code i).f0 = true := by rw [hk]; decide
        rw [agI_f2 ho, if_pos hA]; exact S.opnd t hi (t.opA i hi hA)
      have hv : rd U (agI code (ins code i)).f3 = rd T (ins code i).f3 := by
        have hB : usB (ins code i).f0 = true := by rw [hk]; decide
        rw [agI_f3 ho, if_pos hB]; exact S.opnd t hi (t.opB i hi hB)
      have hD : usD (ins code i).f0 = false := by rw [hk]; decide
      have hT : usT (ins code i).f0 = true := by rw [hk]; decide
      cases a with
      | nil => exact ⟨⟨rfl, rfl⟩, fun h => by simp [stCas] at h⟩
      | cons y r =>
        unfold stCas
        dsimp only
        rw [hu, hv]
        by_cases he : y = rd T (ins code i).f2
        · rw [if_pos he, if_pos he]
          exact ⟨⟨rfl, rfl⟩, fun _ => ⟨Or.inl ⟨⟨rfl, rfl⟩, by omega⟩, Or.inr ⟨hD, rfl, rfl⟩⟩⟩
        · rw [if_neg he, if_neg he]
          exact ⟨⟨rfl, rfl⟩, fun _ => ⟨Or.inr ⟨⟨rfl, rfl⟩, hT⟩, Or.inr ⟨hD, rfl, rfl⟩⟩⟩
    · intro k loc v hk
      have hD : usD (ins code i).f0 = false := by rcases hk with h | h | h | h <;> rw [h] <;> decide
      exact ⟨⟨rfl, rfl⟩, fun _ => ⟨Or.inl ⟨⟨rfl, rfl⟩, by omega⟩, Or.inr ⟨hD, rfl, rfl⟩⟩⟩
    · intro hk
      have hD : usD (ins code i).f0 = false := by rcases hk with h | h <;> rw [h] <;> decide
      exact ⟨⟨rfl, rfl⟩, fun _ => ⟨Or.inl ⟨⟨rfl, rfl⟩, by omega⟩, Or.inr ⟨hD, rfl, rfl⟩⟩⟩
    · intro hk
      have hD : usD (ins code i).f0 = false := by rcases hk with h | h <;> rw [h] <;> decide
      have hT : usT (ins code i).f0 = true := by rcases hk with h | h <;> rw [h] <;> decide
      exact ⟨⟨rfl, rfl⟩, fun _ => ⟨Or.inr ⟨⟨rfl, rfl⟩, hT⟩, Or.inr ⟨hD, rfl, rfl⟩⟩⟩
    · intro _; exact ⟨⟨rfl, rfl⟩, fun h => by simp [stGo] at h⟩
  refine ⟨key.1.1, key.1.2, fun h0 => ?_⟩
  obtain ⟨k1, k2⟩ := key.2 h0
  have hc : ∃ c : Nat, (stp (ins code i) (i : Int) T a).next = (c : Int) ∧ (stp (agI code (ins code i)) (nsp code i : Int) U a).next = (nsp code c : Int) ∧ c < code.length ∧ i < c ∧ par code c = i := by
    rcases k1 with ⟨⟨e1, e2⟩, h18⟩ | ⟨⟨e1, e2⟩, hT⟩
    · exact ⟨i + 1, by rw [e1]; rfl, by rw [e2, nsp_keep ki]; rfl, t.nx i hi h18, by omega, t.par_next hi h18⟩
    · have ht := t.tgt i hi hT
      refine ⟨(ins code i).f7.toNat, by rw [e1]; omega, ?_, by omega, by omega, t.par_to hi hT⟩
      rw [e2]
      show (if (ins code i).f7 = 0 then 0 else (nsp code (ins code i).f7.toNat : Int)) = _
      rw [if_neg (by omega)]
  obtain ⟨c, c1, c2, c3, c4, c5⟩ := hc
  refine ⟨c, c1, c2, c3, c4, ?_⟩
  rcases k2 with ⟨v, hD, e1, e2⟩ | ⟨hD, e1, e2⟩
  · rw [e1, e2]; exact S.set t hi ki c3 (by omega) c5 hD v
  · rw [e1, e2]; exact S.keep t hi ki c3 (by omega) c5 hD
end
end Go.Proofs.Ytdmbnlpcfgphpaa.Q
namespace Go.Proofs.Ytdmbnlpcfgphpaa.Q
open Go.RowKit Go.Proofs.YtdmbnlpcfgphpaaW.PrintWords Go.Proofs.YtdmbnlpcfgphpaaW.PrintLast Go.Proofs.YtdmbnlpcfgphpaaW.PrintMore
set_option linter.unusedVariables false
set_option linter.unusedSimpArgs false
section
variable {code : List S40}
/-- The acts of pieces that stay. -/
def kpA (code : List S40) (l : List (Nat × S47)) : List S47 := (l.filter fun p => !spr code p.1).map (·.2)
theorem kpA_app (a b : List (Nat × S47)) : kpA code (a ++ b) = kpA code a ++ kpA code b := by simp [kpA]
theorem kpA_spr {i : Nat} (h : spr code i = true) (l : List S47) : kpA code (l.map fun a => (i, a)) = [] := by
  unfold kpA
  rw [List.filter_eq_nil_iff.2]
  · rfl
  · intro p hp
    obtain ⟨a, _, rfl⟩ := List.mem_map.1 hp
    simp [h]
theorem kpA_keep {i : Nat} (h : spr code i = false) (l : List S47) : kpA code (l.map fun a => (i, a)) = l := by
  unfold kpA
  rw [List.filter_eq_self.2]
  · rw [List.map_map]; conv => rhs; rw [← List.map_id l]
    rfl
  · intro p hp
    obtain ⟨a, _, rfl⟩ := List.mem_map.1 hp
    simp [h]
theorem tags (i : Nat) (l : List S47) : (l.map fun a => (i, a)).map (·.2) = l := by
  rw [List.map_map]
  conv => rhs; rw [← List.map_id l]
  rfl
theorem stp_6 (x : S40) (i : Int) (T : List Int) (h : x.f0 = 6) : (stp x i T []).fin = 4 ∧ ∀ y, stp x i T [y] = ⟨i + 1, 0, T.set x.f1.toNat y, [], [⟨1, x.f4, y, 0⟩]⟩ := by
  have e : ∀ a, stp x i T a = stAsk x i T a 1 x.f4 (fun _ => 0) := fun a => by
    unfold stp
    rw [if_neg (by omega), if_neg (by omega), if_neg (by omega), if_neg (by omega), if_neg (by omega), if_pos h]
  exact ⟨by rw [e]; rfl, fun y => by rw [e]; rfl⟩
theorem sim {l : List S80} (hR : right code l = true) : ∀ (f i : Nat) (T U ans : List Int) (g : Nat), i < code.length → code.length - i ≤ f → nsp code code.length - nsp code i ≤ g → Sm code i T U →
    (runG (outL code code.length) g (nsp code i : Int) U ans).2 = (runG code f (i : Int) T (trF code f (i : Int) T ans)).2 ∧ (runG (outL code code.length) g (nsp code i : Int) U ans).1.map (·.2) = kpA code (runG code f (i : Int) T (trF code f (i : Int) T ans)).1
  | 0, i, T, U, ans, g, hi, hf, _, _ => absurd hf (by omega)
  | f + 1, i, T, U, ans, g, hi, hf, hg, S => by
    obtain ⟨h1, h2, h3, h4, -⟩ := right_parts hR
    have t := tr_of hR
    cases hs : spr code i
    · -- a piece that stays
      have hlt := nsp_lt hs hi
      obtain ⟨g, rfl⟩ : ∃ q, g = q + 1 := ⟨g - 1, by omega⟩
      have hO := ins_out hi hs
      obtain ⟨n1, n2, n3⟩ := stp_sim hR hi hs S []
      by_cases hask : (stp (ins code i) (i : Int) T []).fin = 4
      · rw [hask] at n1
        cases ans with
        | nil =>
          have e1 : trF code (f + 1) (i : Int) T [] = [] := by unfold trF; rw [Int.toNat_natCast, if_pos hask, hs, if_neg (by decide)]
          have g1 := (@runG_st code f i T [] _ rfl).2 (by omega)
          have g2 := (@runG_st (outL code code.length) g (nsp code i) U [] _ (congrArg (fun z => stp z (nsp code i : Int) U []) hO)).2 (by rw [n1]; decide)
          rw [e1, g1, g2, n1, n2, hask]
          exact ⟨rfl, by rw [tags, kpA_keep hs]⟩
        | cons y s =>
          have e1 : trF code (f + 1) (i : Int) T (y :: s) = y :: trF code f (stp (ins code i) (i : Int) T [y]).next (stp (ins code i) (i : Int) T [y]).T s := by
            conv => { lhs; unfold trF }
            rw [Int.toNat_natCast, if_pos hask, hs, if_neg (by decide)]
          obtain ⟨m1, m2, m3⟩ := stp_sim hR hi hs S [y]
          have h0 := (stp_ask1 (ins code i) (i : Int) T y hask).1
          obtain ⟨c, c1, c2, c3, c4, S2⟩ := m3 h0
          have q1 := stp_ask2 (ins code i) (i : Int) T y (trF code f (stp (ins code i) (i : Int) T [y]).next (stp (ins code i) (i : Int) T [y]).T s) hask
          have q2 := stp_ask2 (agI code (ins code i)) (nsp code i : Int) U y s n1
          have g1 := (@runG_st code f i T _ _ q1).1 rfl
          have g2 := (@runG_st (outL code code.length) g (nsp code i) U (y :: s) _ ((congrArg (fun z => stp z (nsp code i : Int) U (y :: s)) hO).trans q2)).1 rfl
          rw [e1, g1, g2]
          dsimp only
          rw [c1, c2, m2]
          have hm := nsp_mono (code := code) (i := i + 1) c (by omega)
          rw [nsp_keep hs] at hm
          obtain ⟨r1, r2⟩ := sim hR f c _ _ s g c3 (by omega) (by omega) S2
          exact ⟨r1, by rw [List.map_append, tags, kpA_app, kpA_keep hs, r2]⟩
      · have hns : (stp (agI code (ins code i)) (nsp code i : Int) U []).fin ≠ 4 := by rw [n1]; exact hask
        by_cases h0 : (stp (ins code i) (i : Int) T []).fin = 0
        · have e1 : trF code (f + 1) (i : Int) T ans = trF code f (stp (ins code i) (i : Int) T []).next (stp (ins code i) (i : Int) T []).T ans := by
            conv => { lhs; unfold trF }
            rw [Int.toNat_natCast, if_neg hask, if_pos h0]
          obtain ⟨c, c1, c2, c3, c4, S2⟩ := n3 h0
          have q1 := stp_go2 (ins code i) (i : Int) T (trF code f (stp (ins code i) (i : Int) T []).next (stp (ins code i) (i : Int) T []).T ans) hask
          have q2 := stp_go2 (agI code (ins code i)) (nsp code i : Int) U ans hns
          have g1 := (@runG_st code f i T _ _ q1).1 h0
          have g2 := (@runG_st (outL code code.length) g (nsp code i) U ans _ ((congrArg (fun z => stp z (nsp code i : Int) U ans) hO).trans q2)).1 (by show (stp (agI code (ins code i)) (nsp code i : Int) U []).fin = 0; rw [n1]; exact h0)
          rw [e1, g1, g2]
          dsimp only
          rw [c1, c2, n2]
          have hm := nsp_mono (code := code) (i := i + 1) c (by omega)
          rw [nsp_keep hs] at hm
          obtain ⟨r1, r2⟩ := sim hR f c _ _ ans g c3 (by omega) (by omega) S2
          exact ⟨r1, by rw [List.map_append, tags, kpA_app, kpA_keep hs, r2]⟩
        · have e1 : trF code (f + 1) (i : Int) T ans = ans := by unfold trF; rw [Int.toNat_natCast, if_neg hask, if_neg h0]
          have q1 := stp_go2 (ins code i) (i : Int) T ans hask
          have q2 := stp_go2 (agI code (ins code i)) (nsp code i : Int) U ans hns
          have g1 := (@runG_st code f i T ans _ q1).2 h0
          have g2 := (@runG_st (outL code code.length) g (nsp code i) U ans _ ((congrArg (fun z => stp z (nsp code i : Int) U ans) hO).trans q2)).2 (by show (stp (agI code (ins code i)) (nsp code i : Int) U []).fin ≠ 0; rw [n1]; exact h0)
          rw [e1, g1, g2]
          dsimp only
          rw [n1, n2]
          exact ⟨rfl, by rw [tags, kpA_keep hs]⟩
    · -- a spare one
      have ho := spr_op hs
      have h6 := (spr_parts hs).1
      obtain ⟨s1, s2⟩ := stp_6 (ins code i) (i : Int) T h6
      have e1 : trF code (f + 1) (i : Int) T ans = rd T (mea code (ins code i).f1) :: trF code f (stp (ins code i) (i : Int) T [rd T (mea code (ins code i).f1)]).next (stp (ins code i) (i : Int) T [rd T (mea code (ins code i).f1)]).T ans := by
        conv => { lhs; unfold trF }
        rw [Int.toNat_natCast, if_pos s1, if_pos hs]
      have q1 := stp_ask2 (ins code i) (i : Int) T (rd T (mea code (ins code i).f1)) (trF code f (stp (ins code i) (i : Int) T [rd T (mea code (ins code i).f1)]).next (stp (ins code i) (i : Int) T [rd T (mea code (ins code i).f1)]).T ans) s1
      have g1 := (@runG_st code f i T _ _ q1).1 rfl
      rw [e1, g1]
      dsimp only
      rw [s2]
      dsimp only
      have hi1 := t.nx i hi ho.1
      obtain ⟨r1, r2⟩ := sim hR f (i + 1) _ U ans g hi1 (by omega) (by rw [nsp_spr hs]; exact hg) (S.spare t hi hs)
      rw [nsp_spr hs] at r1 r2
      refine ⟨r1, ?_⟩
      rw [kpA_app, kpA_spr hs, List.nil_append]
      exact r2
theorem runAll_G (l : List S80) (hR : right code l = true) (answers : List Int) : runAll code l answers = ((runG code code.length 0 zT answers).1.map (·.2), (runG code code.length 0 zT answers).2) := by
  unfold runAll
  rw [hR, if_pos rfl, runF_G, List.nil_append]
/-- P13.3 in plain words. -/
theorem sim_all {l : List S80} (hR : right code l = true) (answers : List Int) : (runAll (outL code code.length) l answers).2 = (runAll code l (full code answers)).2 ∧ (runAll (outL code code.length) l answers).1 = kpA code (runG code code.length 0 zT (full code answers)).1 := by
  have t := tr_of hR
  have h := sim hR code.length 0 zT zT answers (nsp code code.length) (by have := t.n1; omega) (by omega) (by omega) (Sm.zero t)
  rw [runAll_G l (out_right hR), runAll_G l hR, outL_len, full_tr hR]
  exact h
end
end Go.Proofs.Ytdmbnlpcfgphpaa.Q
