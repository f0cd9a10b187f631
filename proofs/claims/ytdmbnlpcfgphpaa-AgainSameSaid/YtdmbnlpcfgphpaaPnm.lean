/- Temps that bear other names: plain laws. -/
import Derived.Test.YtdmbnlpcfgphpaaPst
namespace Go.Proofs.Ytdmbnlpcfgphpaa.Q
open Go.RowKit Go.Proofs.YtdmbnlpcfgphpaaW.PrintWords Go.Proofs.YtdmbnlpcfgphpaaW.PrintLast Go.Proofs.YtdmbnlpcfgphpaaW.PrintMore
set_option linter.unusedVariables false
set_option linter.unusedSimpArgs false
def nm (b t : Int) : Int := (t + b) % 400
theorem nm_bd (b t : Int) : 0 ≤ nm b t ∧ nm b t < 400 := by unfold nm; omega
theorem nm_inj {b s t : Int} (hs : 0 ≤ s ∧ s < 400) (ht : 0 ≤ t ∧ t < 400) (h : nm b s = nm b t) : s = t := by unfold nm at h; omega
def rnI (b : Int) (x : S40) : S40 := ⟨x.f0, if usD x.f0 then nm b x.f1 else x.f1, if usA x.f0 then nm b x.f2 else x.f2, if usB x.f0 then nm b x.f3 else x.f3, x.f4, x.f5, x.f6, x.f7⟩
def rnC (b : Int) (code : List S40) : List S40 := code.map (rnI b)
theorem rnC_len (b : Int) (code : List S40) : (rnC b code).length = code.length := List.length_map _
theorem rnI_z (b : Int) : rnI b z40 = z40 := rfl
theorem ins_rnC (b : Int) (code : List S40) (i : Nat) : ins (rnC b code) i = rnI b (ins code i) := by
  unfold ins rnC
  rw [List.getD_eq_getElem?_getD, List.getD_eq_getElem?_getD, List.getElem?_map]
  cases code[i]? with
  | none => exact (rnI_z b).symm
  | some x => rfl
theorem wy_rn (b : Int) (code : List S40) : ∀ i j, Wy (rnC b code) i j = Wy code i j
  | 0, _ => rfl
  | i + 1, j => by simp only [Wy, ins_rnC, wy_rn b code i j, rnI]
theorem fm_rn (b : Int) (code : List S40) : ∀ i j, Fm (rnC b code) i j = Fm code i j
  | 0, _ => rfl
  | i + 1, j => by simp only [Fm, ins_rnC, fm_rn b code i j, rnI]
theorem fl_rn (b : Int) (code : List S40) (n i : Nat) : fl (rnC b code) n i = fl code n i := by
  unfold fl
  simp only [fm_rn]
theorem md_rn {b : Int} {code : List S40} {t : Int} (ht : 0 ≤ t ∧ t < 400) : ∀ i, (∀ j, j < i → usD (ins code j).f0 = true → 0 ≤ (ins code j).f1 ∧ (ins code j).f1 < 400) → Md (rnC b code) i (nm b t) = Md code i t
  | 0, _ => rfl
  | i + 1, h => by
    have ih := md_rn (b := b) ht i (fun j hj => h j (by omega))
    simp only [Md, ins_rnC, ih]
    cases hd : usD (ins code i).f0
    · simp [rnI, hd]
    · have hb := h i (by omega) hd
      have e : (nm b t == (rnI b (ins code i)).f1) = (t == (ins code i).f1) := by
        simp only [rnI, hd, if_true]
        by_cases he : t = (ins code i).f1
        · rw [he]; simp
        · rw [beq_eq_false_iff_ne.2 he, beq_eq_false_iff_ne.2 (fun h2 => he (nm_inj ht hb h2))]
      rw [e, show (rnI b (ins code i)).f0 = (ins code i).f0 from rfl, hd]
theorem above_rn {b : Int} {code : List S40} {t : Int} (ht : 0 ≤ t ∧ t < 400) (n : Nat) (fs : List Int) (i : Nat) (h : ∀ j, j < n → usD (ins code j).f0 = true → 0 ≤ (ins code j).f1 ∧ (ins code j).f1 < 400) : aboveOf (Md (rnC b code) n) fs (nm b t) i = aboveOf (Md code n) fs t i := by
  unfold aboveOf
  rw [md_rn ht n h]
theorem tmp_rn {u : Bool} {b n : Int} (h : tmp u n = true) : tmp u (if u = true then nm b n else n) = true := by
  cases u
  · exact h
  · have := nm_bd b n
    simp [tmp]
    omega
theorem tmp_bd2 {u : Bool} {n : Int} (h : tmp u n = true) (hu : u = true) : 0 ≤ n ∧ n < 400 := by
  subst hu
  simp [tmp] at h
  omega
theorem right_rn {b : Int} {code : List S40} {l : List S80} (h : right code l = true) : right (rnC b code) l = true := by
  obtain ⟨h1, h2, h3, h4, h5⟩ := right_parts h
  have hb : ∀ j, j < code.length → tmp (usD (ins code j).f0) (ins code j).f1 = true ∧ tmp (usA (ins code j).f0) (ins code j).f2 = true ∧ tmp (usB (ins code j).f0) (ins code j).f3 = true := fun j hj => by
    have := h4 j hj
    simp only [chk, Bool.and_eq_true] at this
    exact ⟨this.1.1.1.1.1.1.2, this.1.1.1.1.1.2, this.1.1.1.1.2⟩
  have hD : ∀ j, j < code.length → usD (ins code j).f0 = true → 0 ≤ (ins code j).f1 ∧ (ins code j).f1 < 400 := fun j hj hu => tmp_bd2 (hb j hj).1 hu
  unfold right
  simp only [Bool.and_eq_true, decide_eq_true_eq, beq_iff_eq, List.all_eq_true, List.mem_range, rnC_len, ins_rnC]
  refine ⟨⟨⟨⟨h1, h2⟩, h3⟩, fun i hi => ?_⟩, fun i hi => ?_⟩
  · have hc := h4 i hi
    have e3 : (usD (ins code i).f0 && (Md (rnC b code) i (rnI b (ins code i)).f1).isSome) = (usD (ins code i).f0 && (Md code i (ins code i).f1).isSome) := by
      cases hd : usD (ins code i).f0
      · rfl
      · simp only [rnI, hd, if_true]
        rw [md_rn (hD i hi hd) i (fun j hj => hD j (by omega))]
    have e4 : chk (rnC b code) l code.length i = true := by
      unfold chk at hc ⊢
      rw [ins_rnC]
      have t1 := tmp_rn (b := b) (hb i hi).1
      have t2 := tmp_rn (b := b) (hb i hi).2.1
      have t3 := tmp_rn (b := b) (hb i hi).2.2
      simp only [Bool.and_eq_true] at hc ⊢
      refine ⟨⟨⟨⟨⟨⟨⟨hc.1.1.1.1.1.1.1, t1⟩, t2⟩, t3⟩, hc.1.1.1.2⟩, hc.1.1.2⟩, hc.1.2⟩, ?_⟩
      have := hc.2
      rw [← e3] at this
      exact this
    exact e4
  · have hc := h5 i hi
    unfold chk2 at hc ⊢
    rw [ins_rnC, wy_rn, fl_rn]
    simp only [Bool.and_eq_true] at hc ⊢
    refine ⟨⟨hc.1.1, ?_⟩, ?_⟩
    · cases ha : usA (ins code i).f0
      · simp [rnI, ha]
      · have h6 := hc.1.2
        rw [ha] at h6
        simp only [rnI, ha, if_true]
        rw [above_rn (tmp_bd2 (hb i hi).2.1 ha) _ _ _ hD]
        exact h6
    · cases ha : usB (ins code i).f0
      · simp [rnI, ha]
      · have h6 := hc.2
        rw [ha] at h6
        simp only [rnI, ha, if_true]
        rw [above_rn (tmp_bd2 (hb i hi).2.2 ha) _ _ _ hD]
        exact h6
/-- Two rows of temps that hold the same under other names. -/
def Rl (b : Int) (T U : List Int) : Prop := T.length = 400 ∧ U.length = 400 ∧ ∀ t, 0 ≤ t → t < 400 → rd U (nm b t) = rd T t
theorem rd_set_at {T : List Int} {i : Int} {n : Int} (hT : T.length = 400) (h0 : 0 ≤ i) (h1 : i < 400) (t : Int) (t0 : 0 ≤ t) (t1 : t < 400) : rd (T.set i.toNat n) t = if t = i then n else rd T t := by
  simp only [rd, List.getD, List.getElem?_set]
  by_cases h : t = i
  · subst h
    rw [if_pos rfl, if_pos rfl, if_pos (by omega)]
    rfl
  · rw [if_neg (by omega), if_neg h]
theorem Rl.set {b : Int} {T U : List Int} (h : Rl b T U) {d : Int} (hd : 0 ≤ d ∧ d < 400) (n : Int) : Rl b (T.set d.toNat n) (U.set (nm b d).toNat n) := by
  obtain ⟨h1, h2, h3⟩ := h
  refine ⟨by rw [List.length_set]; exact h1, by rw [List.length_set]; exact h2, fun t t0 t1 => ?_⟩
  have n1 := nm_bd b d
  have n2 := nm_bd b t
  rw [rd_set_at h2 n1.1 n1.2 _ n2.1 n2.2, rd_set_at h1 hd.1 hd.2 t t0 t1]
  by_cases e : t = d
  · rw [if_pos e, if_pos (by rw [e])]
  · rw [if_neg e, if_neg (fun h4 => e (nm_inj ⟨t0, t1⟩ hd h4)), h3 t t0 t1]
theorem Rl.zero (b : Int) : Rl b zT zT := by
  refine ⟨zT_len, zT_len, fun t t0 t1 => ?_⟩
  have hz : ∀ j : Int, rd zT j = 0 := fun j => by
    simp only [rd, zT, List.getD, List.getElem?_replicate]
    split <;> rfl
  rw [hz, hz]
theorem stp_rn {b : Int} {x : S40} {i : Int} {T U ans : List Int} (h1 : tmp (usD x.f0) x.f1 = true) (h2 : tmp (usA x.f0) x.f2 = true) (h3 : tmp (usB x.f0) x.f3 = true) (hr : Rl b T U) :
    (stp (rnI b x) i U ans).fin = (stp x i T ans).fin ∧ (stp (rnI b x) i U ans).next = (stp x i T ans).next ∧ (stp (rnI b x) i U ans).ans = (stp x i T ans).ans ∧ (stp (rnI b x) i U ans).new = (stp x i T ans).new ∧ Rl b (stp x i T ans).T (stp (rnI b x) i U ans).T := by
  have hA : usA x.f0 = true → rd U (rnI b x).f2 = rd T x.f2 := fun h => by
    have hb := tmp_bd2 h2 h
    simp only [rnI, h, if_true]
    exact hr.2.2 _ hb.1 hb.2
  have hB : usB x.f0 = true → rd U (rnI b x).f3 = rd T x.f3 := fun h => by
    have hb := tmp_bd2 h3 h
    simp only [rnI, h, if_true]
    exact hr.2.2 _ hb.1 hb.2
  have hS : ∀ v, usD x.f0 = true → Rl b (T.set x.f1.toNat v) (U.set (rnI b x).f1.toNat v) := fun v h => by
    have hb := tmp_bd2 h1 h
    simp only [rnI, h, if_true]
    exact hr.set hb v
  refine stp_rel (fun r s => s.fin = r.fin ∧ s.next = r.next ∧ s.ans = r.ans ∧ s.new = r.new ∧ Rl b r.T s.T) x (rnI b x) i i T U ans ans rfl rfl rfl rfl hA hB ?_ ?_ ?_ ?_ ?_ ?_ ?_ ?_
  · intro v g1 g2
    exact ⟨rfl, rfl, rfl, rfl, hS v (by unfold usD; simp; omega)⟩
  · intro s _
    exact ⟨rfl, rfl, rfl, rfl, hr⟩
  · intro k loc new h
    unfold stAsk
    cases ans with
    | nil => exact ⟨rfl, rfl, rfl, rfl, hr⟩
    | cons n r => exact ⟨rfl, rfl, rfl, rfl, hS n (by unfold usD; simp; omega)⟩
  · intro h
    have eA := hA (by rw [h]; decide)
    have eB := hB (by rw [h]; decide)
    unfold stCas
    cases ans with
    | nil => exact ⟨rfl, rfl, rfl, rfl, hr⟩
    | cons n r =>
      dsimp only
      rw [eA, eB]
      split
      · exact ⟨rfl, rfl, rfl, rfl, hr⟩
      · exact ⟨rfl, rfl, rfl, rfl, hr⟩
  · intro k loc v _
    exact ⟨rfl, rfl, rfl, rfl, hr⟩
  · intro _
    exact ⟨rfl, rfl, rfl, rfl, hr⟩
  · intro _
    exact ⟨rfl, rfl, rfl, rfl, hr⟩
  · intro _
    exact ⟨rfl, rfl, rfl, rfl, hr⟩
theorem runF_rn {b : Int} {code : List S40} {l : List S80} (hR : right code l = true) : ∀ (f i : Nat) (T U ans : List Int) (acts : List S47), i < code.length → Rl b T U → runF (rnC b code) f i U ans acts = runF code f i T ans acts
  | 0, _, _, _, _, _, _, _ => rfl
  | f + 1, i, T, U, ans, acts, hi, hr => by
    obtain ⟨h1, h2, h3, h4, h5⟩ := right_parts hR
    have hc := h4 i hi
    have hb : tmp (usD (ins code i).f0) (ins code i).f1 = true ∧ tmp (usA (ins code i).f0) (ins code i).f2 = true ∧ tmp (usB (ins code i).f0) (ins code i).f3 = true := by
      have := hc
      simp only [chk, Bool.and_eq_true] at this
      exact ⟨this.1.1.1.1.1.1.2, this.1.1.1.1.1.2, this.1.1.1.1.2⟩
    have hN := next_in h2 h3 hi hc T ans
    obtain ⟨e1, e2, e3, e4, e5⟩ := stp_rn (b := b) (i := (i : Int)) (ans := ans) hb.1 hb.2.1 hb.2.2 hr
    rw [runF_succ, runF_succ, ins_rnC, e1, e2, e3, e4]
    by_cases hf : (stp (ins code i) i T ans).fin = 0
    · rw [if_pos hf, if_pos hf]
      obtain ⟨g1, g2⟩ := hN hf
      obtain ⟨j, hj⟩ : ∃ j : Nat, (stp (ins code i) i T ans).next = (j : Int) := ⟨(stp (ins code i) i T ans).next.toNat, by omega⟩
      rw [hj]
      exact runF_rn hR f j _ _ _ _ (by omega) e5
    · rw [if_neg hf, if_neg hf]
theorem runAll_rn {b : Int} {code : List S40} {l : List S80} (hR : right code l = true) (answers : List Int) : runAll (rnC b code) l answers = runAll code l answers := by
  unfold runAll
  rw [hR, right_rn hR, rnC_len]
  have h := (right_parts hR).1
  exact runF_rn hR code.length 0 zT zT answers [] (by omega) (Rl.zero b)
end Go.Proofs.Ytdmbnlpcfgphpaa.Q
