/- With more answers right code goes on from where it starved; it ends in one of four ways. -/
import Derived.Test.YtdmbnlpcfgphpaaPst
namespace Go.Proofs.Ytdmbnlpcfgphpaa.Q
open Go.RowKit Go.Proofs.YtdmbnlpcfgphpaaW.PrintWords Go.Proofs.YtdmbnlpcfgphpaaW.PrintLast Go.Proofs.YtdmbnlpcfgphpaaW.PrintMore
set_option linter.unusedVariables false
set_option linter.unusedSimpArgs false
theorem stp_more (x : S40) (i : Int) (T ans more : List Int) : ((stp x i T ans).fin ≠ 4 → stp x i T (ans ++ more) = ⟨(stp x i T ans).next, (stp x i T ans).fin, (stp x i T ans).T, (stp x i T ans).ans ++ more, (stp x i T ans).new⟩) ∧ ((stp x i T ans).fin = 4 → (stp x i T ans).new = [] ∧ (stp x i T ans).ans = [] ∧ (stp x i T ans).T = T) := by
  refine stp_rel (fun r s => (r.fin ≠ 4 → s = ⟨r.next, r.fin, r.T, r.ans ++ more, r.new⟩) ∧ (r.fin = 4 → r.new = [] ∧ r.ans = [] ∧ r.T = T)) x x i i T T ans (ans ++ more) rfl rfl rfl rfl (fun _ => rfl) (fun _ => rfl) ?_ ?_ ?_ ?_ ?_ ?_ ?_ ?_
  · intro v _ _; exact ⟨fun _ => rfl, fun h => by simp [stSet] at h⟩
  · intro s hs; exact ⟨fun _ => rfl, fun h => by simp only [stGo] at h; omega⟩
  · intro k loc new _
    cases ans with
    | nil => exact ⟨fun h => absurd rfl h, fun _ => ⟨rfl, rfl, rfl⟩⟩
    | cons n r => exact ⟨fun _ => rfl, fun h => by simp [stAsk] at h⟩
  · intro _
    cases ans with
    | nil => exact ⟨fun h => absurd rfl h, fun _ => ⟨rfl, rfl, rfl⟩⟩
    | cons n r =>
      by_cases hn : n = rd T x.f2
      · simp [stCas, hn]
      · simp [stCas, hn]
  · intro k loc v _; exact ⟨fun _ => rfl, fun h => by simp [stTell] at h⟩
  · intro _; exact ⟨fun _ => rfl, fun h => by simp [stGo] at h⟩
  · intro _; exact ⟨fun _ => rfl, fun h => by simp [stGo] at h⟩
  · intro _; exact ⟨fun _ => rfl, fun h => by simp [stGo] at h⟩
theorem stp_fin (x : S40) (i : Int) (T ans : List Int) : 0 ≤ (stp x i T ans).fin ∧ (stp x i T ans).fin ≤ 4 := by
  refine stp_elim (fun r => 0 ≤ r.fin ∧ r.fin ≤ 4) x i T ans ?_ ?_ ?_ ?_ ?_ ?_ ?_
  · intros; simp [stSet]
  · intro s hs; simp only [stGo]; omega
  · intros; cases ans <;> simp [stAsk]
  · intro _
    cases ans with
    | nil => simp [stCas]
    | cons n r => by_cases hn : n = rd T x.f2 <;> simp [stCas, hn]
  · intros; simp [stTell]
  · intros; simp [stGo]
  · intros; simp [stGo]
theorem runF_step (code : List S40) (f : Nat) (i : Int) (T ans : List Int) (acts : List S47) : runF code (f + 1) i T ans acts = if (stp (ins code i.toNat) i T ans).fin = 0 then runF code f (stp (ins code i.toNat) i T ans).next (stp (ins code i.toNat) i T ans).T (stp (ins code i.toNat) i T ans).ans (acts ++ (stp (ins code i.toNat) i T ans).new) else (acts ++ (stp (ins code i.toNat) i T ans).new, (stp (ins code i.toNat) i T ans).fin) := rfl
theorem runF_acts (code : List S40) : ∀ (f : Nat) (i : Int) (T ans : List Int) (acts : List S47), acts <+: (runF code f i T ans acts).1
  | 0, _, _, _, _ => List.prefix_refl _
  | f + 1, i, T, ans, acts => by
    rw [runF_step]
    split
    · exact (List.prefix_append _ _).trans (runF_acts code f _ _ _ _)
    · exact List.prefix_append _ _
theorem runF_more (code : List S40) (more : List Int) : ∀ (f : Nat) (i : Int) (T ans : List Int) (acts : List S47), ((runF code f i T ans acts).2 ≠ 4 → runF code f i T (ans ++ more) acts = runF code f i T ans acts) ∧ ((runF code f i T ans acts).2 = 4 → (runF code f i T ans acts).1 <+: (runF code f i T (ans ++ more) acts).1)
  | 0, _, _, _, _ => ⟨fun _ => rfl, fun h => by simp [runF] at h⟩
  | f + 1, i, T, ans, acts => by
    obtain ⟨h1, h2⟩ := stp_more (ins code i.toNat) i T ans more
    rw [runF_step code f i T ans acts]
    by_cases h4 : (stp (ins code i.toNat) i T ans).fin = 4
    · obtain ⟨e1, e2, e3⟩ := h2 h4
      rw [if_neg (by rw [h4]; decide), e1, List.append_nil]
      refine ⟨fun h => absurd h4 h, fun _ => ?_⟩
      exact runF_acts code (f + 1) i T (ans ++ more) acts
    · have e := h1 h4
      rw [runF_step code f i T (ans ++ more) acts, e]
      dsimp only
      by_cases h0 : (stp (ins code i.toNat) i T ans).fin = 0
      · rw [if_pos h0, if_pos h0]
        exact runF_more code more f _ _ _ _
      · rw [if_neg h0, if_neg h0]
        exact ⟨fun _ => rfl, fun h => absurd h h4⟩
/-- How far right code goes: its acts, its end. -/
theorem runF_ends {code : List S40} {l : List S80} (hR : right code l = true) : ∀ (f i : Nat) (T ans : List Int) (acts : List S47), i < code.length → code.length - i ≤ f → (1 ≤ (runF code f i T ans acts).2 ∧ (runF code f i T ans acts).2 ≤ 4) ∧ (runF code f i T ans acts).1.length ≤ acts.length + (code.length - i)
  | 0, i, _, _, _, hi, hf => absurd hf (by omega)
  | f + 1, i, T, ans, acts, hi, hf => by
    obtain ⟨hn1, hn2, h18, hc, -⟩ := right_parts hR
    rw [runF_step, Int.toNat_natCast]
    have hw := stp_new (ins code i) i T ans
    have hfin := stp_fin (ins code i) i T ans
    by_cases h0 : (stp (ins code i) i T ans).fin = 0
    · rw [if_pos h0]
      obtain ⟨h1, h2⟩ := next_in hn2 h18 hi (hc i hi) T ans h0
      obtain ⟨j, hj⟩ : ∃ j : Nat, (stp (ins code i) i T ans).next = (j : Int) := ⟨(stp (ins code i) i T ans).next.toNat, by omega⟩
      rw [hj] at h1 h2 ⊢
      have := runF_ends hR f j (stp (ins code i) i T ans).T (stp (ins code i) i T ans).ans (acts ++ (stp (ins code i) i T ans).new) (by omega) (by omega)
      refine ⟨this.1, ?_⟩
      have h3 := this.2
      rw [List.length_append] at h3
      omega
    · rw [if_neg h0]
      refine ⟨by dsimp only; omega, ?_⟩
      dsimp only
      rw [List.length_append]
      omega
theorem runAll_len (code : List S40) (l : List S80) (answers : List Int) : (runAll code l answers).1.length ≤ 400 := by
  unfold runAll
  split
  · rename_i h
    have hp := right_parts h
    have := (runF_ends h code.length 0 zT answers [] (by omega) (by omega)).2
    simp at this
    have h2 := hp.2.1
    have : (runF code code.length 0 zT answers []).1.length ≤ code.length := this
    omega
  · simp
end Go.Proofs.Ytdmbnlpcfgphpaa.Q
