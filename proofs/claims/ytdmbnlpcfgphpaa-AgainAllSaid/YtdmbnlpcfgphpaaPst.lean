/- What a piece of code does, what right code does: plain functions and plain laws. -/
import Derived.Test.YtdmbnlpcfgphpaaSpec
namespace Go.Proofs.Ytdmbnlpcfgphpaa.Q
open Go.RowKit Go.Proofs.YtdmbnlpcfgphpaaW.PrintWords Go.Proofs.YtdmbnlpcfgphpaaW.PrintLast Go.Proofs.YtdmbnlpcfgphpaaW.PrintMore
set_option linter.unusedVariables false
set_option linter.unusedSimpArgs false
/-- What a piece leaves: which one follows, how it ends (0: it does not), the temps, the answers that are left, the act that it does. -/
structure Rs where
  next : Int
  fin : Int
  T : List Int
  ans : List Int
  new : List S47
/-- A piece that asks. -/
def stAsk (x : S40) (i : Int) (T ans : List Int) (kind loc : Int) (new : Int → Int) : Rs :=
  match ans with
  | [] => ⟨0, 4, T, [], []⟩
  | n :: r => ⟨i + 1, 0, T.set x.f1.toNat n, r, [⟨kind, loc, n, new n⟩]⟩
def stCas (x : S40) (i : Int) (T ans : List Int) : Rs :=
  match ans with
  | [] => ⟨0, 4, T, [], []⟩
  | n :: r => if n = rd T x.f2 then ⟨i + 1, 0, T, r, [⟨5, x.f4, n, rd T x.f3⟩]⟩ else ⟨x.f7, 0, T, r, [⟨3, x.f4, n, 0⟩]⟩
def stSet (x : S40) (i : Int) (T ans : List Int) (v : Int) : Rs := ⟨i + 1, 0, T.set x.f1.toNat v, ans, []⟩
def stTell (i : Int) (T ans : List Int) (kind loc v : Int) : Rs := ⟨i + 1, 0, T, ans, [⟨kind, loc, 0, v⟩]⟩
def stGo (next fin : Int) (T ans : List Int) : Rs := ⟨next, fin, T, ans, []⟩
/-- Is what the first temp holds outside a row? -/
def outb (x : S40) (T : List Int) : Bool := decide (rd T x.f2 < 0) || decide (x.f5 ≤ rd T x.f2)
def stp (x : S40) (i : Int) (T ans : List Int) : Rs :=
  if x.f0 = 1 then stSet x i T ans x.f6
  else if x.f0 = 2 then stSet x i T ans (wrap64 (rd T x.f2 + rd T x.f3))
  else if x.f0 = 3 then stSet x i T ans (wrap64 (rd T x.f2 - rd T x.f3))
  else if x.f0 = 4 then stSet x i T ans (wrap64 (rd T x.f2 * rd T x.f3))
  else if x.f0 = 5 then if rd T x.f3 = 0 then stGo 0 2 T ans else stSet x i T ans (wrap64 ((rd T x.f2).tdiv (rd T x.f3)))
  else if x.f0 = 6 then stAsk x i T ans 1 x.f4 (fun _ => 0)
  else if x.f0 = 7 then stTell i T ans 2 x.f4 (rd T x.f2)
  else if x.f0 = 8 then stAsk x i T ans 3 x.f4 (fun _ => 0)
  else if x.f0 = 9 then stTell i T ans 4 x.f4 (rd T x.f2)
  else if x.f0 = 10 then stAsk x i T ans 5 x.f4 (fun _ => rd T x.f2)
  else if x.f0 = 11 then stAsk x i T ans 5 x.f4 (fun n => wrap64 (n + rd T x.f2))
  else if x.f0 = 12 then stCas x i T ans
  else if x.f0 = 13 then if outb x T then stGo 0 3 T ans else stAsk x i T ans 1 (wrap64 (x.f4 + rd T x.f2)) (fun _ => 0)
  else if x.f0 = 14 then if outb x T then stGo 0 3 T ans else stTell i T ans 2 (wrap64 (x.f4 + rd T x.f2)) (rd T x.f3)
  else if x.f0 = 15 then stTell i T ans 6 0 (rd T x.f2)
  else if x.f0 = 16 then if rd T x.f2 < rd T x.f3 then stGo (i + 1) 0 T ans else stGo x.f7 0 T ans
  else if x.f0 = 17 then if rd T x.f2 = rd T x.f3 then stGo (i + 1) 0 T ans else stGo x.f7 0 T ans
  else stGo 0 1 T ans
def runF (code : List S40) : Nat → Int → List Int → List Int → List S47 → List S47 × Int
  | 0, _, _, _, acts => (acts, 0)
  | f + 1, i, T, ans, acts => if (stp (ins code i.toNat) i T ans).fin = 0 then runF code f (stp (ins code i.toNat) i T ans).next (stp (ins code i.toNat) i T ans).T (stp (ins code i.toNat) i T ans).ans (acts ++ (stp (ins code i.toNat) i T ans).new)
    else (acts ++ (stp (ins code i.toNat) i T ans).new, (stp (ins code i.toNat) i T ans).fin)
def zT : List Int := List.replicate 400 0
theorem zT_len : zT.length = 400 := List.length_replicate
def runAll (code : List S40) (l : List S80) (answers : List Int) : List S47 × Int :=
  if right code l then runF code code.length 0 zT answers [] else ([], 0)
theorem right_parts {code : List S40} {l : List S80} (h : right code l = true) : 1 ≤ code.length ∧ code.length ≤ 400 ∧ (ins code (code.length - 1)).f0 = 18 ∧ (∀ i, i < code.length → chk code l code.length i = true) ∧ (∀ i, i < code.length → chk2 code code.length i = true) := by
  unfold right at h
  simp only [Bool.and_eq_true, decide_eq_true_eq, beq_iff_eq, List.all_eq_true, List.mem_range] at h
  exact ⟨h.1.1.1.1, h.1.1.1.2, h.1.1.2, h.1.2, h.2⟩
theorem tmp_bd {u : Bool} {n : Int} (h : tmp u n = true) : 0 ≤ n ∧ n < 400 := by
  cases u <;> simp [tmp] at h <;> omega
theorem chk_bd {code : List S40} {l : List S80} {n i : Nat} (h : chk code l n i = true) : okO (ins code i).f0 = true ∧ (0 ≤ (ins code i).f1 ∧ (ins code i).f1 < 400) ∧ (0 ≤ (ins code i).f2 ∧ (ins code i).f2 < 400) ∧ (0 ≤ (ins code i).f3 ∧ (ins code i).f3 < 400) := by
  simp only [chk, Bool.and_eq_true] at h
  exact ⟨h.1.1.1.1.1.1.1, tmp_bd h.1.1.1.1.1.1.2, tmp_bd h.1.1.1.1.1.2, tmp_bd h.1.1.1.1.2⟩
theorem chk_to {code : List S40} {l : List S80} {n i : Nat} (h : chk code l n i = true) (hT : usT (ins code i).f0 = true) : (i : Int) + 1 < (ins code i).f7 ∧ (ins code i).f7 < n := by
  simp [chk, hT] at h
  omega
/-- What holds of each form that a piece's work may take holds of it. -/
theorem stp_elim (P : Rs → Prop) (x : S40) (i : Int) (T ans : List Int)
    (set : ∀ v, 1 ≤ x.f0 → x.f0 ≤ 5 → P (stSet x i T ans v)) (trap : ∀ s, s = 2 ∨ s = 3 → P (stGo 0 s T ans))
    (ask : ∀ k loc new, (x.f0 = 6 ∨ x.f0 = 8 ∨ x.f0 = 10 ∨ x.f0 = 11 ∨ x.f0 = 13) → P (stAsk x i T ans k loc new)) (cas : x.f0 = 12 → P (stCas x i T ans))
    (tell : ∀ k loc v, (x.f0 = 7 ∨ x.f0 = 9 ∨ x.f0 = 14 ∨ x.f0 = 15) → P (stTell i T ans k loc v)) (go : ∀ n, (x.f0 = 16 ∨ x.f0 = 17) → (n = i + 1 ∨ n = x.f7) → P (stGo n 0 T ans))
    (stop : ¬ (1 ≤ x.f0 ∧ x.f0 ≤ 17) → P (stGo 0 1 T ans)) : P (stp x i T ans) := by
  unfold stp
  by_cases h1 : x.f0 = 1
  · rw [if_pos h1]; exact set _ (by omega) (by omega)
  rw [if_neg h1]
  by_cases h2 : x.f0 = 2
  · rw [if_pos h2]; exact set _ (by omega) (by omega)
  rw [if_neg h2]
  by_cases h3 : x.f0 = 3
  · rw [if_pos h3]; exact set _ (by omega) (by omega)
  rw [if_neg h3]
  by_cases h4 : x.f0 = 4
  · rw [if_pos h4]; exact set _ (by omega) (by omega)
  rw [if_neg h4]
  by_cases h5 : x.f0 = 5
  · rw [if_pos h5]
    by_cases hc : rd T x.f3 = 0
    · rw [if_pos hc]; exact trap _ (by omega)
    · rw [if_neg hc]; exact set _ (by omega) (by omega)
  rw [if_neg h5]
  by_cases h6 : x.f0 = 6
  · rw [if_pos h6]; exact ask _ _ _ (by omega)
  rw [if_neg h6]
  by_cases h7 : x.f0 = 7
  · rw [if_pos h7]; exact tell _ _ _ (by omega)
  rw [if_neg h7]
  by_cases h8 : x.f0 = 8
  · rw [if_pos h8]; exact ask _ _ _ (by omega)
  rw [if_neg h8]
  by_cases h9 : x.f0 = 9
  · rw [if_pos h9]; exact tell _ _ _ (by omega)
  rw [if_neg h9]
  by_cases h10 : x.f0 = 10
  · rw [if_pos h10]; exact ask _ _ _ (by omega)
  rw [if_neg h10]
  by_cases h11 : x.f0 = 11
  · rw [if_pos h11]; exact ask _ _ _ (by omega)
  rw [if_neg h11]
  by_cases h12 : x.f0 = 12
  · rw [if_pos h12]; exact cas h12
  rw [if_neg h12]
  by_cases h13 : x.f0 = 13
  · rw [if_pos h13]
    by_cases hc : outb x T = true
    · rw [if_pos hc]; exact trap _ (by omega)
    · rw [if_neg hc]; exact ask _ _ _ (by omega)
  rw [if_neg h13]
  by_cases h14 : x.f0 = 14
  · rw [if_pos h14]
    by_cases hc : outb x T = true
    · rw [if_pos hc]; exact trap _ (by omega)
    · rw [if_neg hc]; exact tell _ _ _ (by omega)
  rw [if_neg h14]
  by_cases h15 : x.f0 = 15
  · rw [if_pos h15]; exact tell _ _ _ (by omega)
  rw [if_neg h15]
  by_cases h16 : x.f0 = 16
  · rw [if_pos h16]
    by_cases hc : rd T x.f2 < rd T x.f3
    · rw [if_pos hc]; exact go _ (by omega) (.inl rfl)
    · rw [if_neg hc]; exact go _ (by omega) (.inr rfl)
  rw [if_neg h16]
  by_cases h17 : x.f0 = 17
  · rw [if_pos h17]
    by_cases hc : rd T x.f2 = rd T x.f3
    · rw [if_pos hc]; exact go _ (by omega) (.inl rfl)
    · rw [if_neg hc]; exact go _ (by omega) (.inr rfl)
  rw [if_neg h17]
  exact stop (by omega)
theorem usT_of {o : Int} (h : o = 12 ∨ o = 16 ∨ o = 17) : usT o = true := by rcases h with rfl | rfl | rfl <;> decide
theorem stp_next (x : S40) (i : Int) (T ans : List Int) : (stp x i T ans).fin = 0 → ((stp x i T ans).next = i + 1 ∧ x.f0 ≠ 18 ∨ (stp x i T ans).next = x.f7 ∧ usT x.f0 = true) := by
  refine stp_elim (fun r => r.fin = 0 → (r.next = i + 1 ∧ x.f0 ≠ 18 ∨ r.next = x.f7 ∧ usT x.f0 = true)) x i T ans ?_ ?_ ?_ ?_ ?_ ?_ ?_
  · exact fun v h1 h2 _ => .inl ⟨rfl, by omega⟩
  · intro s hs h
    simp only [stGo] at h
    omega
  · intro k loc new ho h
    cases ans with
    | nil => simp only [stAsk] at h; omega
    | cons n r => exact .inl ⟨rfl, by omega⟩
  · intro ho h
    cases ans with
    | nil => simp only [stCas] at h; omega
    | cons n r =>
      by_cases hn : n = rd T x.f2
      · exact .inl ⟨by simp only [stCas, if_pos hn], by omega⟩
      · exact .inr ⟨by simp only [stCas, if_neg hn], usT_of (.inl ho)⟩
  · exact fun k loc v ho _ => .inl ⟨rfl, by omega⟩
  · intro n ho hn _
    rcases hn with rfl | rfl
    · exact .inl ⟨rfl, by omega⟩
    · exact .inr ⟨rfl, usT_of (by omega)⟩
  · intro ho h
    simp only [stGo] at h
    omega
theorem stp_new (x : S40) (i : Int) (T ans : List Int) : (stp x i T ans).new.length ≤ 1 := by
  refine stp_elim (fun r => r.new.length ≤ 1) x i T ans ?_ ?_ ?_ ?_ ?_ ?_ ?_
  · intros; simp [stSet]
  · intros; simp [stGo]
  · intros; cases ans <;> simp [stAsk]
  · intro _
    cases ans with
    | nil => simp [stCas]
    | cons n r => by_cases hn : n = rd T x.f2 <;> simp [stCas, hn]
  · intros; simp [stTell]
  · intros; simp [stGo]
  · intros; simp [stGo]
theorem next_in {code : List S40} {l : List S80} {i : Nat} (hn : code.length ≤ 400) (h18 : (ins code (code.length - 1)).f0 = 18) (hi : i < code.length) (hc : chk code l code.length i = true) (T ans : List Int) (h : (stp (ins code i) i T ans).fin = 0) :
    (i : Int) < (stp (ins code i) i T ans).next ∧ (stp (ins code i) i T ans).next < code.length := by
  rcases stp_next _ _ _ _ h with ⟨h1, h2⟩ | ⟨h1, h2⟩
  · rw [h1]
    refine ⟨by omega, ?_⟩
    rcases Nat.lt_or_ge (i + 1) code.length with h3 | h3
    · omega
    · rw [show i = code.length - 1 by omega] at h2
      exact absurd h18 h2
  · rw [h1]
    have := chk_to hc h2
    omega
theorem last_ne {code : List S40} {i : Nat} (h18 : (ins code (code.length - 1)).f0 = 18) (hi : i < code.length) (h : (ins code i).f0 ≠ 18) : i + 1 < code.length := by
  rcases Nat.lt_or_ge (i + 1) code.length with h3 | h3
  · exact h3
  · rw [show i = code.length - 1 by omega] at h
    exact absurd h18 h
theorem runF_succ (code : List S40) (f i : Nat) (T ans : List Int) (acts : List S47) : runF code (f + 1) i T ans acts = if (stp (ins code i) i T ans).fin = 0 then runF code f (stp (ins code i) i T ans).next (stp (ins code i) i T ans).T (stp (ins code i) i T ans).ans (acts ++ (stp (ins code i) i T ans).new) else (acts ++ (stp (ins code i) i T ans).new, (stp (ins code i) i T ans).fin) := rfl
theorem drop_cons (answers : List Int) (u : Nat) (h : u < answers.length) : answers.drop u = rd answers (u : Int) :: answers.drop (u + 1) := by
  rw [List.drop_eq_getElem_cons h]
  simp [rd, List.getD, h]
/-- Two pieces of one kind, alike but for the names of temps, on temps that hold the same. -/
theorem stp_rel (P : Rs → Rs → Prop) (x y : S40) (i j : Int) (T U ans bns : List Int) (h0 : y.f0 = x.f0) (h4 : y.f4 = x.f4) (h5 : y.f5 = x.f5) (h6 : y.f6 = x.f6)
    (hA : usA x.f0 = true → rd U y.f2 = rd T x.f2) (hB : usB x.f0 = true → rd U y.f3 = rd T x.f3)
    (set : ∀ v, 1 ≤ x.f0 → x.f0 ≤ 5 → P (stSet x i T ans v) (stSet y j U bns v)) (trap : ∀ s, s = 2 ∨ s = 3 → P (stGo 0 s T ans) (stGo 0 s U bns))
    (ask : ∀ k loc new, (x.f0 = 6 ∨ x.f0 = 8 ∨ x.f0 = 10 ∨ x.f0 = 11 ∨ x.f0 = 13) → P (stAsk x i T ans k loc new) (stAsk y j U bns k loc new)) (cas : x.f0 = 12 → P (stCas x i T ans) (stCas y j U bns))
    (tell : ∀ k loc v, (x.f0 = 7 ∨ x.f0 = 9 ∨ x.f0 = 14 ∨ x.f0 = 15) → P (stTell i T ans k loc v) (stTell j U bns k loc v)) (go1 : (x.f0 = 16 ∨ x.f0 = 17) → P (stGo (i + 1) 0 T ans) (stGo (j + 1) 0 U bns)) (go2 : (x.f0 = 16 ∨ x.f0 = 17) → P (stGo x.f7 0 T ans) (stGo y.f7 0 U bns))
    (stop : ¬ (1 ≤ x.f0 ∧ x.f0 ≤ 17) → P (stGo 0 1 T ans) (stGo 0 1 U bns)) : P (stp x i T ans) (stp y j U bns) := by
  unfold stp
  rw [h0, h4, h6]
  by_cases h1' : x.f0 = 1
  · rw [if_pos h1', if_pos h1']; exact set _ (by omega) (by omega)
  rw [if_neg h1', if_neg h1']
  by_cases h2' : x.f0 = 2
  · rw [if_pos h2', if_pos h2']; have eA := hA (by rw [h2']; decide); have eB := hB (by rw [h2']; decide); rw [eA, eB]; exact set _ (by omega) (by omega)
  rw [if_neg h2', if_neg h2']
  by_cases h3' : x.f0 = 3
  · rw [if_pos h3', if_pos h3']; have eA := hA (by rw [h3']; decide); have eB := hB (by rw [h3']; decide); rw [eA, eB]; exact set _ (by omega) (by omega)
  rw [if_neg h3', if_neg h3']
  by_cases h4' : x.f0 = 4
  · rw [if_pos h4', if_pos h4']; have eA := hA (by rw [h4']; decide); have eB := hB (by rw [h4']; decide); rw [eA, eB]; exact set _ (by omega) (by omega)
  rw [if_neg h4', if_neg h4']
  by_cases h5' : x.f0 = 5
  · rw [if_pos h5', if_pos h5']; have eA := hA (by rw [h5']; decide); have eB := hB (by rw [h5']; decide); rw [eA, eB]
    by_cases hc : rd T x.f3 = 0
    · rw [if_pos hc, if_pos hc]; exact trap _ (by omega)
    · rw [if_neg hc, if_neg hc]; exact set _ (by omega) (by omega)
  rw [if_neg h5', if_neg h5']
  by_cases h6' : x.f0 = 6
  · rw [if_pos h6', if_pos h6']; exact ask _ _ _ (by omega)
  rw [if_neg h6', if_neg h6']
  by_cases h7' : x.f0 = 7
  · rw [if_pos h7', if_pos h7']; have eA := hA (by rw [h7']; decide); rw [eA]; exact tell _ _ _ (by omega)
  rw [if_neg h7', if_neg h7']
  by_cases h8' : x.f0 = 8
  · rw [if_pos h8', if_pos h8']; exact ask _ _ _ (by omega)
  rw [if_neg h8', if_neg h8']
  by_cases h9' : x.f0 = 9
  · rw [if_pos h9', if_pos h9']; have eA := hA (by rw [h9']; decide); rw [eA]; exact tell _ _ _ (by omega)
  rw [if_neg h9', if_neg h9']
  by_cases h10' : x.f0 = 10
  · rw [if_pos h10', if_pos h10']; have eA := hA (by rw [h10']; decide); rw [eA]; exact ask _ _ _ (by omega)
  rw [if_neg h10', if_neg h10']
  by_cases h11' : x.f0 = 11
  · rw [if_pos h11', if_pos h11']; have eA := hA (by rw [h11']; decide); rw [eA]; exact ask _ _ _ (by omega)
  rw [if_neg h11', if_neg h11']
  by_cases h12' : x.f0 = 12
  · rw [if_pos h12', if_pos h12']; exact cas h12'
  rw [if_neg h12', if_neg h12']
  by_cases h13' : x.f0 = 13
  · rw [if_pos h13', if_pos h13']; have eA := hA (by rw [h13']; decide);
    have eo : outb y U = outb x T := by unfold outb; rw [eA, h5]
    rw [eo, eA]
    by_cases hc : outb x T = true
    · rw [if_pos hc, if_pos hc]; exact trap _ (by omega)
    · rw [if_neg hc, if_neg hc]; exact ask _ _ _ (by omega)
  rw [if_neg h13', if_neg h13']
  by_cases h14' : x.f0 = 14
  · rw [if_pos h14', if_pos h14']; have eA := hA (by rw [h14']; decide); have eB := hB (by rw [h14']; decide);
    have eo : outb y U = outb x T := by unfold outb; rw [eA, h5]
    rw [eo, eA, eB]
    by_cases hc : outb x T = true
    · rw [if_pos hc, if_pos hc]; exact trap _ (by omega)
    · rw [if_neg hc, if_neg hc]; exact tell _ _ _ (by omega)
  rw [if_neg h14', if_neg h14']
  by_cases h15' : x.f0 = 15
  · rw [if_pos h15', if_pos h15']; have eA := hA (by rw [h15']; decide); rw [eA]; exact tell _ _ _ (by omega)
  rw [if_neg h15', if_neg h15']
  by_cases h16' : x.f0 = 16
  · rw [if_pos h16', if_pos h16']; have eA := hA (by rw [h16']; decide); have eB := hB (by rw [h16']; decide); rw [eA, eB]
    by_cases hc : rd T x.f2 < rd T x.f3
    · rw [if_pos hc, if_pos hc]; exact go1 (by omega)
    · rw [if_neg hc, if_neg hc]; exact go2 (by omega)
  rw [if_neg h16', if_neg h16']
  by_cases h17' : x.f0 = 17
  · rw [if_pos h17', if_pos h17']; have eA := hA (by rw [h17']; decide); have eB := hB (by rw [h17']; decide); rw [eA, eB]
    by_cases hc : rd T x.f2 = rd T x.f3
    · rw [if_pos hc, if_pos hc]; exact go1 (by omega)
    · rw [if_neg hc, if_neg hc]; exact go2 (by omega)
  rw [if_neg h17', if_neg h17']
  exact stop (by omega)
end Go.Proofs.Ytdmbnlpcfgphpaa.Q
