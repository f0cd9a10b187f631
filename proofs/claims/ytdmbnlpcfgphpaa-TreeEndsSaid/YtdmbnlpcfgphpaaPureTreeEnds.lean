/- Several of my texts in one: YtdmbnlpcfgphpaaStTreeEnds, YtdmbnlpcfgphpaaPmore, YtdmbnlpcfgphpaaPends, YtdmbnlpcfgphpaaPureTreeEnds. -/
import Derived.Test.YtdmbnlpcfgphpaaQx31
import Derived.Test.YtdmbnlpcfgphpaaPst
import Derived.Test.YtdmbnlpcfgphpaaQx28
import Derived.Test.YtdmbnlpcfgphpaaQx29
import Derived.Test.YtdmbnlpcfgphpaaQx30
namespace Go.Proofs.Ytdmbnlpcfgphpaa.StTreeEnds
open Go.RowKit Go.Proofs.YtdmbnlpcfgphpaaW.PrintWords Go.Proofs.YtdmbnlpcfgphpaaW.PrintLast Go.Proofs.Ytdmbnlpcfgphpaa.Q
def good40 (x : S40) : Prop := (Lit.int .i64 x.f0).wf = true ∧ (Lit.int .i64 x.f1).wf = true ∧ (Lit.int .i64 x.f2).wf = true ∧ (Lit.int .i64 x.f3).wf = true ∧ (Lit.int .i64 x.f4).wf = true ∧ (Lit.int .i64 x.f5).wf = true ∧ (Lit.int .i64 x.f6).wf = true ∧ (Lit.int .i64 x.f7).wf = true
def good80 (x : S80) : Prop := True ∧ (Lit.int .i64 x.f1).wf = true
def Pure : Prop := ∀ (l0 : List S40) (l1 : List S80) (l2 : List Int), (∀ x ∈ l0, good40 x) → l0.length * 64 ≤ 140737488351232 → (∀ x ∈ l1, good80 x) → l1.length * 16 ≤ 140737488351232 → (∀ x ∈ l2, (Lit.int .i64 x).wf = true) → l2.length * 8 ≤ 140737488351232 → ∃ k, selvagelaw10_TreeEnds.f k l0 l1 l2 = some true
end Go.Proofs.Ytdmbnlpcfgphpaa.StTreeEnds
namespace Go.Proofs.Ytdmbnlpcfgphpaa.Q
open Go.RowKit Go.Proofs.YtdmbnlpcfgphpaaW.PrintWords Go.Proofs.YtdmbnlpcfgphpaaW.PrintLast Go.Proofs.YtdmbnlpcfgphpaaW.PrintMore
set_option linter.unusedVariables false
set_option linter.unusedSimpArgs false
theorem stp_more (x : S40) (i : Int) (T ans more : List Int) : ((stp x i T ans).fin ≠ 4 → stp x i T (ans ++ more) = ⟨(stp x i T ans).next, (stp x i T ans).fin, (stp x i T ans).T, (stp x i T ans).ans ++ more, (stp x i T ans).new⟩) ∧ ((stp x i T ans).fin = 4 → (stp x i T ans).new = [] ∧ (stp x i T ans).ans = [] ∧ (stp x i T ans).T = T) := by
  refine stp_rel (fun r s => (r.fin ≠ 4 → s = ⟨r.next, r.fin, r.T, r.ans ++ more, r.new⟩) ∧ (r.fin = 4 → r.new = [] ∧ r.ans = [] ∧ r.T = T)) x x i i T T ans (ans ++ more) rfl rfl rfl rfl (fun _ => rfl) (fun _ => rfl) ?_ ?_ ?_ ?_ ?_ ?_ ?_ ?_
  · intro v _ _; exact ⟨fun _ => rfl, fun h => by simp [stSet] at h⟩
  · intro s hs; exact ⟨fun _ => rfl, fun h => by simp only [stGo] at h; omega⟩
  · intro k loc new _
    cases ans with
    | nil => exact ⟨fun h => absurd rfl h, fun _ => ⟨rfl, rfl, rfl⟩⟩
    | cons n r => exact ⟨fun _ => rfl, fun h => by simp [stAsk] at h⟩
  · intro _
    cases ans with
    | nil => exact ⟨fun h => absurd rfl h, fun _ => ⟨rfl, rfl, rfl⟩⟩
    | cons n r =>
      by_cases hn : n = rd T x.f2
      · simp [stCas, hn]
      · simp [stCas, hn]
  · intro k loc v _; exact ⟨fun _ => rfl, fun h => by simp [stTell] at h⟩
  · intro _; exact ⟨fun _ => rfl, fun h => by simp [stGo] at h⟩
  · intro _; exact ⟨fun _ => rfl, fun h => by simp [stGo] at h⟩
  · intro _; exact ⟨fun _ => rfl, fun h => by simp [stGo] at h⟩
theorem stp_fin (x : S40) (i : Int) (T ans : List Int) : 0 ≤ (stp x i T ans).fin ∧ (stp x i T ans).fin ≤ 4 := by
  refine stp_elim (fun r => 0 ≤ r.fin ∧ r.fin ≤ 4) x i T ans ?_ ?_ ?_ ?_ ?_ ?_ ?_
  · intros; simp [stSet]
  · intro s hs; simp only [stGo]; omega
  · intros; cases ans <;> simp [stAsk]
  · intro _
    cases ans with
    | nil => simp [stCas]
    | cons n r => by_cases hn : n = rd T x.f2 <;> simp [stCas, hn]
  · intros; simp [stTell]
  · intros; simp [stGo]
  · intros; simp [stGo]
theorem runF_step (code : List S40) (f : Nat) (i : Int) (T ans : List Int) (acts : List S47) : runF code (f + 1) i T ans acts = if (stp (ins code i.toNat) i T ans).fin = 0 then runF code f (stp (ins code i.toNat) i T ans).next (stp (ins code i.toNat) i T ans).T (stp (ins code i.toNat) i T ans).ans (acts ++ (stp (ins code i.toNat) i T ans).new) else (acts ++ (stp (ins code i.toNat) i T ans).new, (stp (ins code i.toNat) i T ans).fin) := rfl
theorem runF_acts (code : List S40) : ∀ (f : Nat) (i : Int) (T ans : List Int) (acts : List S47), acts <+: (runF code f i T ans acts).1
  | 0, _, _, _, _ => List.prefix_refl _
  | f + 1, i, T, ans, acts => by
    rw [runF_step]
    split
    · exact (List.prefix_append _ _).trans (runF_acts code f _ _ _ _)
    · exact List.prefix_append _ _
theorem runF_more (code : List S40) (more : List Int) : ∀ (f : Nat) (i : Int) (T ans : List Int) (acts : List S47), ((runF code f i T ans acts).2 ≠ 4 → runF code f i T (ans ++ more) acts = runF code f i T ans acts) ∧ ((runF code f i T ans acts).2 = 4 → (runF code f i T ans acts).1 <+: (runF code f i T (ans ++ more) acts).1)
  | 0, _, _, _, _ => ⟨fun _ => rfl, fun h => by simp [runF] at h⟩
  | f + 1, i, T, ans, acts => by
    obtain ⟨h1, h2⟩ := stp_more (ins code i.toNat) i T ans more
    rw [runF_step code f i T ans acts]
    by_cases h4 : (stp (ins code i.toNat) i T ans).fin = 4
    · obtain ⟨e1, e2, e3⟩ := h2 h4
      rw [if_neg (by rw [h4]; decide), e1, List.append_nil]
      refine ⟨fun h => absurd h4 h, fun _ => ?_⟩
      exact runF_acts code (f + 1) i T (ans ++ more) acts
    · have e := h1 h4
      rw [runF_step code f i T (ans ++ more) acts, e]
      dsimp only
      by_cases h0 : (stp (ins code i.toNat) i T ans).fin = 0
      · rw [if_pos h0, if_pos h0]
        exact runF_more code more f _ _ _ _
      · rw [if_neg h0, if_neg h0]
        exact ⟨fun _ => rfl, fun h => absurd h h4⟩
/-- How far right code goes: its acts, its end. -/
theorem runF_ends {code : List S40} {l : List S80} (hR : right code l = true) : ∀ (f i : Nat) (T ans : List Int) (acts : List S47), i < code.length → code.length - i ≤ f → (1 ≤ (runF code f i T ans acts).2 ∧ (runF code f i T ans acts).2 ≤ 4) ∧ (runF code f i T ans acts).1.length ≤ acts.length + (code.length - i)
  | 0, i, _, _, _, hi, hf => absurd hf (by omega)
  | f + 1, i, T, ans, acts, hi, hf => by
    obtain ⟨hn1, hn2, h18, hc, -⟩ := right_parts hR
    rw [runF_step, Int.toNat_natCast]
    have hw := stp_new (ins code i) i T ans
    have hfin := stp_fin (ins code i) i T ans
    by_cases h0 : (stp (ins code i) i T ans).fin = 0
    · rw [if_pos h0]
      obtain ⟨h1, h2⟩ := next_in hn2 h18 hi (hc i hi) T ans h0
      obtain ⟨j, hj⟩ : ∃ j : Nat, (stp (ins code i) i T ans).next = (j : Int) := ⟨(stp (ins code i) i T ans).next.toNat, by omega⟩
      rw [hj] at h1 h2 ⊢
      have := runF_ends hR f j (stp (ins code i) i T ans).T (stp (ins code i) i T ans).ans (acts ++ (stp (ins code i) i T ans).new) (by omega) (by omega)
      refine ⟨this.1, ?_⟩
      have h3 := this.2
      rw [List.length_append] at h3
      omega
    · rw [if_neg h0]
      refine ⟨by dsimp only; omega, ?_⟩
      dsimp only
      rw [List.length_append]
      omega
theorem runAll_len (code : List S40) (l : List S80) (answers : List Int) : (runAll code l answers).1.length ≤ 400 := by
  unfold runAll
  split
  · rename_i h
    have hp := right_parts h
    have := (runF_ends h code.length 0 zT answers [] (by omega) (by omega)).2
    simp at this
    have h2 := hp.2.1
    have : (runF code code.length 0 zT answers []).1.length ≤ code.length := this
    omega
  · simp
end Go.Proofs.Ytdmbnlpcfgphpaa.Q
namespace Go.Proofs.Ytdmbnlpcfgphpaa.Q
open Go.RowKit Go.Proofs.YtdmbnlpcfgphpaaW.PrintWords Go.Proofs.YtdmbnlpcfgphpaaW.PrintLast Go.Proofs.YtdmbnlpcfgphpaaW.PrintMore
set_option linter.unusedVariables false
set_option linter.unusedSimpArgs false
theorem nums_l0 (l : List Int) (hl : l.length ≤ 100000) : ∀ (r i k : Nat), l.length = i + r → r < k → selvageref08_SameNums.l0 k l l (i : Int) = some true
  | 0, i, k + 1, h, _ => by
    simp only [selvageref08_SameNums.l0]
    rw [if_neg (by omega)]
  | r + 1, i, k + 1, h, hk => by
    simp only [selvageref08_SameNums.l0]
    rw [if_pos (by omega), if_pos (by omega), if_pos (by omega), show wrap64 ((i : Int) + 1) = ((i + 1 : Nat) : Int) by rw [wrap_of (by omega) (by omega)]; omega]
    simp only [if_true]
    exact nums_l0 l hl r (i + 1) k (by omega) (by omega)
theorem nums_self (l : List Int) (hl : l.length ≤ 100000) (k : Nat) (hk : l.length < k) : selvageref08_SameNums.f k l l = some true := by
  unfold selvageref08_SameNums.f
  rw [if_pos rfl]
  exact nums_l0 l hl l.length 0 k (by omega) hk
def isAsk (a : S47) : Bool := a.f0 == 1 || a.f0 == 3 || a.f0 == 5
def askd (l : List S47) : List Int := (l.filter isAsk).map (·.f2)
theorem askd_app (a b : List S47) : askd (a ++ b) = askd a ++ askd b := by simp [askd]
theorem askd_cons (y : S47) (t : List S47) : askd (y :: t) = if isAsk y = true then y.f2 :: askd t else askd t := by
  unfold askd; rw [List.filter_cons]; split <;> simp
theorem askd_len (a : List S47) : (askd a).length ≤ a.length := by
  unfold askd
  rw [List.length_map]
  exact List.length_filter_le _ _
theorem asked_l0 (l : List S47) (hl : l.length ≤ 100000) : ∀ (r i k : Nat) (out : List Int), l.length = i + r → r < k → out.length ≤ i → act_Asked.l0 k out l (l.length : Int) (i : Int) = some (out ++ askd (l.drop i))
  | 0, i, k + 1, out, h, _, _ => by
    simp only [act_Asked.l0]
    rw [if_neg (by omega), List.drop_eq_nil_of_le (by omega)]
    simp [askd]
  | r + 1, i, k + 1, out, h, hk, ho => by
    have hi : i < l.length := by omega
    have e : rd_T47 l (i : Int) = l[i] := by simp [rd_T47, List.getD, hi]
    have ew : wrap64 ((i : Int) + 1) = ((i + 1 : Nat) : Int) := by rw [wrap_of (by omega) (by omega)]; omega
    simp only [act_Asked.l0]
    rw [if_pos (by omega), if_pos (by omega), if_pos (by omega), e, ew, List.drop_eq_getElem_cons hi]
    have step : ∀ out', out'.length ≤ i + 1 → act_Asked.l0 k out' l (l.length : Int) ((i + 1 : Nat) : Int) = some (out' ++ askd (l.drop (i + 1))) := fun out' h' => asked_l0 l hl r (i + 1) k out' (by omega) (by omega) h'
    by_cases h1 : l[i].f0 = 1
    · rw [if_pos h1, if_pos (by omega), step _ (by simp; omega)]
      rw [askd_cons, if_pos (by simp [isAsk, h1])]; simp
    rw [if_neg h1]
    by_cases h3 : l[i].f0 = 3
    · rw [if_pos h3, if_pos (by omega), step _ (by simp; omega)]
      rw [askd_cons, if_pos (by simp [isAsk, h3])]; simp
    rw [if_neg h3]
    by_cases h5 : l[i].f0 = 5
    · rw [if_pos h5, if_pos (by omega), step _ (by simp; omega)]
      rw [askd_cons, if_pos (by simp [isAsk, h5])]; simp
    rw [if_neg h5, step _ (by omega)]
    rw [askd_cons, if_neg (by simp [isAsk, h1, h3, h5])]
theorem asked_ev (l : List S47) (hl : l.length ≤ 100000) (k : Nat) (hk : l.length < k) : act_Asked.f k l = some (askd l) := by
  unfold act_Asked.f
  have := asked_l0 l hl l.length 0 k [] (by omega) hk (by simp)
  simpa using this
theorem stp_asked {x : S40} (hok : okO x.f0 = true) (i : Int) (T ans : List Int) : askd (stp x i T ans).new ++ (stp x i T ans).ans = ans := by
  obtain ⟨o, d, a, b, loc, len, kk, tt⟩ := x
  rcases op_cases hok with rfl | rfl | rfl | rfl | rfl | rfl | rfl | rfl | rfl | rfl | rfl | rfl | rfl | rfl | rfl | rfl | rfl | rfl <;> simp only [stp] <;> (try simp only [Int.reduceEq, if_true, if_false, ↓reduceIte])
  all_goals first
    | rfl
    | (cases ans <;> rfl)
    | (split <;> first | rfl | (cases ans <;> rfl))
    | (cases ans with
       | nil => rfl
       | cons n r => simp only [stCas]; split <;> rfl)
/-- Is it an act on these locations? -/
def actOk (l : List S80) (y : S47) : Prop := act_Right.f y.f0 y.f1 y.f2 y.f3 l = some true
theorem at_loc {l : List S80} {m : Bool} {n k j : Nat} (h : ((l.drop k).take n).all (fun c => c.f0 == m) = true) (hj : j < n) (hk : k + j < l.length) : (rd_T80 l ((k + j : Nat) : Int)).f0 = m := by
  have h1 := List.all_eq_true.1 h (l[k + j]) (by
    rw [List.mem_iff_getElem]
    refine ⟨j, by simp; omega, ?_⟩
    simp)
  have e : rd_T80 l ((k + j : Nat) : Int) = l[k + j] := by
    unfold rd_T80
    rw [Int.toNat_natCast]
    simp [List.getD, hk]
  rw [e]
  simpa using h1
theorem plc_one {x : S40} {l : List S80} (h : plc x l = true) (hP : usP x.f0 = true) (hR : usR x.f0 = false) : 0 ≤ x.f4 ∧ x.f4 < l.length ∧ (rd_T80 l x.f4).f0 = usM x.f0 := by
  unfold plc at h
  rw [if_pos hP, hR] at h
  simp only [Bool.false_or, Bool.and_eq_true, decide_eq_true_eq, beq_iff_eq, if_false, Bool.false_eq_true] at h
  obtain ⟨h5, ⟨⟨⟨h1, h2⟩, h3⟩, h4⟩, h6⟩ := h
  refine ⟨h3, by omega, ?_⟩
  have := at_loc (j := 0) h6 (by decide) (by omega)
  rw [Nat.add_zero, Int.toNat_of_nonneg h3] at this
  exact this
theorem plc_row {x : S40} {l : List S80} (h : plc x l = true) (hR : usR x.f0 = true) (a : Int) (h0 : 0 ≤ a) (h1 : a < x.f5) : 0 ≤ x.f4 + a ∧ x.f4 + a < l.length ∧ (rd_T80 l (x.f4 + a)).f0 = false := by
  have hP : usP x.f0 = true ∧ usM x.f0 = false := by
    simp [usR] at hR
    rcases hR with h | h <;> rw [h] <;> decide
  unfold plc at h
  rw [if_pos hP.1, hR] at h
  simp only [Bool.true_or, Bool.true_and, Bool.and_eq_true, decide_eq_true_eq, if_true] at h
  obtain ⟨⟨⟨⟨h1', h2⟩, h3⟩, h4⟩, h6⟩ := h
  refine ⟨by omega, by omega, ?_⟩
  have := at_loc (j := a.toNat) h6 (by omega) (by omega)
  rw [hP.2, show ((x.f4.toNat + a.toNat : Nat) : Int) = x.f4 + a by omega] at this
  exact this
theorem right_1 {l : List S80} {loc old : Int} (h0 : 0 ≤ loc) (h1 : loc < l.length) (h2 : (rd_T80 l loc).f0 = false) : actOk l ⟨1, loc, old, 0⟩ := by
  simp [actOk, act_Right.f, h0, h1, h2]
theorem right_2 {l : List S80} {loc v : Int} (h0 : 0 ≤ loc) (h1 : loc < l.length) (h2 : (rd_T80 l loc).f0 = false) : actOk l ⟨2, loc, 0, v⟩ := by
  simp [actOk, act_Right.f, h0, h1, h2]
theorem right_3 {l : List S80} {loc old : Int} (h0 : 0 ≤ loc) (h1 : loc < l.length) (h2 : (rd_T80 l loc).f0 = true) : actOk l ⟨3, loc, old, 0⟩ := by
  simp [actOk, act_Right.f, h0, h1, h2]
theorem right_4 {l : List S80} {loc v : Int} (h0 : 0 ≤ loc) (h1 : loc < l.length) (h2 : (rd_T80 l loc).f0 = true) : actOk l ⟨4, loc, 0, v⟩ := by
  simp [actOk, act_Right.f, h0, h1, h2]
theorem right_5 {l : List S80} {loc old v : Int} (h0 : 0 ≤ loc) (h1 : loc < l.length) (h2 : (rd_T80 l loc).f0 = true) : actOk l ⟨5, loc, old, v⟩ := by
  simp [actOk, act_Right.f, h0, h1, h2]
theorem right_6 {l : List S80} {v : Int} : actOk l ⟨6, 0, 0, v⟩ := by simp [actOk, act_Right.f]
theorem chk_plc {code : List S40} {l : List S80} {n i : Nat} (h : chk code l n i = true) : plc (ins code i) l = true := by
  simp only [chk, Bool.and_eq_true] at h
  exact h.1.1.2
theorem stp_acts {x : S40} {l : List S80} (hok : okO x.f0 = true) (hp : plc x l = true) (hl : l.length ≤ 1000) (i : Int) (T ans : List Int) : ∀ y ∈ (stp x i T ans).new, actOk l y := by
  have one : usP x.f0 = true → usR x.f0 = false → _ := fun h1 h2 => plc_one hp h1 h2
  have row : usR x.f0 = true → ∀ a, 0 ≤ a → a < x.f5 → _ := fun h1 a h0 h2 => plc_row hp h1 a h0 h2
  obtain ⟨o, d, a, b, loc, len, kk, tt⟩ := x
  dsimp only at hok one row
  have ask1 : ∀ (k lo : Int) (new : Int → Int), (∀ n, actOk l ⟨k, lo, n, new n⟩) → ∀ y ∈ (stAsk ⟨o, d, a, b, loc, len, kk, tt⟩ i T ans k lo new).new, actOk l y := by
    intro k lo new h y hy
    cases ans with
    | nil => simp [stAsk] at hy
    | cons n r => simp [stAsk] at hy; rw [hy]; exact h n
  rcases op_cases hok with rfl | rfl | rfl | rfl | rfl | rfl | rfl | rfl | rfl | rfl | rfl | rfl | rfl | rfl | rfl | rfl | rfl | rfl
  · intro y hy; exact absurd hy List.not_mem_nil
  · intro y hy; exact absurd hy List.not_mem_nil
  · intro y hy; exact absurd hy List.not_mem_nil
  · intro y hy; exact absurd hy List.not_mem_nil
  · rw [show stp ⟨5, d, a, b, loc, len, kk, tt⟩ i T ans = if rd T b = 0 then stGo 0 2 T ans else stSet ⟨5, d, a, b, loc, len, kk, tt⟩ i T ans (wrap64 ((rd T a).tdiv (rd T b))) from rfl]
    split <;> (intro y hy; exact absurd hy List.not_mem_nil)
  · obtain ⟨h1, h2, h3⟩ := one (by decide) (by decide)
    exact ask1 1 loc _ (fun n => right_1 h1 h2 h3)
  · obtain ⟨h1, h2, h3⟩ := one (by decide) (by decide)
    intro y hy
    rw [List.mem_singleton.1 hy]; exact right_2 h1 h2 h3
  · obtain ⟨h1, h2, h3⟩ := one (by decide) (by decide)
    exact ask1 3 loc _ (fun n => right_3 h1 h2 h3)
  · obtain ⟨h1, h2, h3⟩ := one (by decide) (by decide)
    intro y hy
    rw [List.mem_singleton.1 hy]; exact right_4 h1 h2 h3
  · obtain ⟨h1, h2, h3⟩ := one (by decide) (by decide)
    exact ask1 5 loc _ (fun n => right_5 h1 h2 h3)
  · obtain ⟨h1, h2, h3⟩ := one (by decide) (by decide)
    exact ask1 5 loc _ (fun n => right_5 h1 h2 h3)
  · obtain ⟨h1, h2, h3⟩ := one (by decide) (by decide)
    rw [show stp ⟨12, d, a, b, loc, len, kk, tt⟩ i T ans = stCas ⟨12, d, a, b, loc, len, kk, tt⟩ i T ans from rfl]
    cases ans with
    | nil => intro y hy; exact absurd hy List.not_mem_nil
    | cons n r =>
      intro y hy
      simp only [stCas] at hy
      split at hy
      · rw [List.mem_singleton.1 hy]; exact right_5 h1 h2 h3
      · rw [List.mem_singleton.1 hy]; exact right_3 h1 h2 h3
  · rw [show stp ⟨13, d, a, b, loc, len, kk, tt⟩ i T ans = if outb ⟨13, d, a, b, loc, len, kk, tt⟩ T then stGo 0 3 T ans else stAsk ⟨13, d, a, b, loc, len, kk, tt⟩ i T ans 1 (wrap64 (loc + rd T a)) (fun _ => 0) from rfl]
    split
    · intro y hy; exact absurd hy List.not_mem_nil
    · rename_i ho
      simp [outb] at ho
      obtain ⟨h1, h2, h3⟩ := row (by decide) (rd T a) ho.1 ho.2
      rw [wrap_of (by omega) (by omega)]
      exact ask1 1 _ _ (fun n => right_1 h1 h2 h3)
  · rw [show stp ⟨14, d, a, b, loc, len, kk, tt⟩ i T ans = if outb ⟨14, d, a, b, loc, len, kk, tt⟩ T then stGo 0 3 T ans else stTell i T ans 2 (wrap64 (loc + rd T a)) (rd T b) from rfl]
    split
    · intro y hy; exact absurd hy List.not_mem_nil
    · rename_i ho
      simp [outb] at ho
      obtain ⟨h1, h2, h3⟩ := row (by decide) (rd T a) ho.1 ho.2
      rw [wrap_of (by omega) (by omega)]
      intro y hy
      rw [List.mem_singleton.1 hy]; exact right_2 h1 h2 h3
  · intro y hy; rw [List.mem_singleton.1 hy]; exact right_6
  · rw [show stp ⟨16, d, a, b, loc, len, kk, tt⟩ i T ans = if rd T a < rd T b then stGo (i + 1) 0 T ans else stGo tt 0 T ans from rfl]
    split <;> (intro y hy; exact absurd hy List.not_mem_nil)
  · rw [show stp ⟨17, d, a, b, loc, len, kk, tt⟩ i T ans = if rd T a = rd T b then stGo (i + 1) 0 T ans else stGo tt 0 T ans from rfl]
    split <;> (intro y hy; exact absurd hy List.not_mem_nil)
  · intro y hy; exact absurd hy List.not_mem_nil
/-- What was asked, and that all acts are acts: to the end. -/
theorem runF_asked {code : List S40} {l : List S80} (hR : right code l = true) (hl : l.length ≤ 1000) (A : List Int) : ∀ (f i : Nat) (T ans : List Int) (acts : List S47), i < code.length → code.length - i ≤ f → askd acts ++ ans = A → (∀ y ∈ acts, actOk l y) →
    (∃ rest, askd (runF code f i T ans acts).1 ++ rest = A ∧ ((runF code f i T ans acts).2 = 4 → rest = [])) ∧ (∀ y ∈ (runF code f i T ans acts).1, actOk l y)
  | 0, i, _, _, _, hi, hf, _, _ => absurd hf (by omega)
  | f + 1, i, T, ans, acts, hi, hf, hA, hO => by
    obtain ⟨hn1, hn2, h18, hc, -⟩ := right_parts hR
    rw [runF_step, Int.toNat_natCast]
    obtain ⟨hok, -⟩ := chk_bd (hc i hi)
    have hs := stp_asked hok i T ans
    have ho := stp_acts hok (chk_plc (hc i hi)) hl i T ans
    have h4 := (stp_more (ins code i) i T ans []).2
    have hO' : ∀ y ∈ acts ++ (stp (ins code i) i T ans).new, actOk l y := by
      intro y hy
      rcases List.mem_append.1 hy with h | h
      · exact hO y h
      · exact ho y h
    have hA' : askd (acts ++ (stp (ins code i) i T ans).new) ++ (stp (ins code i) i T ans).ans = A := by
      rw [askd_app, List.append_assoc, hs, hA]
    by_cases h0 : (stp (ins code i) i T ans).fin = 0
    · rw [if_pos h0]
      obtain ⟨h1, h2⟩ := next_in hn2 h18 hi (hc i hi) T ans h0
      obtain ⟨j, hj⟩ : ∃ j : Nat, (stp (ins code i) i T ans).next = (j : Int) := ⟨(stp (ins code i) i T ans).next.toNat, by omega⟩
      rw [hj] at h1 h2 ⊢
      exact runF_asked hR hl A f j _ _ _ (by omega) (by omega) hA' hO'
    · rw [if_neg h0]
      exact ⟨⟨_, hA', fun h => (h4 h).2.1⟩, hO'⟩
end Go.Proofs.Ytdmbnlpcfgphpaa.Q
namespace Go.Proofs.Ytdmbnlpcfgphpaa.StTreeEnds
open Go.RowKit Go.Proofs.YtdmbnlpcfgphpaaW.PrintWords Go.Proofs.YtdmbnlpcfgphpaaW.PrintLast Go.Proofs.Ytdmbnlpcfgphpaa.Q
theorem awake_10 : selvagelaw10_awake.f 10 = some true := by kernel_rfl
theorem awake_ev (k : Nat) (hk : 10 ≤ k) : selvagelaw10_awake.f k = some true := at_rounds selvagelaw10_awake.mono hk awake_10
theorem acts_l0 (l1 : List S80) (x2 x8 : List Int) (L : List S47) (s : Int) (hL : L.length ≤ 1000) (hO : ∀ y ∈ L, actOk l1 y) (hs : s = 4 → x8.length = x2.length) : ∀ (r i k : Nat), L.length = i + r → r < k → selvagelaw10_TreeEnds.l0 k l1 x2 x8 (i : Int) L s = some true
  | 0, i, k + 1, h, _ => by
    simp only [selvagelaw10_TreeEnds.l0]
    rw [if_neg (by omega)]
    by_cases h4 : s = 4
    · rw [if_pos h4, hs h4]; simp
    · rw [if_neg h4]
  | r + 1, i, k + 1, h, hk => by
    have hi : i < L.length := by omega
    have e : rd_T47 L (i : Int) = L[i] := by simp [rd_T47, List.getD, hi]
    simp only [selvagelaw10_TreeEnds.l0]
    rw [if_pos (by omega), if_pos (by omega), e, show act_Right.f L[i].f0 L[i].f1 L[i].f2 L[i].f3 l1 = some true from hO _ (List.getElem_mem hi), Option.bind_some, if_pos rfl, show wrap64 ((i : Int) + 1) = ((i + 1 : Nat) : Int) by rw [wrap_of (by omega) (by omega)]; omega]
    exact acts_l0 l1 x2 x8 L s hL hO hs r (i + 1) k (by omega) (by omega)
theorem all : Pure := by
  intro l0 l1 l2 _ _ _ _ _ _
  refine ⟨1999 + 1, ?_⟩
  unfold selvagelaw10_TreeEnds.f
  rw [awake_ev _ (by omega), Option.bind_some, if_pos rfl]
  have done_ : selvagelaw10_TreeEnds.j0 (1999 + 1) l0 l1 l2 true = some true := by simp only [selvagelaw10_TreeEnds.j0]; rfl
  by_cases h1 : (l0.length : Int) > 410
  · rw [if_pos h1]; exact done_
  rw [if_neg h1]
  by_cases h2 : (l1.length : Int) > 16
  · rw [if_pos h2]; exact done_
  rw [if_neg h2]
  by_cases h3 : (l2.length : Int) > 400
  · rw [decide_eq_true h3]; exact done_
  rw [decide_eq_false h3]
  simp only [selvagelaw10_TreeEnds.j0]
  rw [if_neg (by decide)]
  have e1 : tree_Run.f l0 l1 l2 = some (runAll l0 l1 l2) := by unfold tree_Run.f; rw [if_pos (by omega)]
  have e2 : tree_Right.f l0 l1 = some (right l0 l1) := by unfold tree_Right.f; rw [if_pos (by omega)]
  rw [e1, e2, Option.bind_some, Option.bind_some]
  cases hR : right l0 l1
  · rw [if_neg (by decide)]
    have e3 : runAll l0 l1 l2 = ([], 0) := by unfold runAll; rw [hR]; rfl
    rw [e3]
    rfl
  · rw [if_pos rfl]
    obtain ⟨hn1, hn2, -⟩ := right_parts hR
    have e3 : runAll l0 l1 l2 = runF l0 l0.length 0 zT l2 [] := by unfold runAll; rw [hR]; rfl
    obtain ⟨⟨a1, a2⟩, a3⟩ := runF_ends hR l0.length 0 zT l2 [] (by omega) (by omega)
    obtain ⟨⟨rest, b1, b2⟩, b3⟩ := runF_asked hR (by omega) l2 l0.length 0 zT l2 [] (by omega) (by omega) rfl (by simp)
    rw [e3]
    simp only [show ((0 : Nat) : Int) = 0 from rfl] at a1 a2 a3 b1 b2 b3
    generalize runF l0 l0.length 0 zT l2 [] = R at a1 a2 a3 b1 b2 b3 ⊢
    obtain ⟨L, s⟩ := R
    dsimp only at a1 a2 a3 b1 b2 b3 ⊢
    have hL : L.length ≤ 400 := by simp at a3; omega
    have hq := askd_len L
    have hp : askd L = l2.take (askd L).length := by rw [← b1]; simp
    have hq2 : (askd L).length ≤ l2.length := by rw [← b1]; simp
    rw [asked_ev L (by omega) _ (by omega), Option.bind_some, if_neg (by omega), if_neg (by omega), if_neg (by simp at a3; omega), if_neg (by omega), if_pos (by omega), if_pos (by omega), Int.toNat_natCast, ← hp, nums_self _ (by omega) _ (by omega), Option.bind_some]
    simp only [selvagelaw10_TreeEnds.j1]
    rw [if_neg (by decide)]
    refine acts_l0 l1 l2 (askd L) L s (by omega) b3 (fun h4 => ?_) L.length 0 _ (by omega) (by omega)
    have := b2 h4
    rw [this, List.append_nil] at b1
    rw [b1]
end Go.Proofs.Ytdmbnlpcfgphpaa.StTreeEnds
namespace Go.Proofs.Ytdmbnlpcfgphpaa.Pure
theorem TreeEnds : Go.Proofs.Ytdmbnlpcfgphpaa.StTreeEnds.Pure := Go.Proofs.Ytdmbnlpcfgphpaa.StTreeEnds.all
end Go.Proofs.Ytdmbnlpcfgphpaa.Pure
