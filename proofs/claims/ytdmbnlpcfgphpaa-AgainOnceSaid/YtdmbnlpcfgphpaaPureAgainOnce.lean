/- The plain law of AgainOnce. -/
import Derived.Test.YtdmbnlpcfgphpaaStAgainOnce
import Derived.Test.YtdmbnlpcfgphpaaOt
namespace Go.Proofs.Ytdmbnlpcfgphpaa.Q
open Go.RowKit Go.Proofs.YtdmbnlpcfgphpaaW.PrintWords Go.Proofs.YtdmbnlpcfgphpaaW.PrintLast Go.Proofs.YtdmbnlpcfgphpaaW.PrintMore
set_option linter.unusedVariables false
set_option linter.unusedSimpArgs false
set_option maxRecDepth 100000 in
theorem awake13_10 : selvagelaw13_awake.f 10 = some true := by kernel_rfl
theorem awake13_ev (k : Nat) (hk : 10 ≤ k) : selvagelaw13_awake.f k = some true := at_rounds selvagelaw13_awake.mono hk awake13_10
theorem nums13_l0 (l : List Int) (hl : l.length ≤ 100000) : ∀ (r i k : Nat), l.length = i + r → r < k → selvageref08_SameNums.l0 k l l (i : Int) = some true
  | 0, i, k + 1, h, _ => by
    simp only [selvageref08_SameNums.l0]
    rw [if_neg (by omega)]
  | r + 1, i, k + 1, h, hk => by
    simp only [selvageref08_SameNums.l0]
    rw [if_pos (by omega), if_pos (by omega), if_pos (by omega), show wrap64 ((i : Int) + 1) = ((i + 1 : Nat) : Int) by rw [wrap_of (by omega) (by omega)]; omega]
    simp only [if_true]
    exact nums13_l0 l hl r (i + 1) k (by omega) (by omega)
theorem nums13_self (l : List Int) (hl : l.length ≤ 100000) (k : Nat) (hk : l.length < k) : selvageref08_SameNums.f k l l = some true := by
  unfold selvageref08_SameNums.f
  rw [if_pos rfl]
  exact nums13_l0 l hl l.length 0 k (by omega) hk
theorem same13_l0 (l : List S47) (hl : l.length ≤ 100000) : ∀ (r i k : Nat), l.length = i + r → r < k → selvageref08_Same.l0 k l l (i : Int) = some true
  | 0, i, k + 1, h, _ => by
    simp only [selvageref08_Same.l0]
    rw [if_neg (by omega)]
  | r + 1, i, k + 1, h, hk => by
    simp only [selvageref08_Same.l0]
    rw [if_pos (by omega), if_pos (by omega), if_pos (by omega), show wrap64 ((i : Int) + 1) = ((i + 1 : Nat) : Int) by rw [wrap_of (by omega) (by omega)]; omega]
    rw [if_neg (by simp)]
    exact same13_l0 l hl r (i + 1) k (by omega) (by omega)
theorem same13_self (l : List S47) (hl : l.length ≤ 100000) (k : Nat) (hk : l.length < k) : selvageref08_Same.f k l l = some true := by
  unfold selvageref08_Same.f
  rw [if_pos rfl]
  exact same13_l0 l hl l.length 0 k (by omega) hk
/-- What was told; all acts but plain reads. -/
def toldL (l : List S47) : List Int := (l.filter fun a => a.f0 == 6).map (·.f3)
def chgL (l : List S47) : List S47 := l.filter fun a => !(a.f0 == 1)
theorem told_chg (l : List S47) : toldL l = toldL (chgL l) := by
  unfold toldL chgL
  rw [List.filter_filter]
  congr 1
  apply List.filter_congr
  intro a _
  cases h : a.f0 == 6
  · rfl
  · have : a.f0 = 6 := by simpa using h
    rw [this]; rfl
theorem rd47 (l : List S47) (i : Nat) (h : i < l.length) : l.drop i = rd_T47 l (i : Int) :: l.drop (i + 1) := by
  rw [List.drop_eq_getElem_cons h]
  congr 1
  show l[i] = l.getD ((i : Int)).toNat _
  rw [Int.toNat_natCast, List.getD_eq_getElem?_getD, List.getElem?_eq_getElem h]
  rfl
theorem told_l0 (l : List S47) (hl : l.length ≤ 100000) : ∀ (r i k : Nat) (out : List Int), l.length = i + r → r < k → out.length ≤ i → act_Told.l0 k out l (l.length : Int) (i : Int) = some (out ++ toldL (l.drop i))
  | 0, i, k + 1, out, h, _, _ => by
    simp only [act_Told.l0]
    rw [if_neg (by omega), List.drop_eq_nil_of_le (by omega)]
    simp [toldL]
  | r + 1, i, k + 1, out, h, hk, ho => by
    simp only [act_Told.l0]
    rw [if_pos (by omega), if_pos (by omega), if_pos (by omega), show wrap64 ((i : Int) + 1) = ((i + 1 : Nat) : Int) by rw [wrap_of (by omega) (by omega)]; omega, rd47 l i (by omega)]
    by_cases h6 : (rd_T47 l (i : Int)).f0 = 6
    · rw [if_pos h6, if_pos (by omega), told_l0 l hl r (i + 1) k _ (by omega) (by omega) (by simp; omega)]
      simp [toldL, List.filter_cons, h6]
    · rw [if_neg h6, told_l0 l hl r (i + 1) k _ (by omega) (by omega) (by omega)]
      simp [toldL, List.filter_cons, h6]
theorem told_ev (l : List S47) (hl : l.length ≤ 100000) (k : Nat) (hk : l.length < k) : act_Told.f k l = some (toldL l) := by
  unfold act_Told.f
  have h := told_l0 l hl l.length 0 k [] (by omega) hk (by simp)
  rw [List.nil_append, List.drop_zero] at h
  exact h
theorem chg_l0 (l : List S47) (hl : l.length ≤ 100000) : ∀ (r i k : Nat) (out : List S47), l.length = i + r → r < k → out.length ≤ i → selvagelaw13_changes.l0 k l out (i : Int) = some (out ++ chgL (l.drop i))
  | 0, i, k + 1, out, h, _, _ => by
    simp only [selvagelaw13_changes.l0]
    rw [if_neg (by omega), List.drop_eq_nil_of_le (by omega)]
    simp [chgL]
  | r + 1, i, k + 1, out, h, hk, ho => by
    simp only [selvagelaw13_changes.l0]
    rw [if_pos (by omega), if_pos (by omega), show wrap64 ((i : Int) + 1) = ((i + 1 : Nat) : Int) by rw [wrap_of (by omega) (by omega)]; omega, rd47 l i (by omega)]
    by_cases h1 : (rd_T47 l (i : Int)).f0 = 1
    · rw [if_pos h1, chg_l0 l hl r (i + 1) k _ (by omega) (by omega) (by omega)]
      simp [chgL, List.filter_cons, h1]
    · rw [if_neg h1, if_pos (by omega), chg_l0 l hl r (i + 1) k _ (by omega) (by omega) (by simp; omega)]
      simp [chgL, List.filter_cons, h1]
theorem chg_ev (l : List S47) (hl : l.length ≤ 100000) (k : Nat) (hk : l.length < k) : selvagelaw13_changes.f k l = some (chgL l) := by
  unfold selvagelaw13_changes.f
  have h := chg_l0 l hl l.length 0 k [] (by omega) hk (by simp)
  rw [List.nil_append, List.drop_zero] at h
  exact h
/-- A spare piece does plain reads alone. -/
theorem runG_spr {code : List S40} : ∀ (f : Nat) (i : Int) (T ans : List Int) (p : Nat × S47), p ∈ (runG code f i T ans).1 → spr code p.1 = true → p.2.f0 = 1
  | 0, i, T, ans, p, h, _ => by simp [runG] at h
  | f + 1, i, T, ans, p, h, hs => by
    have hnew : ∀ q, q ∈ (stp (ins code i.toNat) i T ans).new.map (fun a => (i.toNat, a)) → spr code q.1 = true → q.2.f0 = 1 := fun q hq hsq => by
      obtain ⟨a, ha, rfl⟩ := List.mem_map.1 hq
      have h6 := (spr_parts hsq).1
      have e : stp (ins code i.toNat) i T ans = stAsk (ins code i.toNat) i T ans 1 (ins code i.toNat).f4 (fun _ => 0) := by
        unfold stp
        dsimp only at h6
        rw [if_neg (by omega), if_neg (by omega), if_neg (by omega), if_neg (by omega), if_neg (by omega), if_pos h6]
      rw [e] at ha
      cases ans with
      | nil => simp [stAsk] at ha
      | cons y r => simp [stAsk] at ha; rw [ha]
    unfold runG at h
    split at h
    · rcases List.mem_append.1 h with h | h
      · exact hnew p h hs
      · exact runG_spr f _ _ _ p h hs
    · exact hnew p h hs
theorem chg_kp {code : List S40} : ∀ (G : List (Nat × S47)), (∀ p, p ∈ G → spr code p.1 = true → p.2.f0 = 1) → chgL (kpA code G) = chgL (G.map (·.2))
  | [], _ => rfl
  | p :: G, h => by
    have ih := chg_kp G (fun q hq => h q (List.mem_cons_of_mem _ hq))
    unfold chgL kpA at ih ⊢
    cases hs : spr code p.1
    · rw [List.filter_cons, if_pos (by rw [hs]; rfl)]
      simp only [List.map_cons, List.filter_cons]
      rw [ih]
    · have h1 := h p (List.mem_cons_self ..) hs
      rw [List.filter_cons, if_neg (by rw [hs]; decide)]
      simp only [List.map_cons, List.filter_cons]
      rw [ih, h1]
      rfl
/-- The law's loop: no piece is spare. -/
theorem once_l0 {x0 : List S40} {x1 : List S80} {x2 : List Int} {x7 : List S40} {x9 : List Int} {n K : Nat} {v : Option Bool} (hn : n ≤ 400) (hend : ∀ k, K ≤ k → selvagelaw13_AgainOnce.l0 (k + 1) x0 x1 x2 x7 x9 (List.replicate n false) (n : Int) = v) : ∀ (r i k : Nat), n = i + r → r + K < k → selvagelaw13_AgainOnce.l0 k x0 x1 x2 x7 x9 (List.replicate n false) (i : Int) = v
  | 0, i, k + 1, h, hk => by
    obtain rfl : n = i := by omega
    exact hend k (by omega)
  | r + 1, i, k + 1, h, hk => by
    have hrd : rdOf false (List.replicate n false) (i : Int) = false := by
      unfold rdOf
      rw [Int.toNat_natCast, List.getD_eq_getElem?_getD, List.getElem?_replicate]
      split <;> rfl
    simp only [selvagelaw13_AgainOnce.l0]
    rw [List.length_replicate, if_pos (by omega), if_pos (by omega), hrd, if_neg (by decide), show wrap64 ((i : Int) + 1) = ((i + 1 : Nat) : Int) by rw [wrap_of (by omega) (by omega)]; omega]
    exact once_l0 hn hend r (i + 1) k (by omega) (by omega)
end Go.Proofs.Ytdmbnlpcfgphpaa.Q
namespace Go.Proofs.Ytdmbnlpcfgphpaa.StAgainOnce
open Go.RowKit Go.Proofs.YtdmbnlpcfgphpaaW.PrintWords Go.Proofs.YtdmbnlpcfgphpaaW.PrintLast Go.Proofs.YtdmbnlpcfgphpaaW.PrintMore Go.Proofs.Ytdmbnlpcfgphpaa.Q
theorem all : Pure := by
  intro l0 l1 l2 g0 _ _ _ g2 _
  refine ⟨1999 + 1, ?_⟩
  unfold selvagelaw13_AgainOnce.f
  rw [awake13_ev _ (by omega), Option.bind_some, if_pos rfl]
  have done_ : selvagelaw13_AgainOnce.j0 (1999 + 1) l0 l1 l2 true = some true := by simp only [selvagelaw13_AgainOnce.j0]; rfl
  by_cases h1 : (l0.length : Int) > 60
  · rw [if_pos h1]; exact done_
  rw [if_neg h1]
  by_cases h2 : (l1.length : Int) > 16
  · rw [if_pos h2]; exact done_
  rw [if_neg h2]
  by_cases h3 : (l2.length : Int) > 100
  · rw [if_pos h3]; exact done_
  rw [if_neg h3]
  have e0 : selvageref10_Right.f l0 l1 = some (right l0 l1) := by unfold selvageref10_Right.f; rw [if_pos (by omega)]
  rw [e0, Option.bind_some]
  cases hR : right l0 l1
  · exact done_
  have t := tr_of hR
  have hO := out_right hR
  have e1 : again_Again.f l0 l1 = some (outL l0 l0.length, 0) := by unfold again_Again.f agA; rw [if_pos (by omega), hR]; rfl
  have e2 : again_Full.f l0 l1 l2 = some (full l0 l2, 0) := by
    unfold again_Full.f agF
    rw [if_pos, hR]
    · rfl
    · exact ⟨by omega, by omega, List.all_eq_true.2 (fun x hx => (g0 x hx).2.2.2.2.2.2.1), List.all_eq_true.2 (fun x hx => g2 x hx)⟩
  have e3 : again_Spare.f (outL l0 l0.length) l1 = some (List.replicate (nsp l0 l0.length) false, 0) := by
    unfold again_Spare.f agS
    rw [if_pos (by omega), hO, out_spL hR]; rfl
  simp only [selvagelaw13_AgainOnce.j0]
  rw [if_neg (by decide), e1, Option.bind_some, e2, Option.bind_some, e3, Option.bind_some]
  dsimp only
  rw [if_pos rfl]
  simp only [selvagelaw13_AgainOnce.j1]
  rw [if_neg (by decide)]
  have hN := nsp_le l0 l0.length
  have h4 := t.n4
  refine once_l0 (n := nsp l0 l0.length) (K := 900) (by omega) (fun k hk => ?_) (nsp l0 l0.length) 0 1998 (by omega) (by omega)
  simp only [selvagelaw13_AgainOnce.l0]
  rw [List.length_replicate, if_neg (by omega)]
  have r1 : tree_Run.f (outL l0 l0.length) l1 l2 = some (runAll (outL l0 l0.length) l1 l2) := by unfold tree_Run.f; rw [if_pos (by omega)]
  have r2 : tree_Run.f l0 l1 (full l0 l2) = some (runAll l0 l1 (full l0 l2)) := by unfold tree_Run.f; rw [if_pos (by omega)]
  have a1 := runAll_len (outL l0 l0.length) l1 l2
  have a2 := runAll_len l0 l1 (full l0 l2)
  obtain ⟨s1, s2⟩ := sim_all hR l2
  have s3 := runAll_G l1 hR (full l0 l2)
  have hch : chgL (runAll (outL l0 l0.length) l1 l2).1 = chgL (runAll l0 l1 (full l0 l2)).1 := by
    rw [s2, s3]
    exact chg_kp _ (fun p hp hs => runG_spr _ _ _ _ p hp hs)
  have hto : toldL (runAll (outL l0 l0.length) l1 l2).1 = toldL (runAll l0 l1 (full l0 l2)).1 := by rw [told_chg, hch, ← told_chg]
  have b1 : (toldL (runAll l0 l1 (full l0 l2)).1).length ≤ 400 := by
    unfold toldL
    rw [List.length_map]
    exact Nat.le_trans (List.length_filter_le _ _) a2
  have b2 : (chgL (runAll l0 l1 (full l0 l2)).1).length ≤ 400 := Nat.le_trans (List.length_filter_le _ _) a2
  rw [r1, Option.bind_some, r2, Option.bind_some, told_ev _ (by omega) k (by omega), Option.bind_some, told_ev _ (by omega) k (by omega), Option.bind_some, hto, nums13_self _ (by omega) k (by omega), Option.bind_some, if_pos rfl, chg_ev _ (by omega) k (by omega), Option.bind_some, chg_ev _ (by omega) k (by omega), Option.bind_some, hch, same13_self _ (by omega) k (by omega)]
  rfl
end Go.Proofs.Ytdmbnlpcfgphpaa.StAgainOnce
namespace Go.Proofs.Ytdmbnlpcfgphpaa.Pure
theorem AgainOnce : Go.Proofs.Ytdmbnlpcfgphpaa.StAgainOnce.Pure := Go.Proofs.Ytdmbnlpcfgphpaa.StAgainOnce.all
end Go.Proofs.Ytdmbnlpcfgphpaa.Pure
