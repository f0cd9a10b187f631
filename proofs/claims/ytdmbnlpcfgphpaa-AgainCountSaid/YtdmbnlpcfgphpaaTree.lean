/- The tree's plain words: what a kind uses, which locations are right, ways and places ahead, whether code is right. -/
import Derived.Test.YtdmbnlpcfgphpaaQx3
import Derived.Test.YtdmbnlpcfgphpaaQx4
import Derived.Test.YtdmbnlpcfgphpaaQx5
namespace Go.Proofs.Ytdmbnlpcfgphpaa.Q
open Go.RowKit Go.Proofs.YtdmbnlpcfgphpaaW.PrintWords Go.Proofs.YtdmbnlpcfgphpaaW.PrintLast Go.Proofs.YtdmbnlpcfgphpaaW.PrintMore
theorem wrap_of {n : Int} (h0 : -9223372036854775808 ≤ n) (h1 : n < 9223372036854775808) : wrap64 n = n := by unfold wrap64; omega
def usD (o : Int) : Bool := (decide (1 ≤ o) && decide (o ≤ 6)) || o == 8 || o == 10 || o == 11 || o == 13
def usA (o : Int) : Bool := (decide (2 ≤ o) && decide (o ≤ 5)) || o == 7 || (decide (9 ≤ o) && decide (o ≤ 17))
def usB (o : Int) : Bool := (decide (2 ≤ o) && decide (o ≤ 5)) || o == 12 || o == 14 || o == 16 || o == 17
def usK (o : Int) : Bool := o == 1
def usT (o : Int) : Bool := o == 12 || o == 16 || o == 17
def usP (o : Int) : Bool := decide (6 ≤ o) && decide (o ≤ 14)
def usR (o : Int) : Bool := o == 13 || o == 14
def usM (o : Int) : Bool := decide (8 ≤ o) && decide (o ≤ 12)
def okO (o : Int) : Bool := decide (1 ≤ o) && decide (o ≤ 18)
theorem op_cases {o : Int} (h : okO o = true) : o = 1 ∨ o = 2 ∨ o = 3 ∨ o = 4 ∨ o = 5 ∨ o = 6 ∨ o = 7 ∨ o = 8 ∨ o = 9 ∨ o = 10 ∨ o = 11 ∨ o = 12 ∨ o = 13 ∨ o = 14 ∨ o = 15 ∨ o = 16 ∨ o = 17 ∨ o = 18 := by
  simp [okO] at h
  omega
theorem shape_ev (o : Int) : tree_shape.f 4 o = some (usD o, usA o, usB o, usK o, usT o, usP o, usR o, usM o, okO o) := by
  by_cases h : okO o = true
  · rcases op_cases h with rfl | rfl | rfl | rfl | rfl | rfl | rfl | rfl | rfl | rfl | rfl | rfl | rfl | rfl | rfl | rfl | rfl | rfl <;> rfl
  · have h' : ¬ (1 ≤ o ∧ o ≤ 18) := by simpa [okO] using h
    have e : ∀ c : Int, 1 ≤ c → c ≤ 18 → ¬ o = c := fun c h0 h1 he => h' (by omega)
    have b : ∀ c : Int, 1 ≤ c → c ≤ 18 → (o == c) = false := fun c h0 h1 => beq_eq_false_iff_ne.2 (e c h0 h1)
    have r : ∀ x y : Int, 1 ≤ x → y ≤ 18 → (decide (x ≤ o) && decide (o ≤ y)) = false := fun x y h0 h1 => by
      simp; omega
    simp [tree_shape.f, tree_shape.j0, tree_shape.j1, tree_shape.j2, usD, usA, usB, usK, usT, usP, usR, usM, okO, e, r]
theorem shape_any (o : Int) (w : World) : Calls Try.prog 33 #[.int .i64 o] w fun e w' => e = .returned (.tuple #[.agg #[.bool (usD o), .bool (usA o), .bool (usB o), .bool (usK o), .bool (usT o), .bool (usP o), .bool (usR o), .bool (usM o)], .bool (okO o)]) ∧ Below w.heap.size w w' :=
  tree_shape.calls 4 o _ _ _ _ _ _ _ _ _ w (shape_ev o)
def tmp (u : Bool) (n : Int) : Bool := if u then decide (0 ≤ n) && decide (n < 400) else n == 0
theorem temp_ev (u : Bool) (n : Int) : tree_temp.f u n = some (tmp u n) := by
  unfold tree_temp.f tmp
  by_cases h : u = true
  · by_cases h0 : 0 ≤ n <;> by_cases h1 : n < 400 <;> simp [h, h0, h1] <;> omega
  · simp [h]
theorem temp_any (u : Bool) (n : Int) (w : World) : Calls Try.prog 34 #[.bool u, .int .i64 n] w fun e w' => e = .returned (.bool (tmp u n)) ∧ Drawn0 w w' :=
  tree_temp.calls u n _ w (temp_ev u n)
/-- Are the locations of a piece of this kind right? -/
def plc (x : S40) (l : List S80) : Bool :=
  if usP x.f0 then (usR x.f0 || x.f5 == 0) && (let n := if usR x.f0 then x.f5 else 1; decide (1 ≤ n) && decide (n ≤ l.length) && decide (0 ≤ x.f4) && decide (x.f4 ≤ l.length - n) && (((l.drop x.f4.toNat).take n.toNat).all fun c => c.f0 == usM x.f0))
  else x.f4 == 0 && x.f5 == 0
theorem places_loop (b0 b1 b2 b3 b4 b5 b6 m : Bool) (xs : List S80) (hx : xs.length ≤ 1000) : ∀ (r i k : Nat), xs.length = i + r → r < k → tree_places.l0 k xs (xs.length : Int) (i : Int) b0 b1 b2 b3 b4 b5 b6 m = some ((xs.drop i).all fun c => c.f0 == m)
  | 0, i, k + 1, hr, _ => by
    have h1 : ¬ ((i : Int) < (xs.length : Int)) := by omega
    simp only [tree_places.l0]
    rw [if_neg h1, List.drop_eq_nil_of_le (by omega)]
    rfl
  | r + 1, i, k + 1, hr, hk => by
    have h1 : (i : Int) < (xs.length : Int) := by omega
    have h2 : i < xs.length := by omega
    simp only [tree_places.l0]
    rw [if_pos h1, if_pos (Int.natCast_nonneg _), if_pos h1]
    have e : (rd_T80 xs (i : Int)) = xs[i] := by simp [rd_T80, List.getD, h2]
    rw [List.drop_eq_getElem_cons h2, e, List.all_cons]
    by_cases hc : xs[i].f0 = m
    · rw [if_neg (by simp [hc]), show wrap64 ((i : Int) + 1) = ((i + 1 : Nat) : Int) from wrap_of (by omega) (by omega), places_loop b0 b1 b2 b3 b4 b5 b6 m xs hx r (i + 1) k (by omega) (by omega)]
      simp [hc]
    · rw [if_pos (by simp [hc])]
      simp [hc]
theorem places_ev (x : S40) (l : List S80) (hl : l.length ≤ 1000) : tree_places.f (l.length + 4) (usD x.f0) (usA x.f0) (usB x.f0) (usK x.f0) (usT x.f0) (usP x.f0) (usR x.f0) (usM x.f0) x.f0 x.f1 x.f2 x.f3 x.f4 x.f5 x.f6 x.f7 l = some (plc x l) := by
  have J : ∀ n : Int, (usR x.f0 || x.f5 == 0) = true → tree_places.j0 (l.length + 4) l n (usD x.f0) (usA x.f0) (usB x.f0) (usK x.f0) (usT x.f0) (usP x.f0) (usR x.f0) (usM x.f0) x.f0 x.f1 x.f2 x.f3 x.f4 x.f5 x.f6 x.f7 = some (decide (1 ≤ n) && decide (n ≤ l.length) && decide (0 ≤ x.f4) && decide (x.f4 ≤ l.length - n) && (((l.drop x.f4.toNat).take n.toNat).all fun c => c.f0 == usM x.f0)) := by
    intro n _
    simp only [tree_places.j0, tree_places.j1]
    by_cases h1 : n < 1
    · rw [if_pos h1]; simp; omega
    rw [if_neg h1]
    by_cases h2 : n > (l.length : Int)
    · rw [if_pos h2]; simp; omega
    rw [if_neg h2]
    by_cases h3 : x.f4 < 0
    · rw [if_pos h3]; simp; omega
    rw [if_neg h3]
    have e1 : wrap64 ((l.length : Int) - n) = (l.length : Int) - n := wrap_of (by omega) (by omega)
    by_cases h4 : x.f4 > (l.length : Int) - n
    · rw [e1, if_pos (decide_eq_true h4)]; simp; omega
    have e2 : wrap64 (x.f4 + n) = x.f4 + n := wrap_of (by omega) (by omega)
    rw [e1, if_neg (by simp; omega), if_pos (by omega), e2, if_pos (by omega), if_pos (by omega)]
    rw [show (decide (1 ≤ n) && decide (n ≤ (l.length : Int)) && decide (0 ≤ x.f4) && decide (x.f4 ≤ (l.length : Int) - n)) = true by simp; omega, Bool.true_and]
    show tree_places.l0 _ _ _ 0 _ _ _ _ _ _ _ _ = _
    have e3 : (l.take (x.f4 + n).toNat).drop x.f4.toNat = (l.drop x.f4.toNat).take n.toNat := by
      rw [List.drop_take]
      congr 1
      omega
    rw [e3]
    have h5 : ((l.drop x.f4.toNat).take n.toNat).length ≤ l.length := by simp; omega
    exact places_loop _ _ _ _ _ _ _ _ _ (by omega) ((l.drop x.f4.toNat).take n.toNat).length 0 (l.length + 2) (by omega) (by omega)
  unfold tree_places.f plc
  by_cases hP : usP x.f0 = true
  · by_cases hR : usR x.f0 = true
    · simp only [hP, hR, if_pos, Bool.true_or, Bool.true_and]
      have := J x.f5 (by simp [hR])
      simp only [hP, hR] at this
      exact this
    · have hR' : usR x.f0 = false := by simpa using hR
      by_cases h5 : x.f5 = 0
      · have := J 1 (by simp [h5])
        simp only [hP, hR', h5] at this ⊢
        simpa using this
      · simp [hP, hR', h5]
  · have hP' : usP x.f0 = false := by simpa using hP
    by_cases h4 : x.f4 = 0 <;> simp [hP', h4]
theorem places_any (x : S40) (A : Option Addr) (c : Nat) (l : List S80) (w : World) (hr : Kd.C k80 w A l.length l) (hc : l.length ≤ c) (hl : l.length ≤ 1000) :
    Calls Try.prog 35 #[.agg #[.bool (usD x.f0), .bool (usA x.f0), .bool (usB x.f0), .bool (usK x.f0), .bool (usT x.f0), .bool (usP x.f0), .bool (usR x.f0), .bool (usM x.f0)], .agg #[.int .i64 x.f0, .int .i64 x.f1, .int .i64 x.f2, .int .i64 x.f3, .int .i64 x.f4, .int .i64 x.f5, .int .i64 x.f6, .int .i64 x.f7], .slice A l.length c] w fun e w' => e = .returned (.bool (plc x l)) ∧ Below w.heap.size w w' :=
  tree_places.calls (l.length + 4) _ _ _ _ _ _ _ _ _ _ _ _ _ _ _ _ A c l _ w hr hc (places_ev x l hl)
end Go.Proofs.Ytdmbnlpcfgphpaa.Q
