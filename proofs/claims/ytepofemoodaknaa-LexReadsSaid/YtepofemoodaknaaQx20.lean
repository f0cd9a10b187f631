-- Printed by qprint.py (a program of this session, round the print): not a text of print.sh. Lean checks it.
import Derived.Test.YtepofemoodaknaaQx0
import Derived.Test.YtepofemoodaknaaQx15
import Derived.Test.YtepofemoodaknaaQx16
import Derived.Test.YtepofemoodaknaaQx17
import Derived.Test.YtepofemoodaknaaQx18
import Derived.Test.YtepofemoodaknaaQx19
namespace Go.Proofs.Ytepofemoodaknaa.Q
open Go.RowKit Go.Proofs.YtepofemoodaknaaW.PrintWords Go.Proofs.YtepofemoodaknaaW.PrintLast Go.Proofs.YtepofemoodaknaaW.PrintMore
attribute [local go_sem] max2_int min2_int max_two min_two max_three min_three max_four min_four   -- for this text's walks alone
set_option linter.unusedVariables false
set_option linter.unusedSimpArgs false

/-! ### selvageref04_Tokens: function 10 -/
mutual
def selvageref04_Tokens.l0 : Nat → ByteArray → List (S32) → Int → Option ((List (S32)) × Int × Int)
  | 0, _, _, _ => none
  | k + 1, x0, x5, x6 => if x6 < (x0.size : Int) then (if 0 ≤ x6 then (if (bt x0 x6) = 32 then (selvageref04_Tokens.j1 k x0 x5 x6 (bt x0 x6) true) else (if (bt x0 x6) = 9 then (selvageref04_Tokens.j1 k x0 x5 x6 (bt x0 x6) true) else (if (bt x0 x6) = 10 then (selvageref04_Tokens.j1 k x0 x5 x6 (bt x0 x6) true) else (selvageref04_Tokens.j1 k x0 x5 x6 (bt x0 x6) ((bt x0 x6) == 13))))) else (none)) else (some (x5, 0, 0))
def selvageref04_Tokens.j1 : Nat → ByteArray → List (S32) → Int → Int → Bool → Option ((List (S32)) × Int × Int)
  | 0, _, _, _, _, _ => none
  | k + 1, x0, x5, x6, x7, x33 => if x33 = true then (selvageref04_Tokens.l0 k x0 x5 (wrap64 (x6 + 1))) else (if x7 = 35 then (selvageref04_Tokens.l1 k x0 x5 x6) else ((selvageref04_Small.f x7).bind fun t122 => (if t122 = true then (selvageref04_Tokens.l2 k x0 x5 x6 x6 0 (⟨#[]⟩ : ByteArray) 0 x6) else ((selvageref04_Digit.f x7).bind fun t129 => (if t129 = true then (selvageref04_Tokens.l3 k x0 x5 x6 x7 x6 3 (⟨#[]⟩ : ByteArray) 0 x6) else (if (wrap64 (x6 + 1)) < (x0.size : Int) then (if 0 ≤ (wrap64 (x6 + 1)) then ((selvageref04_double.f x7 (bt x0 (wrap64 (x6 + 1)))).bind fun t136 => (selvageref04_Tokens.j9 k x0 x5 x6 x7 x6 t136 0 (⟨#[]⟩ : ByteArray) 0 x6)) else (none)) else (selvageref04_Tokens.j9 k x0 x5 x6 x7 x6 false 0 (⟨#[]⟩ : ByteArray) 0 x6)))))))
def selvageref04_Tokens.l1 : Nat → ByteArray → List (S32) → Int → Option ((List (S32)) × Int × Int)
  | 0, _, _, _ => none
  | k + 1, x0, x5, x6 => if x6 < (x0.size : Int) then (if 0 ≤ x6 then (if (bt x0 x6) = 10 then (selvageref04_Tokens.l0 k x0 x5 x6) else (selvageref04_Tokens.l1 k x0 x5 (wrap64 (x6 + 1)))) else (none)) else (selvageref04_Tokens.l0 k x0 x5 x6)
def selvageref04_Tokens.j4 : Nat → ByteArray → List (S32) → Int → Int → Int → ByteArray → Int → Int → Option ((List (S32)) × Int × Int)
  | 0, _, _, _, _, _, _, _, _ => none
  | k + 1, x0, x5, x6, x8, x122000, x122001, x122002, x122003 => if 0 ≤ x8 then (if x8 ≤ x6 then (if x6 ≤ (x0.size : Int) then ((selvageref04_Key.f k (x0.extract (x8 : Int).toNat (x6 : Int).toNat)).bind fun t125 => (if t125 = true then (selvageref04_Tokens.j5 k x0 x5 x6 x8 2 x122001 x122002 x122003) else (selvageref04_Tokens.j5 k x0 x5 x6 x8 1 x122001 x122002 x122003))) else (none)) else (none)) else (none)
def selvageref04_Tokens.j5 : Nat → ByteArray → List (S32) → Int → Int → Int → ByteArray → Int → Int → Option ((List (S32)) × Int × Int)
  | 0, _, _, _, _, _, _, _, _ => none
  | k + 1, x0, x5, x6, x8, x122000, x122001, x122002, x122003 => if (wrap64 (x6 - x8)) > 16 then (some (([] : List (S32)), 10, x8)) else (if (x5.length : Int) ≥ 1500 then (some (([] : List (S32)), 15, x8)) else (if 0 ≤ x8 then (if x8 ≤ x6 then (if x6 ≤ (x0.size : Int) then (if x5.length < 3518437208883 then (selvageref04_Tokens.l0 k x0 (x5 ++ [(⟨x122000, x0.extract (x8 : Int).toNat (x6 : Int).toNat, x122002, x122003⟩ : S32)]) x6) else (none)) else (none)) else (none)) else (none)))
def selvageref04_Tokens.l2 : Nat → ByteArray → List (S32) → Int → Int → Int → ByteArray → Int → Int → Option ((List (S32)) × Int × Int)
  | 0, _, _, _, _, _, _, _, _ => none
  | k + 1, x0, x5, x6, x8, x122000, x122001, x122002, x122003 => if x6 < (x0.size : Int) then (if 0 ≤ x6 then ((selvageref04_Small.f (bt x0 x6)).bind fun t123 => (if t123 = true then (selvageref04_Tokens.l2 k x0 x5 (wrap64 (x6 + 1)) x8 x122000 x122001 x122002 x122003) else ((selvageref04_Digit.f (bt x0 x6)).bind fun t124 => (if t124 = true then (selvageref04_Tokens.l2 k x0 x5 (wrap64 (x6 + 1)) x8 x122000 x122001 x122002 x122003) else (selvageref04_Tokens.j4 k x0 x5 x6 x8 x122000 x122001 x122002 x122003))))) else (none)) else (selvageref04_Tokens.j4 k x0 x5 x6 x8 x122000 x122001 x122002 x122003)
def selvageref04_Tokens.l3 : Nat → ByteArray → List (S32) → Int → Int → Int → Int → ByteArray → Int → Int → Option ((List (S32)) × Int × Int)
  | 0, _, _, _, _, _, _, _, _, _ => none
  | k + 1, x0, x5, x6, x7, x8, x122000, x122001, x122002, x122003 => if x6 < (x0.size : Int) then (if 0 ≤ x6 then ((selvageref04_Digit.f (bt x0 x6)).bind fun t130 => (selvageref04_Tokens.j7 k x0 x5 x6 x7 x8 t130 x122000 x122001 x122002 x122003)) else (none)) else (selvageref04_Tokens.j7 k x0 x5 x6 x7 x8 false x122000 x122001 x122002 x122003)
def selvageref04_Tokens.j7 : Nat → ByteArray → List (S32) → Int → Int → Int → Bool → Int → ByteArray → Int → Int → Option ((List (S32)) × Int × Int)
  | 0, _, _, _, _, _, _, _, _, _, _ => none
  | k + 1, x0, x5, x6, x7, x8, x100, x122000, x122001, x122002, x122003 => if x100 = true then (if (wrap64 (x6 - x8)) < 9 then (if 0 ≤ x6 then (if x6 < (x0.size : Int) then (selvageref04_Tokens.l3 k x0 x5 (wrap64 (x6 + 1)) x7 x8 x122000 x122001 (wrap64 ((wrap64 ((wrap64 (10 * x122002)) + (wrap64 (bt x0 x6)))) - 48)) x122003) else (none)) else (none)) else (selvageref04_Tokens.l3 k x0 x5 (wrap64 (x6 + 1)) x7 x8 x122000 x122001 x122002 x122003)) else (if (wrap64 (x6 - x8)) > 9 then (selvageref04_Tokens.j8 k x0 x5 x6 x8 true x122000 x122001 x122002 x122003) else (if x7 = 48 then (if (wrap64 (x6 - x8)) > 1 then (selvageref04_Tokens.j8 k x0 x5 x6 x8 true x122000 x122001 x122002 x122003) else (if x6 < (x0.size : Int) then (if 0 ≤ x6 then ((selvageref04_Small.f (bt x0 x6)).bind fun t131 => (selvageref04_Tokens.j8 k x0 x5 x6 x8 t131 x122000 x122001 x122002 x122003)) else (none)) else (selvageref04_Tokens.j8 k x0 x5 x6 x8 false x122000 x122001 x122002 x122003))) else (if x6 < (x0.size : Int) then (if 0 ≤ x6 then ((selvageref04_Small.f (bt x0 x6)).bind fun t132 => (selvageref04_Tokens.j8 k x0 x5 x6 x8 t132 x122000 x122001 x122002 x122003)) else (none)) else (selvageref04_Tokens.j8 k x0 x5 x6 x8 false x122000 x122001 x122002 x122003))))
def selvageref04_Tokens.j8 : Nat → ByteArray → List (S32) → Int → Int → Bool → Int → ByteArray → Int → Int → Option ((List (S32)) × Int × Int)
  | 0, _, _, _, _, _, _, _, _, _ => none
  | k + 1, x0, x5, x6, x8, x142, x122000, x122001, x122002, x122003 => if x142 = true then (some (([] : List (S32)), 10, x8)) else (if (x5.length : Int) ≥ 1500 then (some (([] : List (S32)), 15, x8)) else (if 0 ≤ x8 then (if x8 ≤ x6 then (if x6 ≤ (x0.size : Int) then (if x5.length < 3518437208883 then (selvageref04_Tokens.l0 k x0 (x5 ++ [(⟨x122000, x0.extract (x8 : Int).toNat (x6 : Int).toNat, x122002, x122003⟩ : S32)]) x6) else (none)) else (none)) else (none)) else (none)))
def selvageref04_Tokens.j9 : Nat → ByteArray → List (S32) → Int → Int → Int → Bool → Int → ByteArray → Int → Int → Option ((List (S32)) × Int × Int)
  | 0, _, _, _, _, _, _, _, _, _, _ => none
  | k + 1, x0, x5, x6, x7, x8, x144, x122000, x122001, x122002, x122003 => if x144 = true then (if (x5.length : Int) ≥ 1500 then (some (([] : List (S32)), 15, x8)) else (if 0 ≤ x8 then (if x8 ≤ (wrap64 (x6 + 2)) then (if (wrap64 (x6 + 2)) ≤ (x0.size : Int) then (if x5.length < 3518437208883 then (selvageref04_Tokens.l0 k x0 (x5 ++ [(⟨4, x0.extract (x8 : Int).toNat ((wrap64 (x6 + 2)) : Int).toNat, x122002, x122003⟩ : S32)]) (wrap64 (x6 + 2))) else (none)) else (none)) else (none)) else (none))) else ((selvageref04_single.f x7).bind fun t140 => (if t140 = true then (if (x5.length : Int) ≥ 1500 then (some (([] : List (S32)), 15, x8)) else (if 0 ≤ x8 then (if x8 ≤ (wrap64 (x6 + 1)) then (if (wrap64 (x6 + 1)) ≤ (x0.size : Int) then (if x5.length < 3518437208883 then (selvageref04_Tokens.l0 k x0 (x5 ++ [(⟨4, x0.extract (x8 : Int).toNat ((wrap64 (x6 + 1)) : Int).toNat, x122002, x122003⟩ : S32)]) (wrap64 (x6 + 1))) else (none)) else (none)) else (none)) else (none))) else (some (([] : List (S32)), 10, x8))))
end
def selvageref04_Tokens.f (k : Nat) (a0 : ByteArray) : Option ((List (S32)) × Int × Int) := if (a0.size : Int) > 8192 then (some (([] : List (S32)), 15, 0)) else (selvageref04_Tokens.l0 k a0 ([] : List (S32)) 0)
theorem selvageref04_Tokens.mono_l : ∀ k, (∀ y0 y1 y2, LeO (selvageref04_Tokens.l0 k y0 y1 y2) (selvageref04_Tokens.l0 (k + 1) y0 y1 y2)) ∧ (∀ y0 y1 y2 y3 y4, LeO (selvageref04_Tokens.j1 k y0 y1 y2 y3 y4) (selvageref04_Tokens.j1 (k + 1) y0 y1 y2 y3 y4)) ∧ (∀ y0 y1 y2, LeO (selvageref04_Tokens.l1 k y0 y1 y2) (selvageref04_Tokens.l1 (k + 1) y0 y1 y2)) ∧ (∀ y0 y1 y2 y3 y4 y5 y6 y7, LeO (selvageref04_Tokens.j4 k y0 y1 y2 y3 y4 y5 y6 y7) (selvageref04_Tokens.j4 (k + 1) y0 y1 y2 y3 y4 y5 y6 y7)) ∧ (∀ y0 y1 y2 y3 y4 y5 y6 y7, LeO (selvageref04_Tokens.j5 k y0 y1 y2 y3 y4 y5 y6 y7) (selvageref04_Tokens.j5 (k + 1) y0 y1 y2 y3 y4 y5 y6 y7)) ∧ (∀ y0 y1 y2 y3 y4 y5 y6 y7, LeO (selvageref04_Tokens.l2 k y0 y1 y2 y3 y4 y5 y6 y7) (selvageref04_Tokens.l2 (k + 1) y0 y1 y2 y3 y4 y5 y6 y7)) ∧ (∀ y0 y1 y2 y3 y4 y5 y6 y7 y8, LeO (selvageref04_Tokens.l3 k y0 y1 y2 y3 y4 y5 y6 y7 y8) (selvageref04_Tokens.l3 (k + 1) y0 y1 y2 y3 y4 y5 y6 y7 y8)) ∧ (∀ y0 y1 y2 y3 y4 y5 y6 y7 y8 y9, LeO (selvageref04_Tokens.j7 k y0 y1 y2 y3 y4 y5 y6 y7 y8 y9) (selvageref04_Tokens.j7 (k + 1) y0 y1 y2 y3 y4 y5 y6 y7 y8 y9)) ∧ (∀ y0 y1 y2 y3 y4 y5 y6 y7 y8, LeO (selvageref04_Tokens.j8 k y0 y1 y2 y3 y4 y5 y6 y7 y8) (selvageref04_Tokens.j8 (k + 1) y0 y1 y2 y3 y4 y5 y6 y7 y8)) ∧ (∀ y0 y1 y2 y3 y4 y5 y6 y7 y8 y9, LeO (selvageref04_Tokens.j9 k y0 y1 y2 y3 y4 y5 y6 y7 y8 y9) (selvageref04_Tokens.j9 (k + 1) y0 y1 y2 y3 y4 y5 y6 y7 y8 y9))
  | 0 => ⟨fun _ _ _ r h => by simp [selvageref04_Tokens.l0] at h, fun _ _ _ _ _ r h => by simp [selvageref04_Tokens.j1] at h, fun _ _ _ r h => by simp [selvageref04_Tokens.l1] at h, fun _ _ _ _ _ _ _ _ r h => by simp [selvageref04_Tokens.j4] at h, fun _ _ _ _ _ _ _ _ r h => by simp [selvageref04_Tokens.j5] at h, fun _ _ _ _ _ _ _ _ r h => by simp [selvageref04_Tokens.l2] at h, fun _ _ _ _ _ _ _ _ _ r h => by simp [selvageref04_Tokens.l3] at h, fun _ _ _ _ _ _ _ _ _ _ r h => by simp [selvageref04_Tokens.j7] at h, fun _ _ _ _ _ _ _ _ _ r h => by simp [selvageref04_Tokens.j8] at h, fun _ _ _ _ _ _ _ _ _ _ r h => by simp [selvageref04_Tokens.j9] at h⟩
  | k + 1 => by
    obtain ⟨ih0, ih1, ih2, ih3, ih4, ih5, ih6, ih7, ih8, ih9⟩ := selvageref04_Tokens.mono_l k
    refine ⟨?_, ?_, ?_, ?_, ?_, ?_, ?_, ?_, ?_, ?_⟩
    · intro y0 y1 y2
      unfold selvageref04_Tokens.l0
      repeat' first
      | (with_reducible exact ih0 _ _ _)
      | (with_reducible exact ih1 _ _ _ _ _)
      | (with_reducible exact ih2 _ _ _)
      | (with_reducible exact ih3 _ _ _ _ _ _ _ _)
      | (with_reducible exact ih4 _ _ _ _ _ _ _ _)
      | (with_reducible exact ih5 _ _ _ _ _ _ _ _)
      | (with_reducible exact ih6 _ _ _ _ _ _ _ _ _)
      | (with_reducible exact ih7 _ _ _ _ _ _ _ _ _ _)
      | (with_reducible exact ih8 _ _ _ _ _ _ _ _ _)
      | (with_reducible exact ih9 _ _ _ _ _ _ _ _ _ _)
      | (with_reducible exact selvageref04_Key.mono _ _)
      | (with_reducible exact LeO.refl _)
      | (with_reducible exact LeO.none _)
      | (with_reducible refine LeO.ite ?_ ?_)
      | (with_reducible refine LeO.bind ?_ (fun _ => ?_))
      | exact ih0 _ _ _
      | exact ih1 _ _ _ _ _
      | exact ih2 _ _ _
      | exact ih3 _ _ _ _ _ _ _ _
      | exact ih4 _ _ _ _ _ _ _ _
      | exact ih5 _ _ _ _ _ _ _ _
      | exact ih6 _ _ _ _ _ _ _ _ _
      | exact ih7 _ _ _ _ _ _ _ _ _ _
      | exact ih8 _ _ _ _ _ _ _ _ _
      | exact ih9 _ _ _ _ _ _ _ _ _ _
      | exact selvageref04_Key.mono _ _
      | exact LeO.none _
      | refine LeO.ite ?_ ?_
      | refine LeO.bind ?_ (fun _ => ?_)
    · intro y0 y1 y2 y3 y4
      unfold selvageref04_Tokens.j1
      repeat' first
      | (with_reducible exact ih0 _ _ _)
      | (with_reducible exact ih1 _ _ _ _ _)
      | (with_reducible exact ih2 _ _ _)
      | (with_reducible exact ih3 _ _ _ _ _ _ _ _)
      | (with_reducible exact ih4 _ _ _ _ _ _ _ _)
      | (with_reducible exact ih5 _ _ _ _ _ _ _ _)
      | (with_reducible exact ih6 _ _ _ _ _ _ _ _ _)
      | (with_reducible exact ih7 _ _ _ _ _ _ _ _ _ _)
      | (with_reducible exact ih8 _ _ _ _ _ _ _ _ _)
      | (with_reducible exact ih9 _ _ _ _ _ _ _ _ _ _)
      | (with_reducible exact selvageref04_Key.mono _ _)
      | (with_reducible exact LeO.refl _)
      | (with_reducible exact LeO.none _)
      | (with_reducible refine LeO.ite ?_ ?_)
      | (with_reducible refine LeO.bind ?_ (fun _ => ?_))
      | exact ih0 _ _ _
      | exact ih1 _ _ _ _ _
      | exact ih2 _ _ _
      | exact ih3 _ _ _ _ _ _ _ _
      | exact ih4 _ _ _ _ _ _ _ _
      | exact ih5 _ _ _ _ _ _ _ _
      | exact ih6 _ _ _ _ _ _ _ _ _
      | exact ih7 _ _ _ _ _ _ _ _ _ _
      | exact ih8 _ _ _ _ _ _ _ _ _
      | exact ih9 _ _ _ _ _ _ _ _ _ _
      | exact selvageref04_Key.mono _ _
      | exact LeO.none _
      | refine LeO.ite ?_ ?_
      | refine LeO.bind ?_ (fun _ => ?_)
    · intro y0 y1 y2
      unfold selvageref04_Tokens.l1
      repeat' first
      | (with_reducible exact ih0 _ _ _)
      | (with_reducible exact ih1 _ _ _ _ _)
      | (with_reducible exact ih2 _ _ _)
      | (with_reducible exact ih3 _ _ _ _ _ _ _ _)
      | (with_reducible exact ih4 _ _ _ _ _ _ _ _)
      | (with_reducible exact ih5 _ _ _ _ _ _ _ _)
      | (with_reducible exact ih6 _ _ _ _ _ _ _ _ _)
      | (with_reducible exact ih7 _ _ _ _ _ _ _ _ _ _)
      | (with_reducible exact ih8 _ _ _ _ _ _ _ _ _)
      | (with_reducible exact ih9 _ _ _ _ _ _ _ _ _ _)
      | (with_reducible exact selvageref04_Key.mono _ _)
      | (with_reducible exact LeO.refl _)
      | (with_reducible exact LeO.none _)
      | (with_reducible refine LeO.ite ?_ ?_)
      | (with_reducible refine LeO.bind ?_ (fun _ => ?_))
      | exact ih0 _ _ _
      | exact ih1 _ _ _ _ _
      | exact ih2 _ _ _
      | exact ih3 _ _ _ _ _ _ _ _
      | exact ih4 _ _ _ _ _ _ _ _
      | exact ih5 _ _ _ _ _ _ _ _
      | exact ih6 _ _ _ _ _ _ _ _ _
      | exact ih7 _ _ _ _ _ _ _ _ _ _
      | exact ih8 _ _ _ _ _ _ _ _ _
      | exact ih9 _ _ _ _ _ _ _ _ _ _
      | exact selvageref04_Key.mono _ _
      | exact LeO.none _
      | refine LeO.ite ?_ ?_
      | refine LeO.bind ?_ (fun _ => ?_)
    · intro y0 y1 y2 y3 y4 y5 y6 y7
      unfold selvageref04_Tokens.j4
      repeat' first
      | (with_reducible exact ih0 _ _ _)
      | (with_reducible exact ih1 _ _ _ _ _)
      | (with_reducible exact ih2 _ _ _)
      | (with_reducible exact ih3 _ _ _ _ _ _ _ _)
      | (with_reducible exact ih4 _ _ _ _ _ _ _ _)
      | (with_reducible exact ih5 _ _ _ _ _ _ _ _)
      | (with_reducible exact ih6 _ _ _ _ _ _ _ _ _)
      | (with_reducible exact ih7 _ _ _ _ _ _ _ _ _ _)
      | (with_reducible exact ih8 _ _ _ _ _ _ _ _ _)
      | (with_reducible exact ih9 _ _ _ _ _ _ _ _ _ _)
      | (with_reducible exact selvageref04_Key.mono _ _)
      | (with_reducible exact LeO.refl _)
      | (with_reducible exact LeO.none _)
      | (with_reducible refine LeO.ite ?_ ?_)
      | (with_reducible refine LeO.bind ?_ (fun _ => ?_))
      | exact ih0 _ _ _
      | exact ih1 _ _ _ _ _
      | exact ih2 _ _ _
      | exact ih3 _ _ _ _ _ _ _ _
      | exact ih4 _ _ _ _ _ _ _ _
      | exact ih5 _ _ _ _ _ _ _ _
      | exact ih6 _ _ _ _ _ _ _ _ _
      | exact ih7 _ _ _ _ _ _ _ _ _ _
      | exact ih8 _ _ _ _ _ _ _ _ _
      | exact ih9 _ _ _ _ _ _ _ _ _ _
      | exact selvageref04_Key.mono _ _
      | exact LeO.none _
      | refine LeO.ite ?_ ?_
      | refine LeO.bind ?_ (fun _ => ?_)
    · intro y0 y1 y2 y3 y4 y5 y6 y7
      unfold selvageref04_Tokens.j5
      repeat' first
      | (with_reducible exact ih0 _ _ _)
      | (with_reducible exact ih1 _ _ _ _ _)
      | (with_reducible exact ih2 _ _ _)
      | (with_reducible exact ih3 _ _ _ _ _ _ _ _)
      | (with_reducible exact ih4 _ _ _ _ _ _ _ _)
      | (with_reducible exact ih5 _ _ _ _ _ _ _ _)
      | (with_reducible exact ih6 _ _ _ _ _ _ _ _ _)
      | (with_reducible exact ih7 _ _ _ _ _ _ _ _ _ _)
      | (with_reducible exact ih8 _ _ _ _ _ _ _ _ _)
      | (with_reducible exact ih9 _ _ _ _ _ _ _ _ _ _)
      | (with_reducible exact selvageref04_Key.mono _ _)
      | (with_reducible exact LeO.refl _)
      | (with_reducible exact LeO.none _)
      | (with_reducible refine LeO.ite ?_ ?_)
      | (with_reducible refine LeO.bind ?_ (fun _ => ?_))
      | exact ih0 _ _ _
      | exact ih1 _ _ _ _ _
      | exact ih2 _ _ _
      | exact ih3 _ _ _ _ _ _ _ _
      | exact ih4 _ _ _ _ _ _ _ _
      | exact ih5 _ _ _ _ _ _ _ _
      | exact ih6 _ _ _ _ _ _ _ _ _
      | exact ih7 _ _ _ _ _ _ _ _ _ _
      | exact ih8 _ _ _ _ _ _ _ _ _
      | exact ih9 _ _ _ _ _ _ _ _ _ _
      | exact selvageref04_Key.mono _ _
      | exact LeO.none _
      | refine LeO.ite ?_ ?_
      | refine LeO.bind ?_ (fun _ => ?_)
    · intro y0 y1 y2 y3 y4 y5 y6 y7
      unfold selvageref04_Tokens.l2
      repeat' first
      | (with_reducible exact ih0 _ _ _)
      | (with_reducible exact ih1 _ _ _ _ _)
      | (with_reducible exact ih2 _ _ _)
      | (with_reducible exact ih3 _ _ _ _ _ _ _ _)
      | (with_reducible exact ih4 _ _ _ _ _ _ _ _)
      | (with_reducible exact ih5 _ _ _ _ _ _ _ _)
      | (with_reducible exact ih6 _ _ _ _ _ _ _ _ _)
      | (with_reducible exact ih7 _ _ _ _ _ _ _ _ _ _)
      | (with_reducible exact ih8 _ _ _ _ _ _ _ _ _)
      | (with_reducible exact ih9 _ _ _ _ _ _ _ _ _ _)
      | (with_reducible exact selvageref04_Key.mono _ _)
      | (with_reducible exact LeO.refl _)
      | (with_reducible exact LeO.none _)
      | (with_reducible refine LeO.ite ?_ ?_)
      | (with_reducible refine LeO.bind ?_ (fun _ => ?_))
      | exact ih0 _ _ _
      | exact ih1 _ _ _ _ _
      | exact ih2 _ _ _
      | exact ih3 _ _ _ _ _ _ _ _
      | exact ih4 _ _ _ _ _ _ _ _
      | exact ih5 _ _ _ _ _ _ _ _
      | exact ih6 _ _ _ _ _ _ _ _ _
      | exact ih7 _ _ _ _ _ _ _ _ _ _
      | exact ih8 _ _ _ _ _ _ _ _ _
      | exact ih9 _ _ _ _ _ _ _ _ _ _
      | exact selvageref04_Key.mono _ _
      | exact LeO.none _
      | refine LeO.ite ?_ ?_
      | refine LeO.bind ?_ (fun _ => ?_)
    · intro y0 y1 y2 y3 y4 y5 y6 y7 y8
      unfold selvageref04_Tokens.l3
      repeat' first
      | (with_reducible exact ih0 _ _ _)
      | (with_reducible exact ih1 _ _ _ _ _)
      | (with_reducible exact ih2 _ _ _)
      | (with_reducible exact ih3 _ _ _ _ _ _ _ _)
      | (with_reducible exact ih4 _ _ _ _ _ _ _ _)
      | (with_reducible exact ih5 _ _ _ _ _ _ _ _)
      | (with_reducible exact ih6 _ _ _ _ _ _ _ _ _)
      | (with_reducible exact ih7 _ _ _ _ _ _ _ _ _ _)
      | (with_reducible exact ih8 _ _ _ _ _ _ _ _ _)
      | (with_reducible exact ih9 _ _ _ _ _ _ _ _ _ _)
      | (with_reducible exact selvageref04_Key.mono _ _)
      | (with_reducible exact LeO.refl _)
      | (with_reducible exact LeO.none _)
      | (with_reducible refine LeO.ite ?_ ?_)
      | (with_reducible refine LeO.bind ?_ (fun _ => ?_))
      | exact ih0 _ _ _
      | exact ih1 _ _ _ _ _
      | exact ih2 _ _ _
      | exact ih3 _ _ _ _ _ _ _ _
      | exact ih4 _ _ _ _ _ _ _ _
      | exact ih5 _ _ _ _ _ _ _ _
      | exact ih6 _ _ _ _ _ _ _ _ _
      | exact ih7 _ _ _ _ _ _ _ _ _ _
      | exact ih8 _ _ _ _ _ _ _ _ _
      | exact ih9 _ _ _ _ _ _ _ _ _ _
      | exact selvageref04_Key.mono _ _
      | exact LeO.none _
      | refine LeO.ite ?_ ?_
      | refine LeO.bind ?_ (fun _ => ?_)
    · intro y0 y1 y2 y3 y4 y5 y6 y7 y8 y9
      unfold selvageref04_Tokens.j7
      repeat' first
      | (with_reducible exact ih0 _ _ _)
      | (with_reducible exact ih1 _ _ _ _ _)
      | (with_reducible exact ih2 _ _ _)
      | (with_reducible exact ih3 _ _ _ _ _ _ _ _)
      | (with_reducible exact ih4 _ _ _ _ _ _ _ _)
      | (with_reducible exact ih5 _ _ _ _ _ _ _ _)
      | (with_reducible exact ih6 _ _ _ _ _ _ _ _ _)
      | (with_reducible exact ih7 _ _ _ _ _ _ _ _ _ _)
      | (with_reducible exact ih8 _ _ _ _ _ _ _ _ _)
      | (with_reducible exact ih9 _ _ _ _ _ _ _ _ _ _)
      | (with_reducible exact selvageref04_Key.mono _ _)
      | (with_reducible exact LeO.refl _)
      | (with_reducible exact LeO.none _)
      | (with_reducible refine LeO.ite ?_ ?_)
      | (with_reducible refine LeO.bind ?_ (fun _ => ?_))
      | exact ih0 _ _ _
      | exact ih1 _ _ _ _ _
      | exact ih2 _ _ _
      | exact ih3 _ _ _ _ _ _ _ _
      | exact ih4 _ _ _ _ _ _ _ _
      | exact ih5 _ _ _ _ _ _ _ _
      | exact ih6 _ _ _ _ _ _ _ _ _
      | exact ih7 _ _ _ _ _ _ _ _ _ _
      | exact ih8 _ _ _ _ _ _ _ _ _
      | exact ih9 _ _ _ _ _ _ _ _ _ _
      | exact selvageref04_Key.mono _ _
      | exact LeO.none _
      | refine LeO.ite ?_ ?_
      | refine LeO.bind ?_ (fun _ => ?_)
    · intro y0 y1 y2 y3 y4 y5 y6 y7 y8
      unfold selvageref04_Tokens.j8
      repeat' first
      | (with_reducible exact ih0 _ _ _)
      | (with_reducible exact ih1 _ _ _ _ _)
      | (with_reducible exact ih2 _ _ _)
      | (with_reducible exact ih3 _ _ _ _ _ _ _ _)
      | (with_reducible exact ih4 _ _ _ _ _ _ _ _)
      | (with_reducible exact ih5 _ _ _ _ _ _ _ _)
      | (with_reducible exact ih6 _ _ _ _ _ _ _ _ _)
      | (with_reducible exact ih7 _ _ _ _ _ _ _ _ _ _)
      | (with_reducible exact ih8 _ _ _ _ _ _ _ _ _)
      | (with_reducible exact ih9 _ _ _ _ _ _ _ _ _ _)
      | (with_reducible exact selvageref04_Key.mono _ _)
      | (with_reducible exact LeO.refl _)
      | (with_reducible exact LeO.none _)
      | (with_reducible refine LeO.ite ?_ ?_)
      | (with_reducible refine LeO.bind ?_ (fun _ => ?_))
      | exact ih0 _ _ _
      | exact ih1 _ _ _ _ _
      | exact ih2 _ _ _
      | exact ih3 _ _ _ _ _ _ _ _
      | exact ih4 _ _ _ _ _ _ _ _
      | exact ih5 _ _ _ _ _ _ _ _
      | exact ih6 _ _ _ _ _ _ _ _ _
      | exact ih7 _ _ _ _ _ _ _ _ _ _
      | exact ih8 _ _ _ _ _ _ _ _ _
      | exact ih9 _ _ _ _ _ _ _ _ _ _
      | exact selvageref04_Key.mono _ _
      | exact LeO.none _
      | refine LeO.ite ?_ ?_
      | refine LeO.bind ?_ (fun _ => ?_)
    · intro y0 y1 y2 y3 y4 y5 y6 y7 y8 y9
      unfold selvageref04_Tokens.j9
      repeat' first
      | (with_reducible exact ih0 _ _ _)
      | (with_reducible exact ih1 _ _ _ _ _)
      | (with_reducible exact ih2 _ _ _)
      | (with_reducible exact ih3 _ _ _ _ _ _ _ _)
      | (with_reducible exact ih4 _ _ _ _ _ _ _ _)
      | (with_reducible exact ih5 _ _ _ _ _ _ _ _)
      | (with_reducible exact ih6 _ _ _ _ _ _ _ _ _)
      | (with_reducible exact ih7 _ _ _ _ _ _ _ _ _ _)
      | (with_reducible exact ih8 _ _ _ _ _ _ _ _ _)
      | (with_reducible exact ih9 _ _ _ _ _ _ _ _ _ _)
      | (with_reducible exact selvageref04_Key.mono _ _)
      | (with_reducible exact LeO.refl _)
      | (with_reducible exact LeO.none _)
      | (with_reducible refine LeO.ite ?_ ?_)
      | (with_reducible refine LeO.bind ?_ (fun _ => ?_))
      | exact ih0 _ _ _
      | exact ih1 _ _ _ _ _
      | exact ih2 _ _ _
      | exact ih3 _ _ _ _ _ _ _ _
      | exact ih4 _ _ _ _ _ _ _ _
      | exact ih5 _ _ _ _ _ _ _ _
      | exact ih6 _ _ _ _ _ _ _ _ _
      | exact ih7 _ _ _ _ _ _ _ _ _ _
      | exact ih8 _ _ _ _ _ _ _ _ _
      | exact ih9 _ _ _ _ _ _ _ _ _ _
      | exact selvageref04_Key.mono _ _
      | exact LeO.none _
      | refine LeO.ite ?_ ?_
      | refine LeO.bind ?_ (fun _ => ?_)
theorem selvageref04_Tokens.mono : ∀ a0 k, LeO (selvageref04_Tokens.f k a0) (selvageref04_Tokens.f (k + 1) a0) := by
  intro a0 k
  obtain ⟨ih0, ih1, ih2, ih3, ih4, ih5, ih6, ih7, ih8, ih9⟩ := selvageref04_Tokens.mono_l k
  unfold selvageref04_Tokens.f
  repeat' first
      | (with_reducible exact ih0 _ _ _)
      | (with_reducible exact ih1 _ _ _ _ _)
      | (with_reducible exact ih2 _ _ _)
      | (with_reducible exact ih3 _ _ _ _ _ _ _ _)
      | (with_reducible exact ih4 _ _ _ _ _ _ _ _)
      | (with_reducible exact ih5 _ _ _ _ _ _ _ _)
      | (with_reducible exact ih6 _ _ _ _ _ _ _ _ _)
      | (with_reducible exact ih7 _ _ _ _ _ _ _ _ _ _)
      | (with_reducible exact ih8 _ _ _ _ _ _ _ _ _)
      | (with_reducible exact ih9 _ _ _ _ _ _ _ _ _ _)
      | (with_reducible exact selvageref04_Key.mono _ _)
      | (with_reducible exact LeO.refl _)
      | (with_reducible exact LeO.none _)
      | (with_reducible refine LeO.ite ?_ ?_)
      | (with_reducible refine LeO.bind ?_ (fun _ => ?_))
      | exact ih0 _ _ _
      | exact ih1 _ _ _ _ _
      | exact ih2 _ _ _
      | exact ih3 _ _ _ _ _ _ _ _
      | exact ih4 _ _ _ _ _ _ _ _
      | exact ih5 _ _ _ _ _ _ _ _
      | exact ih6 _ _ _ _ _ _ _ _ _
      | exact ih7 _ _ _ _ _ _ _ _ _ _
      | exact ih8 _ _ _ _ _ _ _ _ _
      | exact ih9 _ _ _ _ _ _ _ _ _ _
      | exact selvageref04_Key.mono _ _
      | exact LeO.none _
      | refine LeO.ite ?_ ?_
      | refine LeO.bind ?_ (fun _ => ?_)
def selvageref04_Tokens.T27 : Bool × List (List Nat × List Nat) := (true, [([], []), ([0], [0]), ([1], [1]), ([], []), ([], []), ([3, 4], [3, 4]), ([5], [5]), ([2, 6], [2, 6]), ([7], [7]), ([0, 1, 2, 3, 4, 5, 6, 7, 8], []), ([9, 8, 0, 1, 2, 3, 4, 5, 6, 7, 8], [8, 9])])
def selvageref04_Tokens.B27 : List Nat := [0, 1, 3, 0, 0, 24, 56, 127, 255, 511, 1023]
theorem selvageref04_Tokens.tab27 : rtab .any (opsOf Try.f10 27) = selvageref04_Tokens.T27 := by kernel_rfl
theorem selvageref04_Tokens.bits27 : waitsOk selvageref04_Tokens.T27.2 selvageref04_Tokens.B27 = true := by kernel_rfl
set_option maxHeartbeats 8000000 in
set_option maxRecDepth 100000 in
theorem selvageref04_Tokens.calls (k : Nat) (a0 : ByteArray) (r1 : List (S32)) (r2 : Int) (r3 : Int) (w : World) (h : selvageref04_Tokens.f k a0 = some (r1, r2, r3)) :
    Calls Try.prog 10 #[.string a0] w fun e w' => ∃ v0_ : Value, e = .returned (.tuple #[v0_, .int .i64 r2, .int .i64 r3]) ∧ Kd.R k32 32 w' w.heap.size (fun _ => True) v0_ r1 ∧ Below w.heap.size w w' := by
  have hu32 := Try.underlying32
  have HB := Aside0.mk (Below.refl w.heap.size w)
  have H : (if (a0.size : Int) > 8192 then (some (([] : List (S32)), 15, 0)) else (selvageref04_Tokens.l0 k a0 ([] : List (S32)) 0)) = some (r1, r2, r3) := h
  clear h
  by_cases c2 : (a0.size : Int) > 8192
  · rw [if_pos c2] at H
    have c2b0 : decide (8192 < (a0.size : Int)) = true := decide_eq_true c2
    have c2b1 : decide (8192 < a0.size) = true := decide_eq_true (by omega)
    clear c2
    simp only [Option.some.injEq, Prod.mk.injEq] at H
    obtain ⟨rfl, rfl, rfl⟩ := H
    go_enter Try.func10, Try.ntmps10
    go_wp2
    go_ret3
    exact ⟨_, by first | rfl | (simp [errW_none, errW_some] <;> rfl) | (simp [*, errW_none, errW_some] <;> rfl), by first | exact Kd.R_nil _ _ _ _ _ | exact Kd.N_nil _ _ _ _ _ | exact Kd.V_nil _ _ _ _ _ | exact Kd.Q_nil _ _ _ _ _ | exact Kd.S_nil _ _ _ _ _, by repeat (first | (with_reducible first | exact HB.out | apply below_alloc | apply pw_below_drewN | apply below_drew1) | exact HB.out)⟩
  · rw [if_neg c2] at H
    have c2b0 : decide (8192 < (a0.size : Int)) = false := decide_eq_false c2
    have c2b1 : decide (8192 < a0.size) = false := decide_eq_false (by omega)
    clear c2
    have H' := Aside0.mk H
    clear H
    go_enter Try.func10, Try.ntmps10
    go_wp2
    go_loopg [5, 6] k (fun kq v5 v6 w' => ∃ (x5_1 : List (S32)) (x6_1 : Int), v6 = .int .i64 x6_1 ∧ Aside0 (selvageref04_Tokens.l0 kq a0 x5_1 x6_1 = some (r1, r2, r3)) ∧ Aside0 (kq ≤ k) ∧ Aside0 (Kd.R k32 32 w' w.heap.size (fun _ => True) v5 x5_1) ∧ Aside0 (Below w.heap.size w w'))
    case atStart => exact ⟨(([] : List (S32))), (0), (by first | rfl | (simp; done) | (simp [*]; done)), H', ⟨Nat.le_refl _⟩, ⟨by first | exact Kd.R_nil _ _ _ _ _ | exact Kd.N_nil _ _ _ _ _ | exact Kd.V_nil _ _ _ _ _ | exact Kd.Q_nil _ _ _ _ _ | exact Kd.S_nil _ _ _ _ _⟩, ⟨by repeat (first | (with_reducible first | exact HB.out | apply below_alloc | apply pw_below_drewN | apply below_drew1) | exact HB.out)⟩⟩
    case round =>
      clear H'
      try clear c1
      try clear c2
      try clear c2b0
      try clear c2b1
      try clear p2
      obtain ⟨x5_1, x6_1, rfl, HA, HK1, HO_5, HB⟩ := hrel
      cases gk with
      | zero => exact absurd HA.out (by simp [selvageref04_Tokens.l0])
      | succ k1 =>
        have H := HA.out
        clear HA
        simp only [selvageref04_Tokens.l0] at H
        by_cases c3 : x6_1 < (a0.size : Int)
        · rw [if_pos c3] at H
          have c3b0 : decide (x6_1 < (a0.size : Int)) = true := decide_eq_true c3
          clear c3
          by_cases c4 : 0 ≤ x6_1
          · rw [if_pos c4] at H
            have c4b0 : decide (0 ≤ x6_1) = true := decide_eq_true c4
            clear c4
            have HC6 := Aside0.mk H
            clear H
            have p5 : 0 ≤ (x6_1 : Int) := of_decide_eq_true (by first | (with_reducible assumption) | assumption)
            have q5 : x6_1 < (a0.size : Int) := of_decide_eq_true (by first | (with_reducible assumption) | assumption)
            have hx5 := bt_at a0 x6_1
            replace p5 := eq_true p5
            replace q5 := eq_true q5
            go_upto_region 7 with (fail)
            go_cut [33] (fun v33 wc => ∃ (kq : Nat) (x33_5 : Bool), v33 = .bool x33_5 ∧ Aside0 (selvageref04_Tokens.j1 kq a0 x5_1 x6_1 (bt a0 x6_1) x33_5 = some (r1, r2, r3)) ∧ Aside0 (kq ≤ k1) ∧ Aside0 (Kd.R k32 32 wc w.heap.size (fun _ => True) u5 x5_1) ∧ Aside0 (Below w.heap.size w wc))
            case first =>
              have H := HC6.out
              clear HC6
              by_cases c7 : (bt a0 x6_1) = 32
              · rw [if_pos c7] at H
                have c7b0 : ((bt a0 x6_1) == 32) = true := beq_iff_eq.mpr c7
                have c7b1 : ((bt a0 x6_1) != 32) = false := bne_eq_false_iff_eq.mpr c7
                clear c7
                (first | rw [c7b0] | (simp only [i64_w, i32_w]; rw [c7b0]) | skip)
                have H' := Aside0.mk H
                clear H
                go_wp2
                go_meet
                case rel => exact ⟨_, (true), (by first | rfl | (simp; done) | (simp [*]; done)), H', ⟨by have := HK1.out; first | omega | exact Nat.le_refl _⟩, ⟨by (with_reducible repeat (first | apply Kd.R_alloc | apply Kd.R_drewN | apply Kd.R_drew)); exact HO_5.out⟩, ⟨by repeat (first | (with_reducible first | exact HB.out | apply below_alloc | apply pw_below_drewN | apply below_drew1) | exact HB.out)⟩⟩
              · rw [if_neg c7] at H
                have c7b0 : ((bt a0 x6_1) == 32) = false := beq_eq_false_iff_ne.mpr c7
                have c7b1 : ((bt a0 x6_1) != 32) = true := bne_iff_ne.mpr c7
                (first | rw [c7b0] | (simp only [i64_w, i32_w]; rw [c7b0]) | skip)
                by_cases c8 : (bt a0 x6_1) = 9
                · rw [if_pos c8] at H
                  have c8b0 : ((bt a0 x6_1) == 9) = true := beq_iff_eq.mpr c8
                  have c8b1 : ((bt a0 x6_1) != 9) = false := bne_eq_false_iff_eq.mpr c8
                  clear c8
                  have H' := Aside0.mk H
                  clear H
                  go_wp2
                  go_meet
                  case rel => exact ⟨_, (true), (by first | rfl | (simp; done) | (simp [*]; done)), H', ⟨by have := HK1.out; first | omega | exact Nat.le_refl _⟩, ⟨by (with_reducible repeat (first | apply Kd.R_alloc | apply Kd.R_drewN | apply Kd.R_drew)); exact HO_5.out⟩, ⟨by repeat (first | (with_reducible first | exact HB.out | apply below_alloc | apply pw_below_drewN | apply below_drew1) | exact HB.out)⟩⟩
                · rw [if_neg c8] at H
                  have c8b0 : ((bt a0 x6_1) == 9) = false := beq_eq_false_iff_ne.mpr c8
                  have c8b1 : ((bt a0 x6_1) != 9) = true := bne_iff_ne.mpr c8
                  by_cases c9 : (bt a0 x6_1) = 10
                  · rw [if_pos c9] at H
                    have c9b0 : ((bt a0 x6_1) == 10) = true := beq_iff_eq.mpr c9
                    have c9b1 : ((bt a0 x6_1) != 10) = false := bne_eq_false_iff_eq.mpr c9
                    clear c9
                    have H' := Aside0.mk H
                    clear H
                    go_wp2
                    go_meet
                    case rel => exact ⟨_, (true), (by first | rfl | (simp; done) | (simp [*]; done)), H', ⟨by have := HK1.out; first | omega | exact Nat.le_refl _⟩, ⟨by (with_reducible repeat (first | apply Kd.R_alloc | apply Kd.R_drewN | apply Kd.R_drew)); exact HO_5.out⟩, ⟨by repeat (first | (with_reducible first | exact HB.out | apply below_alloc | apply pw_below_drewN | apply below_drew1) | exact HB.out)⟩⟩
                  · rw [if_neg c9] at H
                    have c9b0 : ((bt a0 x6_1) == 10) = false := beq_eq_false_iff_ne.mpr c9
                    have c9b1 : ((bt a0 x6_1) != 10) = true := bne_iff_ne.mpr c9
                    have H' := Aside0.mk H
                    clear H
                    go_wp2
                    go_meet
                    case rel => exact ⟨_, (((bt a0 x6_1) == 13)), (by first | rfl | (simp; done) | (simp [*]; done)), H', ⟨by have := HK1.out; first | omega | exact Nat.le_refl _⟩, ⟨by (with_reducible repeat (first | apply Kd.R_alloc | apply Kd.R_drewN | apply Kd.R_drew)); exact HO_5.out⟩, ⟨by repeat (first | (with_reducible first | exact HB.out | apply below_alloc | apply pw_below_drewN | apply below_drew1) | exact HB.out)⟩⟩
            case rest =>
              clear HC6
              try clear c1
              try clear c2
              try clear c2b0
              try clear c2b1
              try clear p2
              try clear c3
              try clear c3b0
              try clear c4
              try clear c4b0
              try clear p5
              try clear q5
              try clear hx5
              try clear c7
              try clear c7b0
              try clear c7b1
              try clear c8
              try clear c8b0
              try clear c8b1
              try clear c9
              try clear c9b0
              try clear c9b1
              try clear p2
              try clear p5
              try clear q5
              obtain ⟨kq, x33_5, rfl, HA, HJ5, HO_5, HB⟩ := hcut
              cases kq with
              | zero => exact absurd HA.out (by simp [selvageref04_Tokens.j1])
              | succ kj5 =>
                have H := HA.out
                clear HA
                simp only [selvageref04_Tokens.j1] at H
                by_cases c10 : x33_5 = true
                · subst c10
                  have H1 : (selvageref04_Tokens.l0 kj5 a0 x5_1 (wrap64 (x6_1 + 1))) = some (r1, r2, r3) := by rw [if_pos rfl] at H; exact H
                  clear H
                  have H := H1
                  clear H1
                  have H' := Aside0.mk H
                  clear H
                  go_wp2
                  go_roundg kj5
                  case measure => have := HK1.out; have := HJ5.out; omega
                  case rel => exact ⟨(x5_1), (wrap64 (x6_1 + 1)), (by first | rfl | (simp; done) | (simp [*]; done)), H', ⟨by have := HK1.out; have := HJ5.out; omega⟩, ⟨by (with_reducible repeat (first | apply Kd.R_alloc | apply Kd.R_drewN | apply Kd.R_drew)); exact HO_5.out⟩, ⟨by repeat (first | (with_reducible first | exact HB.out | apply below_alloc | apply pw_below_drewN | apply below_drew1) | exact HB.out)⟩⟩
                · replace c10 := Bool.eq_false_iff.mpr c10
                  subst c10
                  have H1 : (if (bt a0 x6_1) = 35 then (selvageref04_Tokens.l1 kj5 a0 x5_1 x6_1) else ((selvageref04_Small.f (bt a0 x6_1)).bind fun t122 => (if t122 = true then (selvageref04_Tokens.l2 kj5 a0 x5_1 x6_1 x6_1 0 (⟨#[]⟩ : ByteArray) 0 x6_1) else ((selvageref04_Digit.f (bt a0 x6_1)).bind fun t129 => (if t129 = true then (selvageref04_Tokens.l3 kj5 a0 x5_1 x6_1 (bt a0 x6_1) x6_1 3 (⟨#[]⟩ : ByteArray) 0 x6_1) else (if (wrap64 (x6_1 + 1)) < (a0.size : Int) then (if 0 ≤ (wrap64 (x6_1 + 1)) then ((selvageref04_double.f (bt a0 x6_1) (bt a0 (wrap64 (x6_1 + 1)))).bind fun t136 => (selvageref04_Tokens.j9 kj5 a0 x5_1 x6_1 (bt a0 x6_1) x6_1 t136 0 (⟨#[]⟩ : ByteArray) 0 x6_1)) else (none)) else (selvageref04_Tokens.j9 kj5 a0 x5_1 x6_1 (bt a0 x6_1) x6_1 false 0 (⟨#[]⟩ : ByteArray) 0 x6_1))))))) = some (r1, r2, r3) := by rw [if_neg (show ¬ (false = true) by decide)] at H; exact H
                  clear H
                  have H := H1
                  clear H1
                  by_cases c11 : (bt a0 x6_1) = 35
                  · rw [if_pos c11] at H
                    have c11b0 : ((bt a0 x6_1) == 35) = true := beq_iff_eq.mpr c11
                    have c11b1 : ((bt a0 x6_1) != 35) = false := bne_eq_false_iff_eq.mpr c11
                    clear c11
                    have H' := Aside0.mk H
                    clear H
                    go_wp2
                    go_loopg [6] kj5 (fun kq v6 w' => ∃ (x6_3 : Int), v6 = .int .i64 x6_3 ∧ Aside0 (selvageref04_Tokens.l1 kq a0 x5_1 x6_3 = some (r1, r2, r3)) ∧ Aside0 (kq ≤ kj5) ∧ Aside0 (Kd.R k32 32 w' w.heap.size (fun _ => True) u5 x5_1) ∧ Aside0 (Below w.heap.size w w'))
                    case atStart => exact ⟨(x6_1), (by first | rfl | (simp; done) | (simp [*]; done)), H', ⟨Nat.le_refl _⟩, ⟨by (with_reducible repeat (first | apply Kd.R_alloc | apply Kd.R_drewN | apply Kd.R_drew)); exact HO_5.out⟩, ⟨by repeat (first | (with_reducible first | exact HB.out | apply below_alloc | apply pw_below_drewN | apply below_drew1) | exact HB.out)⟩⟩
                    case round =>
                      clear H'
                      try clear c1
                      try clear c2
                      try clear c2b0
                      try clear c2b1
                      try clear p2
                      try clear c3
                      try clear c3b0
                      try clear c4
                      try clear c4b0
                      try clear p5
                      try clear q5
                      try clear hx5
                      try clear p6
                      try clear c7
                      try clear c7b0
                      try clear c7b1
                      try clear c8
                      try clear c8b0
                      try clear c8b1
                      try clear c9
                      try clear c9b0
                      try clear c9b1
                      try clear c10
                      try clear c11
                      try clear c11b0
                      try clear c11b1
                      try clear p2
                      try clear p5
                      try clear q5
                      obtain ⟨x6_3, rfl, HA, HK3, HO_5, HB⟩ := hrel
                      cases gk with
                      | zero => exact absurd HA.out (by simp [selvageref04_Tokens.l1])
                      | succ k3 =>
                        have H := HA.out
                        clear HA
                        simp only [selvageref04_Tokens.l1] at H
                        by_cases c12 : x6_3 < (a0.size : Int)
                        · rw [if_pos c12] at H
                          have c12b0 : decide (x6_3 < (a0.size : Int)) = true := decide_eq_true c12
                          clear c12
                          by_cases c13 : 0 ≤ x6_3
                          · rw [if_pos c13] at H
                            have c13b0 : decide (0 ≤ x6_3) = true := decide_eq_true c13
                            clear c13
                            by_cases c15 : (bt a0 x6_3) = 10
                            · rw [if_pos c15] at H
                              have c15b0 : ((bt a0 x6_3) == 10) = true := beq_iff_eq.mpr c15
                              have c15b1 : ((bt a0 x6_3) != 10) = false := bne_eq_false_iff_eq.mpr c15
                              clear c15
                              have H' := Aside0.mk H
                              clear H
                              have p14 : 0 ≤ (x6_3 : Int) := of_decide_eq_true (by first | (with_reducible assumption) | assumption)
                              have q14 : x6_3 < (a0.size : Int) := of_decide_eq_true (by first | (with_reducible assumption) | assumption)
                              have hx14 := bt_at a0 x6_3
                              replace p14 := eq_true p14
                              replace q14 := eq_true q14
                              go_wp2
                              go_roundg k3
                              case measure => have := HK1.out; have := HJ5.out; have := HK3.out; omega
                              case rel => exact ⟨(x5_1), (x6_3), (by first | rfl | (simp; done) | (simp [*]; done)), H', ⟨by have := HK1.out; have := HJ5.out; have := HK3.out; omega⟩, ⟨by (with_reducible repeat (first | apply Kd.R_alloc | apply Kd.R_drewN | apply Kd.R_drew)); exact HO_5.out⟩, ⟨by repeat (first | (with_reducible first | exact HB.out | apply below_alloc | apply pw_below_drewN | apply below_drew1) | exact HB.out)⟩⟩
                            · rw [if_neg c15] at H
                              have c15b0 : ((bt a0 x6_3) == 10) = false := beq_eq_false_iff_ne.mpr c15
                              have c15b1 : ((bt a0 x6_3) != 10) = true := bne_iff_ne.mpr c15
                              have H' := Aside0.mk H
                              clear H
                              have p14 : 0 ≤ (x6_3 : Int) := of_decide_eq_true (by first | (with_reducible assumption) | assumption)
                              have q14 : x6_3 < (a0.size : Int) := of_decide_eq_true (by first | (with_reducible assumption) | assumption)
                              have hx14 := bt_at a0 x6_3
                              replace p14 := eq_true p14
                              replace q14 := eq_true q14
                              go_wp2
                              go_roundg k3
                              case measure => have := HK1.out; have := HJ5.out; have := HK3.out; omega
                              case rel => exact ⟨(wrap64 (x6_3 + 1)), (by first | rfl | (simp; done) | (simp [*]; done)), H', ⟨by have := HK1.out; have := HJ5.out; have := HK3.out; omega⟩, ⟨by (with_reducible repeat (first | apply Kd.R_alloc | apply Kd.R_drewN | apply Kd.R_drew)); exact HO_5.out⟩, ⟨by repeat (first | (with_reducible first | exact HB.out | apply below_alloc | apply pw_below_drewN | apply below_drew1) | exact HB.out)⟩⟩
                          · rw [if_neg c13] at H
                            exact absurd H (by simp)
                        · rw [if_neg c12] at H
                          have c12b0 : decide (x6_3 < (a0.size : Int)) = false := decide_eq_false c12
                          clear c12
                          have H' := Aside0.mk H
                          clear H
                          go_wp2
                          go_roundg k3
                          case measure => have := HK1.out; have := HJ5.out; have := HK3.out; omega
                          case rel => exact ⟨(x5_1), (x6_3), (by first | rfl | (simp; done) | (simp [*]; done)), H', ⟨by have := HK1.out; have := HJ5.out; have := HK3.out; omega⟩, ⟨by (with_reducible repeat (first | apply Kd.R_alloc | apply Kd.R_drewN | apply Kd.R_drew)); exact HO_5.out⟩, ⟨by repeat (first | (with_reducible first | exact HB.out | apply below_alloc | apply pw_below_drewN | apply below_drew1) | exact HB.out)⟩⟩
                  · rw [if_neg c11] at H
                    have c11b0 : ((bt a0 x6_1) == 35) = false := beq_eq_false_iff_ne.mpr c11
                    have c11b1 : ((bt a0 x6_1) != 35) = true := bne_iff_ne.mpr c11
                    replace H := Option.bind_eq_some_iff.mp H
                    obtain ⟨t122, A160, H⟩ := H
                    replace H : (if t122 = true then (selvageref04_Tokens.l2 kj5 a0 x5_1 x6_1 x6_1 0 (⟨#[]⟩ : ByteArray) 0 x6_1) else ((selvageref04_Digit.f (bt a0 x6_1)).bind fun t129 => (if t129 = true then (selvageref04_Tokens.l3 kj5 a0 x5_1 x6_1 (bt a0 x6_1) x6_1 3 (⟨#[]⟩ : ByteArray) 0 x6_1) else (if (wrap64 (x6_1 + 1)) < (a0.size : Int) then (if 0 ≤ (wrap64 (x6_1 + 1)) then ((selvageref04_double.f (bt a0 x6_1) (bt a0 (wrap64 (x6_1 + 1)))).bind fun t136 => (selvageref04_Tokens.j9 kj5 a0 x5_1 x6_1 (bt a0 x6_1) x6_1 t136 0 (⟨#[]⟩ : ByteArray) 0 x6_1)) else (none)) else (selvageref04_Tokens.j9 kj5 a0 x5_1 x6_1 (bt a0 x6_1) x6_1 false 0 (⟨#[]⟩ : ByteArray) 0 x6_1))))) = some (r1, r2, r3) := H
                    have A16 := Aside0.mk A160
                    clear A160
                    by_cases c17 : t122 = true
                    · as_aux_lemma =>
                      subst c17
                      have H1 : (selvageref04_Tokens.l2 kj5 a0 x5_1 x6_1 x6_1 0 (⟨#[]⟩ : ByteArray) 0 x6_1) = some (r1, r2, r3) := by rw [if_pos rfl] at H; exact H
                      clear H
                      have H := H1
                      clear H1
                      have HC18 := Aside0.mk H
                      clear H
                      go_upto_block 5 with (first | ((with_reducible refine gate_dst (N := 9) rfl ?_); (try (refine gate_guard (by rfl) ?_; dsimp only)); refine box_event ?hg (N := 9) ?hd (cs := #[.int .i64 0, .string (⟨#[]⟩ : ByteArray), .int .i64 0, .int .i64 0]) (t := 32) ?hr ?_; (case hd => rfl); (case hg => rfl); (case hr => first | (go_simp; done) | (go_simp; rfl)); intro gb121 hg w19 hbox hb; have n0_ := Aside0.mk (Kd.R_below (Kd.R_elderB (by (with_reducible repeat (first | apply Kd.R_alloc | apply Kd.R_drewN | apply Kd.R_drew)); exact HO_5.out) gb121 (Nat.le_of_eq hg.symm)) hb); have n1_ := Aside0.mk (below_step (by repeat (first | (with_reducible first | exact HB.out | apply below_alloc | apply pw_below_drewN | apply below_drew1) | exact HB.out)) hb); have n2_ := Aside0.mk (hbox); have n3_ := Aside0.mk ((by rw [hg]; exact (below_size (by repeat (first | (with_reducible first | exact HB.out | apply below_alloc | apply pw_below_drewN | apply below_drew1) | exact HB.out))) : w.heap.size ≤ gb121)); have n4_ := Aside0.mk ((by rw [hg]; exact (below_size (by repeat (first | (with_reducible first | exact HB.out | apply below_alloc | apply pw_below_drewN | apply below_drew1) | exact HB.out))) : w.heap.size ≤ gb121)); clear HO_5; clear HB; have HO_5 := n0_; have HB := n1_; have BK121 := n2_; have GW121 := n3_; have GE121 := n4_; clear n0_ n1_ n2_ n3_ n4_; clear hb hbox hg; have hcz20_0 : w19.cell? ⟨gb121, 0, none⟩ = some (.int .i64 0) := (blk_cell BK121.out 0).trans rfl; have hcz20_1 : w19.cell? ⟨gb121, 1, none⟩ = some (.string (⟨#[]⟩ : ByteArray)) := (blk_cell BK121.out 1).trans rfl; have hcz20_2 : w19.cell? ⟨gb121, 2, none⟩ = some (.int .i64 0) := (blk_cell BK121.out 2).trans rfl; have hcz20_3 : w19.cell? ⟨gb121, 3, none⟩ = some (.int .i64 0) := (blk_cell BK121.out 3).trans rfl; have hfz20_0 := blk_frozen BK121.out 0; have hfz20_1 := blk_frozen BK121.out 1; have hfz20_2 := blk_frozen BK121.out 2; have hfz20_3 := blk_frozen BK121.out 3) | ((with_reducible refine gate_callee (f := 17) rfl ?_); refine goesL_ (some 56) rfl rfl Try.func17 (by kernel_rfl) rfl #[.int .u8 (bt a0 x6_1)] rfl (by (try simp only [List.map_toArray, List.map_cons, List.map_nil]); first | done | rfl | (simp only [List.length_drop, List.length_take]; rfl)) ?_; (with_reducible refine (selvageref04_Small.calls (bt a0 x6_1) true _ A16.out).mono ?_); rintro e w' ⟨rfl, ⟨nd, rfl⟩⟩; refine ⟨_, rfl, ?_⟩))
                      (try simp only [Act.put, List.setIfInBounds_toArray, List.set_cons_zero, List.set_cons_succ])
                      go_cut [6] (fun v6 wc => ∃ (kq : Nat) (x6_17 : Int), v6 = .int .i64 x6_17 ∧ Aside0 (selvageref04_Tokens.j4 kq a0 x5_1 x6_17 x6_1 0 (⟨#[]⟩ : ByteArray) 0 x6_1 = some (r1, r2, r3)) ∧ Aside0 (kq ≤ kj5) ∧ Aside0 (Kd.R k32 32 wc w.heap.size (fun k_ => k_ ≠ gb121) u5 x5_1) ∧ Aside0 (wc.heap[gb121]? = some (.cells #[.int .i64 0, .string (⟨#[]⟩ : ByteArray), .int .i64 0, .int .i64 x6_1] 32 (0, 0))) ∧ Aside0 (Below w.heap.size w wc))
                      case first =>
                        have H := HC18.out
                        clear HC18
                        have H' := Aside0.mk H
                        clear H
                        go_wp2
                        go_loopg [6] kj5 (fun kq v6 w' => ∃ (x6_3 : Int), v6 = .int .i64 x6_3 ∧ Aside0 (selvageref04_Tokens.l2 kq a0 x5_1 x6_3 x6_1 0 (⟨#[]⟩ : ByteArray) 0 x6_1 = some (r1, r2, r3)) ∧ Aside0 (kq ≤ kj5) ∧ Aside0 (Kd.R k32 32 w' w.heap.size (fun k_ => k_ ≠ gb121) u5 x5_1) ∧ Aside0 (w'.heap[gb121]? = some (.cells #[.int .i64 0, .string (⟨#[]⟩ : ByteArray), .int .i64 0, .int .i64 x6_1] 32 (0, 0))) ∧ Aside0 (Below w.heap.size w w'))
                        case atStart => exact ⟨(x6_1), (by first | rfl | (simp; done) | (simp [*]; done)), H', ⟨Nat.le_refl _⟩, ⟨by (with_reducible repeat (first | apply Kd.R_alloc | apply Kd.R_drewN | apply Kd.R_drew)); exact Kd.R_mono (Kd.R_far (p := ⟨gb121, 3, none⟩) (Kd.R_far (p := ⟨gb121, 2, none⟩) (Kd.R_far (p := ⟨gb121, 1, none⟩) (Kd.R_far (p := ⟨gb121, 0, none⟩) (Kd.R_mono HO_5.out (fun k_ hk => (⟨hk, hk.2⟩ : _ ∧ k_ ≠ gb121))) (fun _ hk => hk.2) (.int .i64 0)) (fun _ hk => hk.2) (.string (⟨#[]⟩ : ByteArray))) (fun _ hk => hk.2) (.int .i64 0)) (fun _ hk => hk.2) (.int .i64 x6_1)) (fun _ hk => hk.1.2)⟩, ⟨by (with_reducible repeat (first | refine blk_drewN ?_ _ | refine blk_drew ?_ | refine blk_alloc ?_ _)); refine blk_put (cs := #[.int .i64 0, .string (⟨#[]⟩ : ByteArray), .int .i64 0, .int .i64 0]) ?_ 3 _ rfl; (with_reducible repeat (first | refine blk_drewN ?_ _ | refine blk_drew ?_ | refine blk_alloc ?_ _)); refine blk_put (cs := #[.int .i64 0, .string (⟨#[]⟩ : ByteArray), .int .i64 0, .int .i64 0]) ?_ 2 _ rfl; (with_reducible repeat (first | refine blk_drewN ?_ _ | refine blk_drew ?_ | refine blk_alloc ?_ _)); refine blk_put (cs := #[.int .i64 0, .string (⟨#[]⟩ : ByteArray), .int .i64 0, .int .i64 0]) ?_ 1 _ rfl; (with_reducible repeat (first | refine blk_drewN ?_ _ | refine blk_drew ?_ | refine blk_alloc ?_ _)); refine blk_put (cs := #[.int .i64 0, .string (⟨#[]⟩ : ByteArray), .int .i64 0, .int .i64 0]) ?_ 0 _ rfl; (with_reducible repeat (first | refine blk_drewN ?_ _ | refine blk_drew ?_ | refine blk_alloc ?_ _)); exact BK121.out⟩, ⟨by repeat (first | (with_reducible first | exact HB.out | apply below_alloc | apply pw_below_drewN | apply below_drew1 | refine below_set ?_ GE121.out) | exact HB.out)⟩⟩
                        case round =>
                          clear H'
                          try clear c1
                          try clear p1
                          try clear q1
                          try clear hx1
                          try clear c2
                          try clear c2b0
                          try clear c2b1
                          try clear p2
                          try clear c3
                          try clear c3b0
                          try clear c4
                          try clear c4b0
                          try clear p5
                          try clear q5
                          try clear hx5
                          try clear p6
                          try clear c7
                          try clear c7b0
                          try clear c7b1
                          try clear c8
                          try clear c8b0
                          try clear c8b1
                          try clear c9
                          try clear c9b0
                          try clear c9b1
                          try clear c10
                          try clear c11
                          try clear c11b0
                          try clear c11b1
                          try clear c12
                          try clear c12b0
                          try clear c13
                          try clear c13b0
                          try clear p14
                          try clear q14
                          try clear hx14
                          try clear c15
                          try clear c15b0
                          try clear c15b1
                          try clear c17
                          try clear hcz20_0
                          try clear hcz20_1
                          try clear hcz20_2
                          try clear hcz20_3
                          try clear hfz20_0
                          try clear hfz20_1
                          try clear hfz20_2
                          try clear hfz20_3
                          try clear p14
                          try clear p2
                          try clear p5
                          try clear p6
                          try clear q14
                          try clear q5
                          obtain ⟨x6_3, rfl, HA, HK3, HO_5, BK121, HB⟩ := hrel
                          cases gk with
                          | zero => exact absurd HA.out (by simp [selvageref04_Tokens.l2])
                          | succ k3 =>
                            have H := HA.out
                            clear HA
                            simp only [selvageref04_Tokens.l2] at H
                            by_cases c21 : x6_3 < (a0.size : Int)
                            · rw [if_pos c21] at H
                              have c21b0 : decide (x6_3 < (a0.size : Int)) = true := decide_eq_true c21
                              clear c21
                              (first | rw [c21b0] | (simp only [i64_w, i32_w]; rw [c21b0]) | skip)
                              by_cases c22 : 0 ≤ x6_3
                              · rw [if_pos c22] at H
                                have c22b0 : decide (0 ≤ x6_3) = true := decide_eq_true c22
                                clear c22
                                replace H := Option.bind_eq_some_iff.mp H
                                obtain ⟨t123, A240, H⟩ := H
                                replace H : (if t123 = true then (selvageref04_Tokens.l2 k3 a0 x5_1 (wrap64 (x6_3 + 1)) x6_1 0 (⟨#[]⟩ : ByteArray) 0 x6_1) else ((selvageref04_Digit.f (bt a0 x6_3)).bind fun t124 => (if t124 = true then (selvageref04_Tokens.l2 k3 a0 x5_1 (wrap64 (x6_3 + 1)) x6_1 0 (⟨#[]⟩ : ByteArray) 0 x6_1) else (selvageref04_Tokens.j4 k3 a0 x5_1 x6_3 x6_1 0 (⟨#[]⟩ : ByteArray) 0 x6_1)))) = some (r1, r2, r3) := H
                                have A24 := Aside0.mk A240
                                clear A240
                                by_cases c25 : t123 = true
                                · subst c25
                                  have H1 : (selvageref04_Tokens.l2 k3 a0 x5_1 (wrap64 (x6_3 + 1)) x6_1 0 (⟨#[]⟩ : ByteArray) 0 x6_1) = some (r1, r2, r3) := by rw [if_pos rfl] at H; exact H
                                  clear H
                                  have H := H1
                                  clear H1
                                  have H' := Aside0.mk H
                                  clear H
                                  have p23 : 0 ≤ (x6_3 : Int) := of_decide_eq_true (by first | (with_reducible assumption) | assumption)
                                  have q23 : x6_3 < (a0.size : Int) := of_decide_eq_true (by first | (with_reducible assumption) | assumption)
                                  have hx23 := bt_at a0 x6_3
                                  replace p23 := eq_true p23
                                  replace q23 := eq_true q23
                                  go_wp2_with (first | (go_at_call 17; (with_reducible refine (selvageref04_Small.calls (bt a0 x6_3) true _ A24.out).mono ?_); rintro e w' ⟨rfl, ⟨nd, rfl⟩⟩))
                                  go_roundg k3
                                  case measure => have := HK1.out; have := HJ5.out; have := HK3.out; omega
                                  case rel => exact ⟨(wrap64 (x6_3 + 1)), (by first | rfl | (simp; done) | (simp [*]; done)), H', ⟨by have := HK1.out; have := HJ5.out; have := HK3.out; omega⟩, ⟨by (with_reducible repeat (first | apply Kd.R_alloc | apply Kd.R_drewN | apply Kd.R_drew)); exact HO_5.out⟩, ⟨by (with_reducible repeat (first | refine blk_drewN ?_ _ | refine blk_drew ?_ | refine blk_alloc ?_ _)); exact BK121.out⟩, ⟨by repeat (first | (with_reducible first | exact HB.out | apply below_alloc | apply pw_below_drewN | apply below_drew1 | refine below_set ?_ GE121.out) | exact HB.out)⟩⟩
                                · replace c25 := Bool.eq_false_iff.mpr c25
                                  subst c25
                                  have H1 : ((selvageref04_Digit.f (bt a0 x6_3)).bind fun t124 => (if t124 = true then (selvageref04_Tokens.l2 k3 a0 x5_1 (wrap64 (x6_3 + 1)) x6_1 0 (⟨#[]⟩ : ByteArray) 0 x6_1) else (selvageref04_Tokens.j4 k3 a0 x5_1 x6_3 x6_1 0 (⟨#[]⟩ : ByteArray) 0 x6_1))) = some (r1, r2, r3) := by rw [if_neg (show ¬ (false = true) by decide)] at H; exact H
                                  clear H
                                  have H := H1
                                  clear H1
                                  replace H := Option.bind_eq_some_iff.mp H
                                  obtain ⟨t124, A270, H⟩ := H
                                  replace H : (if t124 = true then (selvageref04_Tokens.l2 k3 a0 x5_1 (wrap64 (x6_3 + 1)) x6_1 0 (⟨#[]⟩ : ByteArray) 0 x6_1) else (selvageref04_Tokens.j4 k3 a0 x5_1 x6_3 x6_1 0 (⟨#[]⟩ : ByteArray) 0 x6_1)) = some (r1, r2, r3) := H
                                  have A27 := Aside0.mk A270
                                  clear A270
                                  by_cases c28 : t124 = true
                                  · subst c28
                                    have H1 : (selvageref04_Tokens.l2 k3 a0 x5_1 (wrap64 (x6_3 + 1)) x6_1 0 (⟨#[]⟩ : ByteArray) 0 x6_1) = some (r1, r2, r3) := by rw [if_pos rfl] at H; exact H
                                    clear H
                                    have H := H1
                                    clear H1
                                    have H' := Aside0.mk H
                                    clear H
                                    have p23 : 0 ≤ (x6_3 : Int) := of_decide_eq_true (by first | (with_reducible assumption) | assumption)
                                    have q23 : x6_3 < (a0.size : Int) := of_decide_eq_true (by first | (with_reducible assumption) | assumption)
                                    have hx23 := bt_at a0 x6_3
                                    replace p23 := eq_true p23
                                    replace q23 := eq_true q23
                                    go_wp2_with (first | (go_at_call 17; (with_reducible refine (selvageref04_Small.calls (bt a0 x6_3) false _ A24.out).mono ?_); rintro e w' ⟨rfl, ⟨nd, rfl⟩⟩; have p26 : 0 ≤ (x6_3 : Int) := of_decide_eq_true (by first | (with_reducible assumption) | assumption); have q26 : x6_3 < (a0.size : Int) := of_decide_eq_true (by first | (with_reducible assumption) | assumption); have hx26 := bt_at a0 x6_3; replace p26 := eq_true p26; replace q26 := eq_true q26) | (go_at_call 18; (with_reducible refine (selvageref04_Digit.calls (bt a0 x6_3) true _ A27.out).mono ?_); rintro e w' ⟨rfl, ⟨nd, rfl⟩⟩))
                                    go_roundg k3
                                    case measure => have := HK1.out; have := HJ5.out; have := HK3.out; omega
                                    case rel => exact ⟨(wrap64 (x6_3 + 1)), (by first | rfl | (simp; done) | (simp [*]; done)), H', ⟨by have := HK1.out; have := HJ5.out; have := HK3.out; omega⟩, ⟨by (with_reducible repeat (first | apply Kd.R_alloc | apply Kd.R_drewN | apply Kd.R_drew)); exact HO_5.out⟩, ⟨by (with_reducible repeat (first | refine blk_drewN ?_ _ | refine blk_drew ?_ | refine blk_alloc ?_ _)); exact BK121.out⟩, ⟨by repeat (first | (with_reducible first | exact HB.out | apply below_alloc | apply pw_below_drewN | apply below_drew1 | refine below_set ?_ GE121.out) | exact HB.out)⟩⟩
                                  · replace c28 := Bool.eq_false_iff.mpr c28
                                    subst c28
                                    have H1 : (selvageref04_Tokens.j4 k3 a0 x5_1 x6_3 x6_1 0 (⟨#[]⟩ : ByteArray) 0 x6_1) = some (r1, r2, r3) := by rw [if_neg (show ¬ (false = true) by decide)] at H; exact H
                                    clear H
                                    have H := H1
                                    clear H1
                                    have H' := Aside0.mk H
                                    clear H
                                    have p23 : 0 ≤ (x6_3 : Int) := of_decide_eq_true (by first | (with_reducible assumption) | assumption)
                                    have q23 : x6_3 < (a0.size : Int) := of_decide_eq_true (by first | (with_reducible assumption) | assumption)
                                    have hx23 := bt_at a0 x6_3
                                    replace p23 := eq_true p23
                                    replace q23 := eq_true q23
                                    go_wp2_with (first | (go_at_call 17; (with_reducible refine (selvageref04_Small.calls (bt a0 x6_3) false _ A24.out).mono ?_); rintro e w' ⟨rfl, ⟨nd, rfl⟩⟩; have p26 : 0 ≤ (x6_3 : Int) := of_decide_eq_true (by first | (with_reducible assumption) | assumption); have q26 : x6_3 < (a0.size : Int) := of_decide_eq_true (by first | (with_reducible assumption) | assumption); have hx26 := bt_at a0 x6_3; replace p26 := eq_true p26; replace q26 := eq_true q26) | (go_at_call 18; (with_reducible refine (selvageref04_Digit.calls (bt a0 x6_3) false _ A27.out).mono ?_); rintro e w' ⟨rfl, ⟨nd, rfl⟩⟩))
                                    go_meet
                                    case rel => exact ⟨_, (x6_3), (by first | rfl | (simp; done) | (simp [*]; done)), H', ⟨by have := HK1.out; have := HJ5.out; have := HK3.out; first | omega | exact Nat.le_refl _⟩, ⟨by (with_reducible repeat (first | apply Kd.R_alloc | apply Kd.R_drewN | apply Kd.R_drew)); exact HO_5.out⟩, ⟨by (with_reducible repeat (first | refine blk_drewN ?_ _ | refine blk_drew ?_ | refine blk_alloc ?_ _)); exact BK121.out⟩, ⟨by repeat (first | (with_reducible first | exact HB.out | apply below_alloc | apply pw_below_drewN | apply below_drew1 | refine below_set ?_ GE121.out) | exact HB.out)⟩⟩
                              · rw [if_neg c22] at H
                                exact absurd H (by simp)
                            · rw [if_neg c21] at H
                              have c21b0 : decide (x6_3 < (a0.size : Int)) = false := decide_eq_false c21
                              clear c21
                              (first | rw [c21b0] | (simp only [i64_w, i32_w]; rw [c21b0]) | skip)
                              have H' := Aside0.mk H
                              clear H
                              go_wp2
                              go_meet
                              case rel => exact ⟨_, (x6_3), (by first | rfl | (simp; done) | (simp [*]; done)), H', ⟨by have := HK1.out; have := HJ5.out; have := HK3.out; first | omega | exact Nat.le_refl _⟩, ⟨by (with_reducible repeat (first | apply Kd.R_alloc | apply Kd.R_drewN | apply Kd.R_drew)); exact HO_5.out⟩, ⟨by (with_reducible repeat (first | refine blk_drewN ?_ _ | refine blk_drew ?_ | refine blk_alloc ?_ _)); exact BK121.out⟩, ⟨by repeat (first | (with_reducible first | exact HB.out | apply below_alloc | apply pw_below_drewN | apply below_drew1 | refine below_set ?_ GE121.out) | exact HB.out)⟩⟩
                      case rest =>
                        clear HC18
                        try clear c1
                        try clear p1
                        try clear q1
                        try clear hx1
                        try clear c2
                        try clear c2b0
                        try clear c2b1
                        try clear p2
                        try clear q2
                        try clear hx2
                        try clear c3
                        try clear c3b0
                        try clear c4
                        try clear c4b0
                        try clear p5
                        try clear q5
                        try clear hx5
                        try clear p6
                        try clear c7
                        try clear c7b0
                        try clear c7b1
                        try clear c8
                        try clear c8b0
                        try clear c8b1
                        try clear c9
                        try clear c9b0
                        try clear c9b1
                        try clear c10
                        try clear c11
                        try clear c11b0
                        try clear c11b1
                        try clear c12
                        try clear c12b0
                        try clear c13
                        try clear c13b0
                        try clear p14
                        try clear q14
                        try clear hx14
                        try clear c15
                        try clear c15b0
                        try clear c15b1
                        try clear c17
                        try clear c21
                        try clear c21b0
                        try clear c22
                        try clear c22b0
                        try clear p23
                        try clear q23
                        try clear hx23
                        try clear c25
                        try clear p26
                        try clear q26
                        try clear hx26
                        try clear c28
                        try clear hcz20_0
                        try clear hcz20_1
                        try clear hcz20_2
                        try clear hcz20_3
                        try clear hfz20_0
                        try clear hfz20_1
                        try clear hfz20_2
                        try clear hfz20_3
                        try clear p1
                        try clear p14
                        try clear p2
                        try clear p23
                        try clear p26
                        try clear p5
                        try clear p6
                        try clear q1
                        try clear q14
                        try clear q23
                        try clear q26
                        try clear q5
                        obtain ⟨kq, x6_17, rfl, HA, HJ17, HO_5, BK121, HB⟩ := hcut
                        cases kq with
                        | zero => exact absurd HA.out (by simp [selvageref04_Tokens.j4])
                        | succ kj17 =>
                          have H := HA.out
                          clear HA
                          simp only [selvageref04_Tokens.j4] at H
                          by_cases c29 : 0 ≤ x6_1
                          · rw [if_pos c29] at H
                            have c29b0 := eq_true c29
                            have c29b1 : decide (0 ≤ x6_1) = true := decide_eq_true c29
                            clear c29
                            by_cases c30 : x6_1 ≤ x6_17
                            · rw [if_pos c30] at H
                              have c30b0 := eq_true c30
                              have c30b1 : decide (x6_1 ≤ x6_17) = true := decide_eq_true c30
                              clear c30
                              by_cases c31 : x6_17 ≤ (a0.size : Int)
                              · rw [if_pos c31] at H
                                have c31b0 := eq_true c31
                                have c31b1 : decide (x6_17 ≤ (a0.size : Int)) = true := decide_eq_true c31
                                clear c31
                                replace H := Option.bind_eq_some_iff.mp H
                                obtain ⟨t125, A320, H⟩ := H
                                replace H : (if t125 = true then (selvageref04_Tokens.j5 kj17 a0 x5_1 x6_17 x6_1 2 (⟨#[]⟩ : ByteArray) 0 x6_1) else (selvageref04_Tokens.j5 kj17 a0 x5_1 x6_17 x6_1 1 (⟨#[]⟩ : ByteArray) 0 x6_1)) = some (r1, r2, r3) := H
                                have A32 := Aside0.mk A320
                                clear A320
                                have HC33 := Aside0.mk H
                                clear H
                                have hcz34_0 : wc.cell? ⟨gb121, 0, none⟩ = some (.int .i64 0) := (blk_cell BK121.out 0).trans rfl
                                have hcz34_1 : wc.cell? ⟨gb121, 1, none⟩ = some (.string (⟨#[]⟩ : ByteArray)) := (blk_cell BK121.out 1).trans rfl
                                have hcz34_2 : wc.cell? ⟨gb121, 2, none⟩ = some (.int .i64 0) := (blk_cell BK121.out 2).trans rfl
                                have hcz34_3 : wc.cell? ⟨gb121, 3, none⟩ = some (.int .i64 x6_1) := (blk_cell BK121.out 3).trans rfl
                                have hfz34_0 := blk_frozen BK121.out 0
                                have hfz34_1 := blk_frozen BK121.out 1
                                have hfz34_2 := blk_frozen BK121.out 2
                                have hfz34_3 := blk_frozen BK121.out 3
                                go_upto_if 80 with (first | ((with_reducible refine gate_callee (f := 19) rfl ?_); refine goesL_ (some 80) rfl rfl Try.func19 (by kernel_rfl) rfl #[.string (a0.extract (x6_1 : Int).toNat (x6_17 : Int).toNat)] rfl (by (try simp only [List.map_toArray, List.map_cons, List.map_nil]); first | done | rfl | (simp only [List.length_drop, List.length_take]; rfl)) ?_; (with_reducible refine (selvageref04_Key.calls kj17 (a0.extract (x6_1 : Int).toNat (x6_17 : Int).toNat) t125 _ A32.out).mono ?_); rintro e w' ⟨rfl, ⟨nd, rfl⟩⟩; refine ⟨_, rfl, ?_⟩))
                                (try simp only [Act.put, List.setIfInBounds_toArray, List.set_cons_zero, List.set_cons_succ])
                                go_cut [] (fun wc => ∃ (kq : Nat) (x122000_32 : Int), Aside0 (selvageref04_Tokens.j5 kq a0 x5_1 x6_17 x6_1 x122000_32 (⟨#[]⟩ : ByteArray) 0 x6_1 = some (r1, r2, r3)) ∧ Aside0 (kq ≤ kj17) ∧ Aside0 (Kd.R k32 32 wc w.heap.size (fun k_ => k_ ≠ gb121) u5 x5_1) ∧ Aside0 (wc.heap[gb121]? = some (.cells #[.int .i64 x122000_32, .string (⟨#[]⟩ : ByteArray), .int .i64 0, .int .i64 x6_1] 32 (0, 0))) ∧ Aside0 (Below w.heap.size w wc))
                                case first =>
                                  have H := HC33.out
                                  clear HC33
                                  by_cases c35 : t125 = true
                                  · subst c35
                                    have H1 : (selvageref04_Tokens.j5 kj17 a0 x5_1 x6_17 x6_1 2 (⟨#[]⟩ : ByteArray) 0 x6_1) = some (r1, r2, r3) := by rw [if_pos rfl] at H; exact H
                                    clear H
                                    have H := H1
                                    clear H1
                                    have H' := Aside0.mk H
                                    clear H
                                    have hcz36_0 : wc.cell? ⟨gb121, 0, none⟩ = some (.int .i64 0) := (blk_cell BK121.out 0).trans rfl
                                    have hcz36_1 : wc.cell? ⟨gb121, 1, none⟩ = some (.string (⟨#[]⟩ : ByteArray)) := (blk_cell BK121.out 1).trans rfl
                                    have hcz36_2 : wc.cell? ⟨gb121, 2, none⟩ = some (.int .i64 0) := (blk_cell BK121.out 2).trans rfl
                                    have hcz36_3 : wc.cell? ⟨gb121, 3, none⟩ = some (.int .i64 x6_1) := (blk_cell BK121.out 3).trans rfl
                                    have hfz36_0 := blk_frozen BK121.out 0
                                    have hfz36_1 := blk_frozen BK121.out 1
                                    have hfz36_2 := blk_frozen BK121.out 2
                                    have hfz36_3 := blk_frozen BK121.out 3
                                    go_wp2
                                    go_meet
                                    case rel => exact ⟨_, (2), H', ⟨by have := HK1.out; have := HJ5.out; have := HJ17.out; first | omega | exact Nat.le_refl _⟩, ⟨by (with_reducible repeat (first | apply Kd.R_alloc | apply Kd.R_drewN | apply Kd.R_drew)); exact Kd.R_mono (Kd.R_far (p := ⟨gb121, 0, none⟩) (Kd.R_far (p := ⟨gb121, 0, none⟩) (Kd.R_mono HO_5.out (fun k_ hk => (⟨hk, hk⟩ : _ ∧ k_ ≠ gb121))) (fun _ hk => hk.2) (.int .i64 1)) (fun _ hk => hk.2) (.int .i64 2)) (fun _ hk => hk.1)⟩, ⟨by (with_reducible repeat (first | refine blk_drewN ?_ _ | refine blk_drew ?_ | refine blk_alloc ?_ _)); refine blk_put (cs := #[.int .i64 1, .string (⟨#[]⟩ : ByteArray), .int .i64 0, .int .i64 x6_1]) ?_ 0 _ rfl; (with_reducible repeat (first | refine blk_drewN ?_ _ | refine blk_drew ?_ | refine blk_alloc ?_ _)); refine blk_put (cs := #[.int .i64 0, .string (⟨#[]⟩ : ByteArray), .int .i64 0, .int .i64 x6_1]) ?_ 0 _ rfl; (with_reducible repeat (first | refine blk_drewN ?_ _ | refine blk_drew ?_ | refine blk_alloc ?_ _)); exact BK121.out⟩, ⟨by repeat (first | (with_reducible first | exact HB.out | apply below_alloc | apply pw_below_drewN | apply below_drew1 | refine below_set ?_ GE121.out) | exact HB.out)⟩⟩
                                  · replace c35 := Bool.eq_false_iff.mpr c35
                                    subst c35
                                    have H1 : (selvageref04_Tokens.j5 kj17 a0 x5_1 x6_17 x6_1 1 (⟨#[]⟩ : ByteArray) 0 x6_1) = some (r1, r2, r3) := by rw [if_neg (show ¬ (false = true) by decide)] at H; exact H
                                    clear H
                                    have H := H1
                                    clear H1
                                    have H' := Aside0.mk H
                                    clear H
                                    go_wp2
                                    go_meet
                                    case rel => exact ⟨_, (1), H', ⟨by have := HK1.out; have := HJ5.out; have := HJ17.out; first | omega | exact Nat.le_refl _⟩, ⟨by (with_reducible repeat (first | apply Kd.R_alloc | apply Kd.R_drewN | apply Kd.R_drew)); exact Kd.R_mono (Kd.R_far (p := ⟨gb121, 0, none⟩) (Kd.R_mono HO_5.out (fun k_ hk => (⟨hk, hk⟩ : _ ∧ k_ ≠ gb121))) (fun _ hk => hk.2) (.int .i64 1)) (fun _ hk => hk.1)⟩, ⟨by (with_reducible repeat (first | refine blk_drewN ?_ _ | refine blk_drew ?_ | refine blk_alloc ?_ _)); refine blk_put (cs := #[.int .i64 0, .string (⟨#[]⟩ : ByteArray), .int .i64 0, .int .i64 x6_1]) ?_ 0 _ rfl; (with_reducible repeat (first | refine blk_drewN ?_ _ | refine blk_drew ?_ | refine blk_alloc ?_ _)); exact BK121.out⟩, ⟨by repeat (first | (with_reducible first | exact HB.out | apply below_alloc | apply pw_below_drewN | apply below_drew1 | refine below_set ?_ GE121.out) | exact HB.out)⟩⟩
                                case rest =>
                                  clear HC33
                                  try clear c1
                                  try clear p1
                                  try clear q1
                                  try clear hx1
                                  try clear c2
                                  try clear c2b0
                                  try clear c2b1
                                  try clear p2
                                  try clear q2
                                  try clear hx2
                                  try clear c3
                                  try clear c3b0
                                  try clear c4
                                  try clear c4b0
                                  try clear p5
                                  try clear q5
                                  try clear hx5
                                  try clear p6
                                  try clear c7
                                  try clear c7b0
                                  try clear c7b1
                                  try clear c8
                                  try clear c8b0
                                  try clear c8b1
                                  try clear c9
                                  try clear c9b0
                                  try clear c9b1
                                  try clear c10
                                  try clear c11
                                  try clear c11b0
                                  try clear c11b1
                                  try clear c12
                                  try clear c12b0
                                  try clear c13
                                  try clear c13b0
                                  try clear p14
                                  try clear q14
                                  try clear hx14
                                  try clear c15
                                  try clear c15b0
                                  try clear c15b1
                                  try clear c17
                                  try clear c19
                                  try clear c21
                                  try clear c21b0
                                  try clear c22
                                  try clear c22b0
                                  try clear p23
                                  try clear q23
                                  try clear hx23
                                  try clear c25
                                  try clear p26
                                  try clear q26
                                  try clear hx26
                                  try clear c28
                                  try clear c29
                                  try clear c29b0
                                  try clear c29b1
                                  try clear c30
                                  try clear c30b0
                                  try clear c30b1
                                  try clear c31
                                  try clear c31b0
                                  try clear c31b1
                                  try clear c35
                                  try clear hcz20_0
                                  try clear hcz20_1
                                  try clear hcz20_2
                                  try clear hcz20_3
                                  try clear hcz34_0
                                  try clear hcz34_1
                                  try clear hcz34_2
                                  try clear hcz34_3
                                  try clear hcz36_0
                                  try clear hcz36_1
                                  try clear hcz36_2
                                  try clear hcz36_3
                                  try clear hfz20_0
                                  try clear hfz20_1
                                  try clear hfz20_2
                                  try clear hfz20_3
                                  try clear hfz34_0
                                  try clear hfz34_1
                                  try clear hfz34_2
                                  try clear hfz34_3
                                  try clear hfz36_0
                                  try clear hfz36_1
                                  try clear hfz36_2
                                  try clear hfz36_3
                                  try clear p1
                                  try clear p14
                                  try clear p2
                                  try clear p23
                                  try clear p26
                                  try clear p5
                                  try clear p6
                                  try clear q1
                                  try clear q14
                                  try clear q2
                                  try clear q23
                                  try clear q26
                                  try clear q5
                                  obtain ⟨kq, x122000_32, HA, HJ32, HO_5, BK121, HB⟩ := hcut
                                  cases kq with
                                  | zero => exact absurd HA.out (by simp [selvageref04_Tokens.j5])
                                  | succ kj32 =>
                                    have H := HA.out
                                    clear HA
                                    simp only [selvageref04_Tokens.j5] at H
                                    by_cases c37 : (wrap64 (x6_17 - x6_1)) > 16
                                    · rw [if_pos c37] at H
                                      have c37b0 : decide (16 < (wrap64 (x6_17 - x6_1))) = true := decide_eq_true c37
                                      clear c37
                                      simp only [Option.some.injEq, Prod.mk.injEq] at H
                                      obtain ⟨rfl, rfl, rfl⟩ := H
                                      go_wp2
                                      go_ret3
                                      exact ⟨_, by first | rfl | (simp [errW_none, errW_some] <;> rfl) | (simp [*, errW_none, errW_some] <;> rfl), by first | exact Kd.R_nil _ _ _ _ _ | exact Kd.N_nil _ _ _ _ _ | exact Kd.V_nil _ _ _ _ _ | exact Kd.Q_nil _ _ _ _ _ | exact Kd.S_nil _ _ _ _ _, by repeat (first | (with_reducible first | exact HB.out | apply below_alloc | apply pw_below_drewN | apply below_drew1 | refine below_set ?_ GE121.out) | exact HB.out)⟩
                                    · rw [if_neg c37] at H
                                      have c37b0 : decide (16 < (wrap64 (x6_17 - x6_1))) = false := decide_eq_false c37
                                      clear c37
                                      by_cases c38 : (x5_1.length : Int) ≥ 1500
                                      · rw [if_pos c38] at H
                                        have c38b0 : decide (1500 ≤ (x5_1.length : Int)) = true := decide_eq_true c38
                                        have c38b1 : decide (1500 ≤ x5_1.length) = true := decide_eq_true (by omega)
                                        clear c38
                                        simp only [Option.some.injEq, Prod.mk.injEq] at H
                                        obtain ⟨rfl, rfl, rfl⟩ := H
                                        obtain ⟨Ao39, co39, eo39⟩ := Kd.R_slice HO_5.out
                                        subst eo39
                                        go_wp2
                                        go_ret3
                                        exact ⟨_, by first | rfl | (simp [errW_none, errW_some] <;> rfl) | (simp [*, errW_none, errW_some] <;> rfl), by first | exact Kd.R_nil _ _ _ _ _ | exact Kd.N_nil _ _ _ _ _ | exact Kd.V_nil _ _ _ _ _ | exact Kd.Q_nil _ _ _ _ _ | exact Kd.S_nil _ _ _ _ _, by repeat (first | (with_reducible first | exact HB.out | apply below_alloc | apply pw_below_drewN | apply below_drew1 | refine below_set ?_ GE121.out) | exact HB.out)⟩
                                      · rw [if_neg c38] at H
                                        have c38b0 : decide (1500 ≤ (x5_1.length : Int)) = false := decide_eq_false c38
                                        have c38b1 : decide (1500 ≤ x5_1.length) = false := decide_eq_false (by omega)
                                        clear c38
                                        by_cases c40 : 0 ≤ x6_1
                                        · rw [if_pos c40] at H
                                          have c40b0 := eq_true c40
                                          have c40b1 : decide (0 ≤ x6_1) = true := decide_eq_true c40
                                          clear c40
                                          by_cases c41 : x6_1 ≤ x6_17
                                          · rw [if_pos c41] at H
                                            have c41b0 := eq_true c41
                                            have c41b1 : decide (x6_1 ≤ x6_17) = true := decide_eq_true c41
                                            clear c41
                                            by_cases c42 : x6_17 ≤ (a0.size : Int)
                                            · rw [if_pos c42] at H
                                              have c42b0 := eq_true c42
                                              have c42b1 : decide (x6_17 ≤ (a0.size : Int)) = true := decide_eq_true c42
                                              clear c42
                                              by_cases c43 : x5_1.length < 3518437208883
                                              · rw [if_pos c43] at H
                                                have LMc43 := Aside0.mk c43
                                                clear c43
                                                obtain ⟨y126, hy126⟩ : ∃ y_ : List (S32), y_ = (x5_1 ++ [(⟨x122000_32, a0.extract (x6_1 : Int).toNat (x6_17 : Int).toNat, 0, x6_1⟩ : S32)]) := ⟨_, rfl⟩
                                                replace H : (selvageref04_Tokens.l0 kj32 a0 y126 x6_17) = some (r1, r2, r3) := by first | (rw [hy126]; with_reducible exact H) | (have H2_ := (Option.bind_some _ _).symm.trans H; rw [hy126]; with_reducible exact H2_) | (have H2_ := (Option.bind_some _ _).symm.trans H; with_reducible exact H2_) | with_reducible exact H | (rw [hy126]; exact H) | exact H
                                                have Ny126 := Aside0.mk hy126
                                                clear hy126
                                                have H' := Aside0.mk H
                                                clear H
                                                obtain ⟨Ao44, co44, eo44⟩ := Kd.R_slice HO_5.out
                                                subst eo44
                                                have hcz45_0 : wc.cell? ⟨gb121, 0, none⟩ = some (.int .i64 x122000_32) := (blk_cell BK121.out 0).trans rfl
                                                have hcz45_1 : wc.cell? ⟨gb121, 1, none⟩ = some (.string (⟨#[]⟩ : ByteArray)) := (blk_cell BK121.out 1).trans rfl
                                                have hcz45_2 : wc.cell? ⟨gb121, 2, none⟩ = some (.int .i64 0) := (blk_cell BK121.out 2).trans rfl
                                                have hcz45_3 : wc.cell? ⟨gb121, 3, none⟩ = some (.int .i64 x6_1) := (blk_cell BK121.out 3).trans rfl
                                                have hfz45_0 := blk_frozen BK121.out 0
                                                have hfz45_1 := blk_frozen BK121.out 1
                                                have hfz45_2 := blk_frozen BK121.out 2
                                                have hfz45_3 := blk_frozen BK121.out 3
                                                go_wp2_with (first | ((with_reducible refine gate_builtin (b := .append) (xs := #[.tmp 176, .tmp 178]) rfl ?_); (try (refine gate_guard (by rfl) ?_; dsimp only)); at_builtin; refine Kd.R_append k32 (w0 := w) w.heap.size rfl (.tmp 176) (.tmp 178) 23 32 (.agg #[(.int .i64 0), (.string ⟨#[]⟩), (.int .i64 0), (.int .i64 0)]) 40 rfl Try.underlying23 info32 rfl (by decide) (by omega) (.slice Ao44 x5_1.length co44) x5_1 (⟨x122000_32, a0.extract (x6_1 : Int).toNat (x6_17 : Int).toNat, 0, x6_1⟩ : S32) [.int .i64 x122000_32, .string (a0.extract (x6_1 : Int).toNat (x6_17 : Int).toNat), .int .i64 0, .int .i64 x6_1] (fun k_ => k_ ≠ gb121) (fun _ => False) rfl (by first | (go_simp; done) | (go_simp; rfl)) ?aP (fun _ hk => hk.elim) ?aF ?aO ?aB ?aS ?aL ?_; (case aP => exact k32_mkM _ _ _ (⟨x122000_32, a0.extract (x6_1 : Int).toNat (x6_17 : Int).toNat, 0, x6_1⟩ : S32)); (case aB => exact (by repeat (first | (with_reducible first | exact HB.out | apply below_alloc | apply pw_below_drewN | apply below_drew1 | refine below_set ?_ GE121.out) | exact HB.out))); (case aF => exact (fun k_ hk => Kd.freshB (g := gb121) (o := .cells #[.int .i64 x122000_32, .string (a0.extract (x6_1 : Int).toNat (x6_17 : Int).toNat), .int .i64 0, .int .i64 x6_1] 32 (0, 0)) (by (with_reducible repeat (first | refine blk_drewN ?_ _ | refine blk_drew ?_ | refine blk_alloc ?_ _)); refine blk_put (cs := #[.int .i64 x122000_32, .string (⟨#[]⟩ : ByteArray), .int .i64 0, .int .i64 x6_1]) ?_ 1 _ rfl; (with_reducible repeat (first | refine blk_drewN ?_ _ | refine blk_drew ?_ | refine blk_alloc ?_ _)); exact BK121.out) k_ hk)); (case aO => exact (by (with_reducible repeat (first | apply Kd.R_alloc | apply Kd.R_drewN | apply Kd.R_drew)); exact Kd.R_mono (Kd.R_far (p := ⟨gb121, 1, none⟩) (Kd.R_mono HO_5.out (fun k_ hk => (⟨hk, hk⟩ : _ ∧ k_ ≠ gb121))) (fun _ hk => hk.2) (.string (a0.extract (x6_1 : Int).toNat (x6_17 : Int).toNat))) (fun _ hk => hk.1))); (case aS => exact (below_size (by repeat (first | (with_reducible first | exact HB.out | apply below_alloc | apply pw_below_drewN | apply below_drew1 | refine below_set ?_ GE121.out) | exact HB.out)))); (case aL => have := LMc43.out; omega); intro v127 w46 ho hb hg hat; rw [← Ny126.out] at ho; have n0_ := Aside0.mk (blk_grown (g := gb121) (o := .cells #[.int .i64 x122000_32, .string (a0.extract (x6_1 : Int).toNat (x6_17 : Int).toNat), .int .i64 0, .int .i64 x6_1] 32 (0, 0)) (by (with_reducible repeat (first | refine blk_drewN ?_ _ | refine blk_drew ?_ | refine blk_alloc ?_ _)); refine blk_put (cs := #[.int .i64 x122000_32, .string (⟨#[]⟩ : ByteArray), .int .i64 0, .int .i64 x6_1]) ?_ 1 _ rfl; (with_reducible repeat (first | refine blk_drewN ?_ _ | refine blk_drew ?_ | refine blk_alloc ?_ _)); exact BK121.out) hg (Kd.R_away HO_5.out (fun _ hk => hk))); have n1_ := Aside0.mk (hb); have n2_ := Aside0.mk (ho); clear BK121; clear HB; clear HO_5; have BK121 := n0_; have HB := n1_; have HO128 := n2_; clear n0_ n1_ n2_; clear ho hb hg hat))
                                                go_roundg kj32
                                                case measure => have := HK1.out; have := HJ5.out; have := HJ17.out; have := HJ32.out; omega
                                                case rel => exact ⟨(y126), (x6_17), (by first | rfl | (simp; done) | (simp [*]; done)), H', ⟨by have := HK1.out; have := HJ5.out; have := HJ17.out; have := HJ32.out; omega⟩, ⟨by (with_reducible repeat (first | apply Kd.R_alloc | apply Kd.R_drewN | apply Kd.R_drew)); exact Kd.R_mono HO128.out (fun _ hk => trivial)⟩, ⟨by repeat (first | (with_reducible first | exact HB.out | apply below_alloc | apply pw_below_drewN | apply below_drew1 | refine below_set ?_ GE121.out) | exact HB.out)⟩⟩
                                              · rw [if_neg c43] at H
                                                exact absurd H (by simp)
                                            · rw [if_neg c42] at H
                                              exact absurd H (by simp)
                                          · rw [if_neg c41] at H
                                            exact absurd H (by simp)
                                        · rw [if_neg c40] at H
                                          exact absurd H (by simp)
                              · rw [if_neg c31] at H
                                exact absurd H (by simp)
                            · rw [if_neg c30] at H
                              exact absurd H (by simp)
                          · rw [if_neg c29] at H
                            exact absurd H (by simp)
                    · replace c17 := Bool.eq_false_iff.mpr c17
                      subst c17
                      have H1 : ((selvageref04_Digit.f (bt a0 x6_1)).bind fun t129 => (if t129 = true then (selvageref04_Tokens.l3 kj5 a0 x5_1 x6_1 (bt a0 x6_1) x6_1 3 (⟨#[]⟩ : ByteArray) 0 x6_1) else (if (wrap64 (x6_1 + 1)) < (a0.size : Int) then (if 0 ≤ (wrap64 (x6_1 + 1)) then ((selvageref04_double.f (bt a0 x6_1) (bt a0 (wrap64 (x6_1 + 1)))).bind fun t136 => (selvageref04_Tokens.j9 kj5 a0 x5_1 x6_1 (bt a0 x6_1) x6_1 t136 0 (⟨#[]⟩ : ByteArray) 0 x6_1)) else (none)) else (selvageref04_Tokens.j9 kj5 a0 x5_1 x6_1 (bt a0 x6_1) x6_1 false 0 (⟨#[]⟩ : ByteArray) 0 x6_1)))) = some (r1, r2, r3) := by rw [if_neg (show ¬ (false = true) by decide)] at H; exact H
                      clear H
                      have H := H1
                      clear H1
                      replace H := Option.bind_eq_some_iff.mp H
                      obtain ⟨t129, A470, H⟩ := H
                      replace H : (if t129 = true then (selvageref04_Tokens.l3 kj5 a0 x5_1 x6_1 (bt a0 x6_1) x6_1 3 (⟨#[]⟩ : ByteArray) 0 x6_1) else (if (wrap64 (x6_1 + 1)) < (a0.size : Int) then (if 0 ≤ (wrap64 (x6_1 + 1)) then ((selvageref04_double.f (bt a0 x6_1) (bt a0 (wrap64 (x6_1 + 1)))).bind fun t136 => (selvageref04_Tokens.j9 kj5 a0 x5_1 x6_1 (bt a0 x6_1) x6_1 t136 0 (⟨#[]⟩ : ByteArray) 0 x6_1)) else (none)) else (selvageref04_Tokens.j9 kj5 a0 x5_1 x6_1 (bt a0 x6_1) x6_1 false 0 (⟨#[]⟩ : ByteArray) 0 x6_1))) = some (r1, r2, r3) := H
                      have A47 := Aside0.mk A470
                      clear A470
                      by_cases c48 : t129 = true
                      · as_aux_lemma =>
                        subst c48
                        have H1 : (selvageref04_Tokens.l3 kj5 a0 x5_1 x6_1 (bt a0 x6_1) x6_1 3 (⟨#[]⟩ : ByteArray) 0 x6_1) = some (r1, r2, r3) := by rw [if_pos rfl] at H; exact H
                        clear H
                        have H := H1
                        clear H1
                        have H' := Aside0.mk H
                        clear H
                        go_wp2_with (first | ((with_reducible refine gate_dst (N := 9) rfl ?_); (try (refine gate_guard (by rfl) ?_; dsimp only)); refine box_event ?hg (N := 9) ?hd (cs := #[.int .i64 0, .string (⟨#[]⟩ : ByteArray), .int .i64 0, .int .i64 0]) (t := 32) ?hr ?_; (case hd => rfl); (case hg => rfl); (case hr => first | (go_simp; done) | (go_simp; rfl)); intro gb121 hg w49 hbox hb; have n0_ := Aside0.mk (Kd.R_below (Kd.R_elderB (by (with_reducible repeat (first | apply Kd.R_alloc | apply Kd.R_drewN | apply Kd.R_drew)); exact HO_5.out) gb121 (Nat.le_of_eq hg.symm)) hb); have n1_ := Aside0.mk (below_step (by repeat (first | (with_reducible first | exact HB.out | apply below_alloc | apply pw_below_drewN | apply below_drew1) | exact HB.out)) hb); have n2_ := Aside0.mk (hbox); have n3_ := Aside0.mk ((by rw [hg]; exact (below_size (by repeat (first | (with_reducible first | exact HB.out | apply below_alloc | apply pw_below_drewN | apply below_drew1) | exact HB.out))) : w.heap.size ≤ gb121)); have n4_ := Aside0.mk ((by rw [hg]; exact (below_size (by repeat (first | (with_reducible first | exact HB.out | apply below_alloc | apply pw_below_drewN | apply below_drew1) | exact HB.out))) : w.heap.size ≤ gb121)); clear HO_5; clear HB; have HO_5 := n0_; have HB := n1_; have BK121 := n2_; have GW121 := n3_; have GE121 := n4_; clear n0_ n1_ n2_ n3_ n4_; clear hb hbox hg; have hcz50_0 : w49.cell? ⟨gb121, 0, none⟩ = some (.int .i64 0) := (blk_cell BK121.out 0).trans rfl; have hcz50_1 : w49.cell? ⟨gb121, 1, none⟩ = some (.string (⟨#[]⟩ : ByteArray)) := (blk_cell BK121.out 1).trans rfl; have hcz50_2 : w49.cell? ⟨gb121, 2, none⟩ = some (.int .i64 0) := (blk_cell BK121.out 2).trans rfl; have hcz50_3 : w49.cell? ⟨gb121, 3, none⟩ = some (.int .i64 0) := (blk_cell BK121.out 3).trans rfl; have hfz50_0 := blk_frozen BK121.out 0; have hfz50_1 := blk_frozen BK121.out 1; have hfz50_2 := blk_frozen BK121.out 2; have hfz50_3 := blk_frozen BK121.out 3) | ((with_reducible refine gate_callee (f := 17) rfl ?_); refine goesL_ (some 56) rfl rfl Try.func17 (by kernel_rfl) rfl #[.int .u8 (bt a0 x6_1)] rfl (by (try simp only [List.map_toArray, List.map_cons, List.map_nil]); first | done | rfl | (simp only [List.length_drop, List.length_take]; rfl)) ?_; (with_reducible refine (selvageref04_Small.calls (bt a0 x6_1) false _ A16.out).mono ?_); rintro e w' ⟨rfl, ⟨nd, rfl⟩⟩; refine ⟨_, rfl, ?_⟩) | ((with_reducible refine gate_callee (f := 18) rfl ?_); refine goesL_ (some 89) rfl rfl Try.func18 (by kernel_rfl) rfl #[.int .u8 (bt a0 x6_1)] rfl (by (try simp only [List.map_toArray, List.map_cons, List.map_nil]); first | done | rfl | (simp only [List.length_drop, List.length_take]; rfl)) ?_; (with_reducible refine (selvageref04_Digit.calls (bt a0 x6_1) true _ A47.out).mono ?_); rintro e w' ⟨rfl, ⟨nd, rfl⟩⟩; refine ⟨_, rfl, ?_⟩))
                        go_loopg [6] kj5 (fun kq v6 w' => ∃ (x6_3 : Int) (x122002_3 : Int), v6 = .int .i64 x6_3 ∧ Aside0 (selvageref04_Tokens.l3 kq a0 x5_1 x6_3 (bt a0 x6_1) x6_1 3 (⟨#[]⟩ : ByteArray) x122002_3 x6_1 = some (r1, r2, r3)) ∧ Aside0 (kq ≤ kj5) ∧ Aside0 (Kd.R k32 32 w' w.heap.size (fun k_ => k_ ≠ gb121) u5 x5_1) ∧ Aside0 (w'.heap[gb121]? = some (.cells #[.int .i64 3, .string (⟨#[]⟩ : ByteArray), .int .i64 x122002_3, .int .i64 x6_1] 32 (0, 0))) ∧ Aside0 (Below w.heap.size w w'))
                        case atStart => exact ⟨(x6_1), (0), (by first | rfl | (simp; done) | (simp [*]; done)), H', ⟨Nat.le_refl _⟩, ⟨by (with_reducible repeat (first | apply Kd.R_alloc | apply Kd.R_drewN | apply Kd.R_drew)); exact Kd.R_mono (Kd.R_far (p := ⟨gb121, 0, none⟩) (Kd.R_far (p := ⟨gb121, 3, none⟩) (Kd.R_far (p := ⟨gb121, 2, none⟩) (Kd.R_far (p := ⟨gb121, 1, none⟩) (Kd.R_far (p := ⟨gb121, 0, none⟩) (Kd.R_mono HO_5.out (fun k_ hk => (⟨hk, hk.2⟩ : _ ∧ k_ ≠ gb121))) (fun _ hk => hk.2) (.int .i64 0)) (fun _ hk => hk.2) (.string (⟨#[]⟩ : ByteArray))) (fun _ hk => hk.2) (.int .i64 0)) (fun _ hk => hk.2) (.int .i64 x6_1)) (fun _ hk => hk.2) (.int .i64 3)) (fun _ hk => hk.1.2)⟩, ⟨by (with_reducible repeat (first | refine blk_drewN ?_ _ | refine blk_drew ?_ | refine blk_alloc ?_ _)); refine blk_put (cs := #[.int .i64 0, .string (⟨#[]⟩ : ByteArray), .int .i64 0, .int .i64 x6_1]) ?_ 0 _ rfl; (with_reducible repeat (first | refine blk_drewN ?_ _ | refine blk_drew ?_ | refine blk_alloc ?_ _)); refine blk_put (cs := #[.int .i64 0, .string (⟨#[]⟩ : ByteArray), .int .i64 0, .int .i64 0]) ?_ 3 _ rfl; (with_reducible repeat (first | refine blk_drewN ?_ _ | refine blk_drew ?_ | refine blk_alloc ?_ _)); refine blk_put (cs := #[.int .i64 0, .string (⟨#[]⟩ : ByteArray), .int .i64 0, .int .i64 0]) ?_ 2 _ rfl; (with_reducible repeat (first | refine blk_drewN ?_ _ | refine blk_drew ?_ | refine blk_alloc ?_ _)); refine blk_put (cs := #[.int .i64 0, .string (⟨#[]⟩ : ByteArray), .int .i64 0, .int .i64 0]) ?_ 1 _ rfl; (with_reducible repeat (first | refine blk_drewN ?_ _ | refine blk_drew ?_ | refine blk_alloc ?_ _)); refine blk_put (cs := #[.int .i64 0, .string (⟨#[]⟩ : ByteArray), .int .i64 0, .int .i64 0]) ?_ 0 _ rfl; (with_reducible repeat (first | refine blk_drewN ?_ _ | refine blk_drew ?_ | refine blk_alloc ?_ _)); exact BK121.out⟩, ⟨by repeat (first | (with_reducible first | exact HB.out | apply below_alloc | apply pw_below_drewN | apply below_drew1 | refine below_set ?_ GE121.out) | exact HB.out)⟩⟩
                        case round =>
                          clear H'
                          try clear c1
                          try clear p1
                          try clear q1
                          try clear hx1
                          try clear c2
                          try clear c2b0
                          try clear c2b1
                          try clear p2
                          try clear q2
                          try clear hx2
                          try clear c3
                          try clear c3b0
                          try clear c4
                          try clear c4b0
                          try clear p5
                          try clear q5
                          try clear hx5
                          try clear p6
                          try clear c7
                          try clear c7b0
                          try clear c7b1
                          try clear c8
                          try clear c8b0
                          try clear c8b1
                          try clear c9
                          try clear c9b0
                          try clear c9b1
                          try clear c10
                          try clear c11
                          try clear c11b0
                          try clear c11b1
                          try clear c12
                          try clear c12b0
                          try clear c13
                          try clear c13b0
                          try clear p14
                          try clear q14
                          try clear hx14
                          try clear c15
                          try clear c15b0
                          try clear c15b1
                          try clear c17
                          try clear c18
                          try clear c19
                          try clear c21
                          try clear c21b0
                          try clear c22
                          try clear c22b0
                          try clear p23
                          try clear q23
                          try clear hx23
                          try clear c25
                          try clear p26
                          try clear q26
                          try clear hx26
                          try clear c28
                          try clear c29
                          try clear c29b0
                          try clear c29b1
                          try clear c30
                          try clear c30b0
                          try clear c30b1
                          try clear c31
                          try clear c31b0
                          try clear c31b1
                          try clear c35
                          try clear c37
                          try clear c37b0
                          try clear c38
                          try clear c38b0
                          try clear c38b1
                          try clear c40
                          try clear c40b0
                          try clear c40b1
                          try clear c41
                          try clear c41b0
                          try clear c41b1
                          try clear c42
                          try clear c42b0
                          try clear c42b1
                          try clear c43
                          try clear c48
                          try clear hcz20_0
                          try clear hcz20_1
                          try clear hcz20_2
                          try clear hcz20_3
                          try clear hcz34_0
                          try clear hcz34_1
                          try clear hcz34_2
                          try clear hcz34_3
                          try clear hcz36_0
                          try clear hcz36_1
                          try clear hcz36_2
                          try clear hcz36_3
                          try clear hcz45_0
                          try clear hcz45_1
                          try clear hcz45_2
                          try clear hcz45_3
                          try clear hcz50_0
                          try clear hcz50_1
                          try clear hcz50_2
                          try clear hcz50_3
                          try clear hfz20_0
                          try clear hfz20_1
                          try clear hfz20_2
                          try clear hfz20_3
                          try clear hfz34_0
                          try clear hfz34_1
                          try clear hfz34_2
                          try clear hfz34_3
                          try clear hfz36_0
                          try clear hfz36_1
                          try clear hfz36_2
                          try clear hfz36_3
                          try clear hfz45_0
                          try clear hfz45_1
                          try clear hfz45_2
                          try clear hfz45_3
                          try clear hfz50_0
                          try clear hfz50_1
                          try clear hfz50_2
                          try clear hfz50_3
                          try clear p1
                          try clear p14
                          try clear p2
                          try clear p23
                          try clear p26
                          try clear p5
                          try clear p6
                          try clear q1
                          try clear q14
                          try clear q2
                          try clear q23
                          try clear q26
                          try clear q5
                          obtain ⟨x6_3, x122002_3, rfl, HA, HK3, HO_5, BK121, HB⟩ := hrel
                          cases gk with
                          | zero => exact absurd HA.out (by simp [selvageref04_Tokens.l3])
                          | succ k3 =>
                            have H := HA.out
                            clear HA
                            simp only [selvageref04_Tokens.l3] at H
                            have HC51 := Aside0.mk H
                            clear H
                            go_upto_region 25 with (fail)
                            go_cut [100] (fun v100 wc => ∃ (kq : Nat) (x100_50 : Bool), v100 = .bool x100_50 ∧ Aside0 (selvageref04_Tokens.j7 kq a0 x5_1 x6_3 (bt a0 x6_1) x6_1 x100_50 3 (⟨#[]⟩ : ByteArray) x122002_3 x6_1 = some (r1, r2, r3)) ∧ Aside0 (kq ≤ k3) ∧ Aside0 (Kd.R k32 32 wc w.heap.size (fun k_ => k_ ≠ gb121) u5 x5_1) ∧ Aside0 (wc.heap[gb121]? = some (.cells #[.int .i64 3, .string (⟨#[]⟩ : ByteArray), .int .i64 x122002_3, .int .i64 x6_1] 32 (0, 0))) ∧ Aside0 (Below w.heap.size w wc))
                            case first =>
                              have H := HC51.out
                              clear HC51
                              by_cases c52 : x6_3 < (a0.size : Int)
                              · rw [if_pos c52] at H
                                have c52b0 : decide (x6_3 < (a0.size : Int)) = true := decide_eq_true c52
                                clear c52
                                (first | rw [c52b0] | (simp only [i64_w, i32_w]; rw [c52b0]) | skip)
                                by_cases c53 : 0 ≤ x6_3
                                · rw [if_pos c53] at H
                                  have c53b0 : decide (0 ≤ x6_3) = true := decide_eq_true c53
                                  clear c53
                                  replace H := Option.bind_eq_some_iff.mp H
                                  obtain ⟨t130, A550, H⟩ := H
                                  replace H : (selvageref04_Tokens.j7 k3 a0 x5_1 x6_3 (bt a0 x6_1) x6_1 t130 3 (⟨#[]⟩ : ByteArray) x122002_3 x6_1) = some (r1, r2, r3) := H
                                  have A55 := Aside0.mk A550
                                  clear A550
                                  have H' := Aside0.mk H
                                  clear H
                                  have p54 : 0 ≤ (x6_3 : Int) := of_decide_eq_true (by first | (with_reducible assumption) | assumption)
                                  have q54 : x6_3 < (a0.size : Int) := of_decide_eq_true (by first | (with_reducible assumption) | assumption)
                                  have hx54 := bt_at a0 x6_3
                                  replace p54 := eq_true p54
                                  replace q54 := eq_true q54
                                  go_wp2_with (first | (go_at_call 18; (with_reducible refine (selvageref04_Digit.calls (bt a0 x6_3) t130 _ A55.out).mono ?_); rintro e w' ⟨rfl, ⟨nd, rfl⟩⟩))
                                  go_meet
                                  case rel => exact ⟨_, (t130), (by first | rfl | (simp; done) | (simp [*]; done)), H', ⟨by have := HK1.out; have := HJ5.out; have := HK3.out; first | omega | exact Nat.le_refl _⟩, ⟨by (with_reducible repeat (first | apply Kd.R_alloc | apply Kd.R_drewN | apply Kd.R_drew)); exact HO_5.out⟩, ⟨by (with_reducible repeat (first | refine blk_drewN ?_ _ | refine blk_drew ?_ | refine blk_alloc ?_ _)); exact BK121.out⟩, ⟨by repeat (first | (with_reducible first | exact HB.out | apply below_alloc | apply pw_below_drewN | apply below_drew1 | refine below_set ?_ GE121.out) | exact HB.out)⟩⟩
                                · rw [if_neg c53] at H
                                  exact absurd H (by simp)
                              · rw [if_neg c52] at H
                                have c52b0 : decide (x6_3 < (a0.size : Int)) = false := decide_eq_false c52
                                clear c52
                                (first | rw [c52b0] | (simp only [i64_w, i32_w]; rw [c52b0]) | skip)
                                have H' := Aside0.mk H
                                clear H
                                go_wp2
                                go_meet
                                case rel => exact ⟨_, (false), (by first | rfl | (simp; done) | (simp [*]; done)), H', ⟨by have := HK1.out; have := HJ5.out; have := HK3.out; first | omega | exact Nat.le_refl _⟩, ⟨by (with_reducible repeat (first | apply Kd.R_alloc | apply Kd.R_drewN | apply Kd.R_drew)); exact HO_5.out⟩, ⟨by (with_reducible repeat (first | refine blk_drewN ?_ _ | refine blk_drew ?_ | refine blk_alloc ?_ _)); exact BK121.out⟩, ⟨by repeat (first | (with_reducible first | exact HB.out | apply below_alloc | apply pw_below_drewN | apply below_drew1 | refine below_set ?_ GE121.out) | exact HB.out)⟩⟩
                            case rest =>
                              clear HC51
                              try clear c1
                              try clear p1
                              try clear q1
                              try clear hx1
                              try clear c2
                              try clear c2b0
                              try clear c2b1
                              try clear p2
                              try clear q2
                              try clear hx2
                              try clear c3
                              try clear c3b0
                              try clear c4
                              try clear c4b0
                              try clear c5
                              try clear p5
                              try clear q5
                              try clear hx5
                              try clear p6
                              try clear c7
                              try clear c7b0
                              try clear c7b1
                              try clear c8
                              try clear c8b0
                              try clear c8b1
                              try clear c9
                              try clear c9b0
                              try clear c9b1
                              try clear c10
                              try clear c11
                              try clear c11b0
                              try clear c11b1
                              try clear c12
                              try clear c12b0
                              try clear c13
                              try clear c13b0
                              try clear p14
                              try clear q14
                              try clear hx14
                              try clear c15
                              try clear c15b0
                              try clear c15b1
                              try clear c17
                              try clear c18
                              try clear c19
                              try clear c21
                              try clear c21b0
                              try clear c22
                              try clear c22b0
                              try clear p23
                              try clear q23
                              try clear hx23
                              try clear c25
                              try clear p26
                              try clear q26
                              try clear hx26
                              try clear c28
                              try clear c29
                              try clear c29b0
                              try clear c29b1
                              try clear c30
                              try clear c30b0
                              try clear c30b1
                              try clear c31
                              try clear c31b0
                              try clear c31b1
                              try clear c35
                              try clear c37
                              try clear c37b0
                              try clear c38
                              try clear c38b0
                              try clear c38b1
                              try clear c40
                              try clear c40b0
                              try clear c40b1
                              try clear c41
                              try clear c41b0
                              try clear c41b1
                              try clear c42
                              try clear c42b0
                              try clear c42b1
                              try clear c43
                              try clear c48
                              try clear c52
                              try clear c52b0
                              try clear c53
                              try clear c53b0
                              try clear p54
                              try clear q54
                              try clear hx54
                              try clear hcz20_0
                              try clear hcz20_1
                              try clear hcz20_2
                              try clear hcz20_3
                              try clear hcz34_0
                              try clear hcz34_1
                              try clear hcz34_2
                              try clear hcz34_3
                              try clear hcz36_0
                              try clear hcz36_1
                              try clear hcz36_2
                              try clear hcz36_3
                              try clear hcz45_0
                              try clear hcz45_1
                              try clear hcz45_2
                              try clear hcz45_3
                              try clear hcz50_0
                              try clear hcz50_1
                              try clear hcz50_2
                              try clear hcz50_3
                              try clear hfz20_0
                              try clear hfz20_1
                              try clear hfz20_2
                              try clear hfz20_3
                              try clear hfz34_0
                              try clear hfz34_1
                              try clear hfz34_2
                              try clear hfz34_3
                              try clear hfz36_0
                              try clear hfz36_1
                              try clear hfz36_2
                              try clear hfz36_3
                              try clear hfz45_0
                              try clear hfz45_1
                              try clear hfz45_2
                              try clear hfz45_3
                              try clear hfz50_0
                              try clear hfz50_1
                              try clear hfz50_2
                              try clear hfz50_3
                              try clear p1
                              try clear p14
                              try clear p2
                              try clear p23
                              try clear p26
                              try clear p5
                              try clear p54
                              try clear p6
                              try clear q1
                              try clear q14
                              try clear q2
                              try clear q23
                              try clear q26
                              try clear q5
                              try clear q54
                              obtain ⟨kq, x100_50, rfl, HA, HJ50, HO_5, BK121, HB⟩ := hcut
                              cases kq with
                              | zero => exact absurd HA.out (by simp [selvageref04_Tokens.j7])
                              | succ kj50 =>
                                have H := HA.out
                                clear HA
                                simp only [selvageref04_Tokens.j7] at H
                                by_cases c56 : x100_50 = true
                                · subst c56
                                  have H1 : (if (wrap64 (x6_3 - x6_1)) < 9 then (if 0 ≤ x6_3 then (if x6_3 < (a0.size : Int) then (selvageref04_Tokens.l3 kj50 a0 x5_1 (wrap64 (x6_3 + 1)) (bt a0 x6_1) x6_1 3 (⟨#[]⟩ : ByteArray) (wrap64 ((wrap64 ((wrap64 (10 * x122002_3)) + (wrap64 (bt a0 x6_3)))) - 48)) x6_1) else (none)) else (none)) else (selvageref04_Tokens.l3 kj50 a0 x5_1 (wrap64 (x6_3 + 1)) (bt a0 x6_1) x6_1 3 (⟨#[]⟩ : ByteArray) x122002_3 x6_1)) = some (r1, r2, r3) := by rw [if_pos rfl] at H; exact H
                                  clear H
                                  have H := H1
                                  clear H1
                                  by_cases c57 : (wrap64 (x6_3 - x6_1)) < 9
                                  · rw [if_pos c57] at H
                                    have c57b0 : decide ((wrap64 (x6_3 - x6_1)) < 9) = true := decide_eq_true c57
                                    clear c57
                                    by_cases c58 : 0 ≤ x6_3
                                    · rw [if_pos c58] at H
                                      have c58b0 : decide (0 ≤ x6_3) = true := decide_eq_true c58
                                      clear c58
                                      by_cases c59 : x6_3 < (a0.size : Int)
                                      · rw [if_pos c59] at H
                                        have c59b0 : decide (x6_3 < (a0.size : Int)) = true := decide_eq_true c59
                                        clear c59
                                        have H' := Aside0.mk H
                                        clear H
                                        try go_wp2
                                        have n0_ := Aside0.mk (Kd.R_drew HO_5.out)
                                        have n1_ := Aside0.mk (blk_drew BK121.out)
                                        have n2_ := Aside0.mk (below_drew1 HB.out)
                                        clear HO_5
                                        clear BK121
                                        clear HB
                                        have HO_5 := n0_
                                        have BK121 := n1_
                                        have HB := n2_
                                        clear n0_ n1_ n2_
                                        have p60 : 0 ≤ (x6_3 : Int) := of_decide_eq_true (by first | (with_reducible assumption) | assumption)
                                        have q60 : x6_3 < (a0.size : Int) := of_decide_eq_true (by first | (with_reducible assumption) | assumption)
                                        have hx60 := bt_at a0 x6_3
                                        replace p60 := eq_true p60
                                        replace q60 := eq_true q60
                                        refine start_ (n := 11) (S := fun w' => w'.cell? ⟨gb121, 0, none⟩ = some (.int .i64 3) ∧ w'.cell? ⟨gb121, 1, none⟩ = some (.string (⟨#[]⟩ : ByteArray)) ∧ w'.cell? ⟨gb121, 2, none⟩ = some (.int .i64 x122002_3) ∧ w'.cell? ⟨gb121, 3, none⟩ = some (.int .i64 x6_1)) (ds := [10]) #[false, false, false, false, false, false, false, false, false, false, false] (by kernel_rfl) rfl rfl ⟨(blk_cell BK121.out 0).trans rfl, (blk_cell BK121.out 1).trans rfl, (blk_cell BK121.out 2).trans rfl, (blk_cell BK121.out 3).trans rfl⟩ (fun hHeld => ?_); refine with_tabW selvageref04_Tokens.tab27 selvageref04_Tokens.bits27 (fun HT_ HW_ => ?_)
                                        generalize wc.drew = w61 at HO_5 BK121 HB hHeld ⊢
                                        refine pure_ (i := 0) (N := some 105) (v := ?_) (a' := ?_) #[true, false, false, false, false, false, false, false, false, false, false] rfl rfl (any_of HT_.out (by kernel_rfl)) (fun _ _ _ h => h) (Or.inl ⟨by rfl, ?_⟩) ?_ ?_
                                        rotate_left
                                        · intro w'
                                          go_simp
                                          with_reducible rfl
                                        rotate_left
                                        · simp only [Act.put, List.setIfInBounds_toArray, List.set_cons_zero, List.set_cons_succ, i64_w, i32_w]
                                          rfl
                                        refine pure_ (i := 3) (N := some 108) (v := ?_) (a' := ?_) #[true, false, false, true, false, false, false, false, false, false, false] rfl rfl (any_of HT_.out (by kernel_rfl)) (fun _ _ _ h => h) (Or.inl ⟨by rfl, ?_⟩) ?_ ?_
                                        rotate_left
                                        · intro w'
                                          go_simp
                                          with_reducible rfl
                                        rotate_left
                                        · simp only [Act.put, List.setIfInBounds_toArray, List.set_cons_zero, List.set_cons_succ, i64_w, i32_w]
                                          rfl
                                        refine pure_ (i := 4) (N := some 109) (v := ?_) (a' := ?_) #[true, false, false, true, true, false, false, false, false, false, false] rfl rfl (any_of HT_.out (by kernel_rfl)) (fun _ _ _ h => h) (Or.inl ⟨by rfl, ?_⟩) ?_ ?_
                                        rotate_left
                                        · intro w'
                                          go_simp
                                          with_reducible rfl
                                        rotate_left
                                        · simp only [Act.put, List.setIfInBounds_toArray, List.set_cons_zero, List.set_cons_succ, i64_w, i32_w]
                                          rfl
                                        refine take_ (i := 1) (N := some 106) (v := ?_) (a' := ?_) #[true, true, false, true, true, false, false, false, false, false, false] rfl rfl (take_ofW HT_.out HW_.out (by kernel_rfl)) (fun _ _ _ h => h) (Or.inl ⟨by rfl, ?_⟩) hHeld ?_ ?_
                                        rotate_left
                                        · rintro w' ⟨s0, s1, s2, s3⟩
                                          go_simp
                                          with_reducible rfl
                                        rotate_left
                                        · simp only [Act.put, List.setIfInBounds_toArray, List.set_cons_zero, List.set_cons_succ, i64_w, i32_w]
                                          rfl
                                        refine pure_ (i := 2) (N := some 107) (v := ?_) (a' := ?_) #[true, true, true, true, true, false, false, false, false, false, false] rfl rfl (any_of HT_.out (by kernel_rfl)) (fun _ _ _ h => h) (Or.inl ⟨by rfl, ?_⟩) ?_ ?_
                                        rotate_left
                                        · intro w'
                                          go_simp
                                          with_reducible rfl
                                        rotate_left
                                        · simp only [Act.put, List.setIfInBounds_toArray, List.set_cons_zero, List.set_cons_succ, i64_w, i32_w]
                                          rfl
                                        refine take_ (i := 5) (N := some 110) (v := ?_) (a' := ?_) #[true, true, true, true, true, true, false, false, false, false, false] rfl rfl (take_ofW HT_.out HW_.out (by kernel_rfl)) (fun _ _ _ h => h) (Or.inl ⟨by rfl, ?_⟩) hHeld ?_ ?_
                                        rotate_left
                                        · rintro w' ⟨s0, s1, s2, s3⟩
                                          go_simp
                                          with_reducible rfl
                                        rotate_left
                                        · simp only [Act.put, List.setIfInBounds_toArray, List.set_cons_zero, List.set_cons_succ, i64_w, i32_w]
                                          rfl
                                        refine pure_ (i := 6) (N := some 111) (v := ?_) (a' := ?_) #[true, true, true, true, true, true, true, false, false, false, false] rfl rfl (any_of HT_.out (by kernel_rfl)) (fun _ _ _ h => h) (Or.inl ⟨by rfl, ?_⟩) ?_ ?_
                                        rotate_left
                                        · intro w'
                                          go_simp
                                          with_reducible rfl
                                        rotate_left
                                        · simp only [Act.put, List.setIfInBounds_toArray, List.set_cons_zero, List.set_cons_succ, i64_w, i32_w]
                                          rfl
                                        refine pure_ (i := 7) (N := some 112) (v := ?_) (a' := ?_) #[true, true, true, true, true, true, true, true, false, false, false] rfl rfl (any_of HT_.out (by kernel_rfl)) (fun _ _ _ h => h) (Or.inl ⟨by rfl, ?_⟩) ?_ ?_
                                        rotate_left
                                        · intro w'
                                          go_simp
                                          with_reducible rfl
                                        rotate_left
                                        · simp only [Act.put, List.setIfInBounds_toArray, List.set_cons_zero, List.set_cons_succ, i64_w, i32_w]
                                          rfl
                                        refine pure_ (i := 8) (N := some 113) (v := ?_) (a' := ?_) #[true, true, true, true, true, true, true, true, true, false, false] rfl rfl (any_of HT_.out (by kernel_rfl)) (fun _ _ _ h => h) (Or.inl ⟨by rfl, ?_⟩) ?_ ?_
                                        rotate_left
                                        · intro w'
                                          go_simp
                                          with_reducible rfl
                                        rotate_left
                                        · simp only [Act.put, List.setIfInBounds_toArray, List.set_cons_zero, List.set_cons_succ, i64_w, i32_w]
                                          rfl
                                        refine pure_ (i := 9) (N := some 114) (v := ?_) (a' := ?_) #[true, true, true, true, true, true, true, true, true, true, false] rfl rfl (any_of HT_.out (by kernel_rfl)) (fun _ _ _ h => h) (Or.inl ⟨by rfl, ?_⟩) ?_ ?_
                                        rotate_left
                                        · intro w'
                                          go_simp
                                          with_reducible rfl
                                        rotate_left
                                        · simp only [Act.put, List.setIfInBounds_toArray, List.set_cons_zero, List.set_cons_succ, i64_w, i32_w]
                                          rfl
                                        refine last_ (i := 10) (N := none) #[true, true, true, true, true, true, true, true, true, true, true] rfl rfl (one_of HT_.out (by kernel_rfl)) (by decide) (fun K hK => ?_)
                                        have hs62 : w61.cell? ⟨gb121, 2, none⟩ = some (.int .i64 x122002_3) := (blk_cell BK121.out 2).trans rfl
                                        have hfs62 := blk_frozen BK121.out 2
                                        refine skip_ (w1 := ?_) (by rfl) rfl ?_ ?_
                                        rotate_left
                                        · go_simp
                                          rfl
                                        refine hK.out _ _ ?_
                                        clear hK K
                                        refine done_ (done_of HT_.out (by kernel_rfl)) ?_
                                        try go_wp2
                                        go_roundg kj50
                                        case measure => have := HK1.out; have := HJ5.out; have := HK3.out; have := HJ50.out; omega
                                        case rel => exact ⟨(wrap64 (x6_3 + 1)), (wrap64 ((wrap64 ((wrap64 (10 * x122002_3)) + (wrap64 (bt a0 x6_3)))) - 48)), (by first | rfl | (simp; done) | (simp [*]; done)), H', ⟨by have := HK1.out; have := HJ5.out; have := HK3.out; have := HJ50.out; omega⟩, ⟨by (with_reducible repeat (first | apply Kd.R_alloc | apply Kd.R_drewN | apply Kd.R_drew)); exact Kd.R_mono (Kd.R_far (p := ⟨gb121, 2, none⟩) (Kd.R_mono HO_5.out (fun k_ hk => (⟨hk, hk⟩ : _ ∧ k_ ≠ gb121))) (fun _ hk => hk.2) (.int .i64 (wrap64 ((wrap64 ((wrap64 (10 * x122002_3)) + (wrap64 (bt a0 x6_3)))) - 48)))) (fun _ hk => hk.1)⟩, ⟨by (with_reducible repeat (first | refine blk_drewN ?_ _ | refine blk_drew ?_ | refine blk_alloc ?_ _)); refine blk_put (cs := #[.int .i64 3, .string (⟨#[]⟩ : ByteArray), .int .i64 x122002_3, .int .i64 x6_1]) ?_ 2 _ rfl; (with_reducible repeat (first | refine blk_drewN ?_ _ | refine blk_drew ?_ | refine blk_alloc ?_ _)); exact BK121.out⟩, ⟨by repeat (first | (with_reducible first | exact HB.out | apply below_alloc | apply pw_below_drewN | apply below_drew1 | refine below_set ?_ GE121.out) | exact HB.out)⟩⟩
                                      · rw [if_neg c59] at H
                                        exact absurd H (by simp)
                                    · rw [if_neg c58] at H
                                      exact absurd H (by simp)
                                  · rw [if_neg c57] at H
                                    have c57b0 : decide ((wrap64 (x6_3 - x6_1)) < 9) = false := decide_eq_false c57
                                    clear c57
                                    have H' := Aside0.mk H
                                    clear H
                                    go_wp2
                                    go_roundg kj50
                                    case measure => have := HK1.out; have := HJ5.out; have := HK3.out; have := HJ50.out; omega
                                    case rel => exact ⟨(wrap64 (x6_3 + 1)), (x122002_3), (by first | rfl | (simp; done) | (simp [*]; done)), H', ⟨by have := HK1.out; have := HJ5.out; have := HK3.out; have := HJ50.out; omega⟩, ⟨by (with_reducible repeat (first | apply Kd.R_alloc | apply Kd.R_drewN | apply Kd.R_drew)); exact HO_5.out⟩, ⟨by (with_reducible repeat (first | refine blk_drewN ?_ _ | refine blk_drew ?_ | refine blk_alloc ?_ _)); exact BK121.out⟩, ⟨by repeat (first | (with_reducible first | exact HB.out | apply below_alloc | apply pw_below_drewN | apply below_drew1 | refine below_set ?_ GE121.out) | exact HB.out)⟩⟩
                                · replace c56 := Bool.eq_false_iff.mpr c56
                                  subst c56
                                  have H1 : (if (wrap64 (x6_3 - x6_1)) > 9 then (selvageref04_Tokens.j8 kj50 a0 x5_1 x6_3 x6_1 true 3 (⟨#[]⟩ : ByteArray) x122002_3 x6_1) else (if (bt a0 x6_1) = 48 then (if (wrap64 (x6_3 - x6_1)) > 1 then (selvageref04_Tokens.j8 kj50 a0 x5_1 x6_3 x6_1 true 3 (⟨#[]⟩ : ByteArray) x122002_3 x6_1) else (if x6_3 < (a0.size : Int) then (if 0 ≤ x6_3 then ((selvageref04_Small.f (bt a0 x6_3)).bind fun t131 => (selvageref04_Tokens.j8 kj50 a0 x5_1 x6_3 x6_1 t131 3 (⟨#[]⟩ : ByteArray) x122002_3 x6_1)) else (none)) else (selvageref04_Tokens.j8 kj50 a0 x5_1 x6_3 x6_1 false 3 (⟨#[]⟩ : ByteArray) x122002_3 x6_1))) else (if x6_3 < (a0.size : Int) then (if 0 ≤ x6_3 then ((selvageref04_Small.f (bt a0 x6_3)).bind fun t132 => (selvageref04_Tokens.j8 kj50 a0 x5_1 x6_3 x6_1 t132 3 (⟨#[]⟩ : ByteArray) x122002_3 x6_1)) else (none)) else (selvageref04_Tokens.j8 kj50 a0 x5_1 x6_3 x6_1 false 3 (⟨#[]⟩ : ByteArray) x122002_3 x6_1)))) = some (r1, r2, r3) := by rw [if_neg (show ¬ (false = true) by decide)] at H; exact H
                                  clear H
                                  have H := H1
                                  clear H1
                                  have HC63 := Aside0.mk H
                                  clear H
                                  go_upto_region 29 with (fail)
                                  go_cut [142] (fun v142 wc => ∃ (kq : Nat) (x142_62 : Bool), v142 = .bool x142_62 ∧ Aside0 (selvageref04_Tokens.j8 kq a0 x5_1 x6_3 x6_1 x142_62 3 (⟨#[]⟩ : ByteArray) x122002_3 x6_1 = some (r1, r2, r3)) ∧ Aside0 (kq ≤ kj50) ∧ Aside0 (Kd.R k32 32 wc w.heap.size (fun k_ => k_ ≠ gb121) u5 x5_1) ∧ Aside0 (wc.heap[gb121]? = some (.cells #[.int .i64 3, .string (⟨#[]⟩ : ByteArray), .int .i64 x122002_3, .int .i64 x6_1] 32 (0, 0))) ∧ Aside0 (Below w.heap.size w wc))
                                  case first =>
                                    have H := HC63.out
                                    clear HC63
                                    by_cases c64 : (wrap64 (x6_3 - x6_1)) > 9
                                    · rw [if_pos c64] at H
                                      have c64b0 : decide (9 < (wrap64 (x6_3 - x6_1))) = true := decide_eq_true c64
                                      clear c64
                                      (first | rw [c64b0] | (simp only [i64_w, i32_w]; rw [c64b0]) | skip)
                                      have H' := Aside0.mk H
                                      clear H
                                      go_wp2
                                      go_meet
                                      case rel => exact ⟨_, (true), (by first | rfl | (simp; done) | (simp [*]; done)), H', ⟨by have := HK1.out; have := HJ5.out; have := HK3.out; have := HJ50.out; first | omega | exact Nat.le_refl _⟩, ⟨by (with_reducible repeat (first | apply Kd.R_alloc | apply Kd.R_drewN | apply Kd.R_drew)); exact HO_5.out⟩, ⟨by (with_reducible repeat (first | refine blk_drewN ?_ _ | refine blk_drew ?_ | refine blk_alloc ?_ _)); exact BK121.out⟩, ⟨by repeat (first | (with_reducible first | exact HB.out | apply below_alloc | apply pw_below_drewN | apply below_drew1 | refine below_set ?_ GE121.out) | exact HB.out)⟩⟩
                                    · rw [if_neg c64] at H
                                      have c64b0 : decide (9 < (wrap64 (x6_3 - x6_1))) = false := decide_eq_false c64
                                      clear c64
                                      (first | rw [c64b0] | (simp only [i64_w, i32_w]; rw [c64b0]) | skip)
                                      by_cases c65 : (bt a0 x6_1) = 48
                                      · rw [if_pos c65] at H
                                        have c65b0 : ((bt a0 x6_1) == 48) = true := beq_iff_eq.mpr c65
                                        have c65b1 : ((bt a0 x6_1) != 48) = false := bne_eq_false_iff_eq.mpr c65
                                        clear c65
                                        by_cases c66 : (wrap64 (x6_3 - x6_1)) > 1
                                        · rw [if_pos c66] at H
                                          have c66b0 : decide (1 < (wrap64 (x6_3 - x6_1))) = true := decide_eq_true c66
                                          clear c66
                                          have H' := Aside0.mk H
                                          clear H
                                          go_wp2
                                          go_meet
                                          case rel => exact ⟨_, (true), (by first | rfl | (simp; done) | (simp [*]; done)), H', ⟨by have := HK1.out; have := HJ5.out; have := HK3.out; have := HJ50.out; first | omega | exact Nat.le_refl _⟩, ⟨by (with_reducible repeat (first | apply Kd.R_alloc | apply Kd.R_drewN | apply Kd.R_drew)); exact HO_5.out⟩, ⟨by (with_reducible repeat (first | refine blk_drewN ?_ _ | refine blk_drew ?_ | refine blk_alloc ?_ _)); exact BK121.out⟩, ⟨by repeat (first | (with_reducible first | exact HB.out | apply below_alloc | apply pw_below_drewN | apply below_drew1 | refine below_set ?_ GE121.out) | exact HB.out)⟩⟩
                                        · rw [if_neg c66] at H
                                          have c66b0 : decide (1 < (wrap64 (x6_3 - x6_1))) = false := decide_eq_false c66
                                          clear c66
                                          by_cases c67 : x6_3 < (a0.size : Int)
                                          · rw [if_pos c67] at H
                                            have c67b0 : decide (x6_3 < (a0.size : Int)) = true := decide_eq_true c67
                                            clear c67
                                            by_cases c68 : 0 ≤ x6_3
                                            · rw [if_pos c68] at H
                                              have c68b0 : decide (0 ≤ x6_3) = true := decide_eq_true c68
                                              clear c68
                                              replace H := Option.bind_eq_some_iff.mp H
                                              obtain ⟨t131, A700, H⟩ := H
                                              replace H : (selvageref04_Tokens.j8 kj50 a0 x5_1 x6_3 x6_1 t131 3 (⟨#[]⟩ : ByteArray) x122002_3 x6_1) = some (r1, r2, r3) := H
                                              have A70 := Aside0.mk A700
                                              clear A700
                                              have H' := Aside0.mk H
                                              clear H
                                              have p69 : 0 ≤ (x6_3 : Int) := of_decide_eq_true (by first | (with_reducible assumption) | assumption)
                                              have q69 : x6_3 < (a0.size : Int) := of_decide_eq_true (by first | (with_reducible assumption) | assumption)
                                              have hx69 := bt_at a0 x6_3
                                              replace p69 := eq_true p69
                                              replace q69 := eq_true q69
                                              go_wp2_with (first | (go_at_call 17; (with_reducible refine (selvageref04_Small.calls (bt a0 x6_3) t131 _ A70.out).mono ?_); rintro e w' ⟨rfl, ⟨nd, rfl⟩⟩))
                                              go_meet
                                              case rel => exact ⟨_, (t131), (by first | rfl | (simp; done) | (simp [*]; done)), H', ⟨by have := HK1.out; have := HJ5.out; have := HK3.out; have := HJ50.out; first | omega | exact Nat.le_refl _⟩, ⟨by (with_reducible repeat (first | apply Kd.R_alloc | apply Kd.R_drewN | apply Kd.R_drew)); exact HO_5.out⟩, ⟨by (with_reducible repeat (first | refine blk_drewN ?_ _ | refine blk_drew ?_ | refine blk_alloc ?_ _)); exact BK121.out⟩, ⟨by repeat (first | (with_reducible first | exact HB.out | apply below_alloc | apply pw_below_drewN | apply below_drew1 | refine below_set ?_ GE121.out) | exact HB.out)⟩⟩
                                            · rw [if_neg c68] at H
                                              exact absurd H (by simp)
                                          · rw [if_neg c67] at H
                                            have c67b0 : decide (x6_3 < (a0.size : Int)) = false := decide_eq_false c67
                                            clear c67
                                            have H' := Aside0.mk H
                                            clear H
                                            go_wp2
                                            go_meet
                                            case rel => exact ⟨_, (false), (by first | rfl | (simp; done) | (simp [*]; done)), H', ⟨by have := HK1.out; have := HJ5.out; have := HK3.out; have := HJ50.out; first | omega | exact Nat.le_refl _⟩, ⟨by (with_reducible repeat (first | apply Kd.R_alloc | apply Kd.R_drewN | apply Kd.R_drew)); exact HO_5.out⟩, ⟨by (with_reducible repeat (first | refine blk_drewN ?_ _ | refine blk_drew ?_ | refine blk_alloc ?_ _)); exact BK121.out⟩, ⟨by repeat (first | (with_reducible first | exact HB.out | apply below_alloc | apply pw_below_drewN | apply below_drew1 | refine below_set ?_ GE121.out) | exact HB.out)⟩⟩
                                      · rw [if_neg c65] at H
                                        have c65b0 : ((bt a0 x6_1) == 48) = false := beq_eq_false_iff_ne.mpr c65
                                        have c65b1 : ((bt a0 x6_1) != 48) = true := bne_iff_ne.mpr c65
                                        by_cases c71 : x6_3 < (a0.size : Int)
                                        · rw [if_pos c71] at H
                                          have c71b0 : decide (x6_3 < (a0.size : Int)) = true := decide_eq_true c71
                                          clear c71
                                          by_cases c72 : 0 ≤ x6_3
                                          · rw [if_pos c72] at H
                                            have c72b0 : decide (0 ≤ x6_3) = true := decide_eq_true c72
                                            clear c72
                                            replace H := Option.bind_eq_some_iff.mp H
                                            obtain ⟨t132, A740, H⟩ := H
                                            replace H : (selvageref04_Tokens.j8 kj50 a0 x5_1 x6_3 x6_1 t132 3 (⟨#[]⟩ : ByteArray) x122002_3 x6_1) = some (r1, r2, r3) := H
                                            have A74 := Aside0.mk A740
                                            clear A740
                                            have H' := Aside0.mk H
                                            clear H
                                            have p73 : 0 ≤ (x6_3 : Int) := of_decide_eq_true (by first | (with_reducible assumption) | assumption)
                                            have q73 : x6_3 < (a0.size : Int) := of_decide_eq_true (by first | (with_reducible assumption) | assumption)
                                            have hx73 := bt_at a0 x6_3
                                            replace p73 := eq_true p73
                                            replace q73 := eq_true q73
                                            go_wp2_with (first | (go_at_call 17; (with_reducible refine (selvageref04_Small.calls (bt a0 x6_3) t132 _ A74.out).mono ?_); rintro e w' ⟨rfl, ⟨nd, rfl⟩⟩))
                                            go_meet
                                            case rel => exact ⟨_, (t132), (by first | rfl | (simp; done) | (simp [*]; done)), H', ⟨by have := HK1.out; have := HJ5.out; have := HK3.out; have := HJ50.out; first | omega | exact Nat.le_refl _⟩, ⟨by (with_reducible repeat (first | apply Kd.R_alloc | apply Kd.R_drewN | apply Kd.R_drew)); exact HO_5.out⟩, ⟨by (with_reducible repeat (first | refine blk_drewN ?_ _ | refine blk_drew ?_ | refine blk_alloc ?_ _)); exact BK121.out⟩, ⟨by repeat (first | (with_reducible first | exact HB.out | apply below_alloc | apply pw_below_drewN | apply below_drew1 | refine below_set ?_ GE121.out) | exact HB.out)⟩⟩
                                          · rw [if_neg c72] at H
                                            exact absurd H (by simp)
                                        · rw [if_neg c71] at H
                                          have c71b0 : decide (x6_3 < (a0.size : Int)) = false := decide_eq_false c71
                                          clear c71
                                          have H' := Aside0.mk H
                                          clear H
                                          go_wp2
                                          go_meet
                                          case rel => exact ⟨_, (false), (by first | rfl | (simp; done) | (simp [*]; done)), H', ⟨by have := HK1.out; have := HJ5.out; have := HK3.out; have := HJ50.out; first | omega | exact Nat.le_refl _⟩, ⟨by (with_reducible repeat (first | apply Kd.R_alloc | apply Kd.R_drewN | apply Kd.R_drew)); exact HO_5.out⟩, ⟨by (with_reducible repeat (first | refine blk_drewN ?_ _ | refine blk_drew ?_ | refine blk_alloc ?_ _)); exact BK121.out⟩, ⟨by repeat (first | (with_reducible first | exact HB.out | apply below_alloc | apply pw_below_drewN | apply below_drew1 | refine below_set ?_ GE121.out) | exact HB.out)⟩⟩
                                  case rest =>
                                    clear HC63
                                    try clear c1
                                    try clear p1
                                    try clear q1
                                    try clear hx1
                                    try clear c2
                                    try clear c2b0
                                    try clear c2b1
                                    try clear p2
                                    try clear q2
                                    try clear hx2
                                    try clear c3
                                    try clear c3b0
                                    try clear c4
                                    try clear c4b0
                                    try clear c5
                                    try clear p5
                                    try clear q5
                                    try clear hx5
                                    try clear c6
                                    try clear p6
                                    try clear q6
                                    try clear hx6
                                    try clear c7
                                    try clear c7b0
                                    try clear c7b1
                                    try clear p7
                                    try clear q7
                                    try clear hx7
                                    try clear c8
                                    try clear c8b0
                                    try clear c8b1
                                    try clear c9
                                    try clear c9b0
                                    try clear c9b1
                                    try clear c10
                                    try clear c11
                                    try clear c11b0
                                    try clear c11b1
                                    try clear c12
                                    try clear c12b0
                                    try clear c13
                                    try clear c13b0
                                    try clear p14
                                    try clear q14
                                    try clear hx14
                                    try clear c15
                                    try clear c15b0
                                    try clear c15b1
                                    try clear c17
                                    try clear c18
                                    try clear c19
                                    try clear c21
                                    try clear c21b0
                                    try clear c22
                                    try clear c22b0
                                    try clear p23
                                    try clear q23
                                    try clear hx23
                                    try clear c25
                                    try clear p26
                                    try clear q26
                                    try clear hx26
                                    try clear c28
                                    try clear c29
                                    try clear c29b0
                                    try clear c29b1
                                    try clear c30
                                    try clear c30b0
                                    try clear c30b1
                                    try clear c31
                                    try clear c31b0
                                    try clear c31b1
                                    try clear c35
                                    try clear c37
                                    try clear c37b0
                                    try clear c38
                                    try clear c38b0
                                    try clear c38b1
                                    try clear c40
                                    try clear c40b0
                                    try clear c40b1
                                    try clear c41
                                    try clear c41b0
                                    try clear c41b1
                                    try clear c42
                                    try clear c42b0
                                    try clear c42b1
                                    try clear c43
                                    try clear c48
                                    try clear c52
                                    try clear c52b0
                                    try clear c53
                                    try clear c53b0
                                    try clear p54
                                    try clear q54
                                    try clear hx54
                                    try clear c56
                                    try clear c57
                                    try clear c57b0
                                    try clear c58
                                    try clear c58b0
                                    try clear c59
                                    try clear c59b0
                                    try clear p60
                                    try clear q60
                                    try clear hx60
                                    try clear c64
                                    try clear c64b0
                                    try clear p64
                                    try clear c65
                                    try clear c65b0
                                    try clear c65b1
                                    try clear c66
                                    try clear c66b0
                                    try clear c67
                                    try clear c67b0
                                    try clear c68
                                    try clear c68b0
                                    try clear p69
                                    try clear q69
                                    try clear hx69
                                    try clear c71
                                    try clear c71b0
                                    try clear c72
                                    try clear c72b0
                                    try clear p73
                                    try clear q73
                                    try clear hx73
                                    try clear hcz20_0
                                    try clear hcz20_1
                                    try clear hcz20_2
                                    try clear hcz20_3
                                    try clear hcz34_0
                                    try clear hcz34_1
                                    try clear hcz34_2
                                    try clear hcz34_3
                                    try clear hcz36_0
                                    try clear hcz36_1
                                    try clear hcz36_2
                                    try clear hcz36_3
                                    try clear hcz45_0
                                    try clear hcz45_1
                                    try clear hcz45_2
                                    try clear hcz45_3
                                    try clear hcz50_0
                                    try clear hcz50_1
                                    try clear hcz50_2
                                    try clear hcz50_3
                                    try clear hfz20_0
                                    try clear hfz20_1
                                    try clear hfz20_2
                                    try clear hfz20_3
                                    try clear hfz34_0
                                    try clear hfz34_1
                                    try clear hfz34_2
                                    try clear hfz34_3
                                    try clear hfz36_0
                                    try clear hfz36_1
                                    try clear hfz36_2
                                    try clear hfz36_3
                                    try clear hfz45_0
                                    try clear hfz45_1
                                    try clear hfz45_2
                                    try clear hfz45_3
                                    try clear hfz50_0
                                    try clear hfz50_1
                                    try clear hfz50_2
                                    try clear hfz50_3
                                    try clear p1
                                    try clear p14
                                    try clear p2
                                    try clear p23
                                    try clear p26
                                    try clear p5
                                    try clear p54
                                    try clear p6
                                    try clear p60
                                    try clear p69
                                    try clear p73
                                    try clear q1
                                    try clear q14
                                    try clear q2
                                    try clear q23
                                    try clear q26
                                    try clear q5
                                    try clear q54
                                    try clear q60
                                    try clear q69
                                    try clear q73
                                    obtain ⟨kq, x142_62, rfl, HA, HJ62, HO_5, BK121, HB⟩ := hcut
                                    cases kq with
                                    | zero => exact absurd HA.out (by simp [selvageref04_Tokens.j8])
                                    | succ kj62 =>
                                      have H := HA.out
                                      clear HA
                                      simp only [selvageref04_Tokens.j8] at H
                                      by_cases c75 : x142_62 = true
                                      · subst c75
                                        have H1 : (some (([] : List (S32)), 10, x6_1)) = some (r1, r2, r3) := by rw [if_pos rfl] at H; exact H
                                        clear H
                                        have H := H1
                                        clear H1
                                        simp only [Option.some.injEq, Prod.mk.injEq] at H
                                        obtain ⟨rfl, rfl, rfl⟩ := H
                                        go_wp2
                                        go_ret3
                                        exact ⟨_, by first | rfl | (simp [errW_none, errW_some] <;> rfl) | (simp [*, errW_none, errW_some] <;> rfl), by first | exact Kd.R_nil _ _ _ _ _ | exact Kd.N_nil _ _ _ _ _ | exact Kd.V_nil _ _ _ _ _ | exact Kd.Q_nil _ _ _ _ _ | exact Kd.S_nil _ _ _ _ _, by repeat (first | (with_reducible first | exact HB.out | apply below_alloc | apply pw_below_drewN | apply below_drew1 | refine below_set ?_ GE121.out) | exact HB.out)⟩
                                      · replace c75 := Bool.eq_false_iff.mpr c75
                                        subst c75
                                        have H1 : (if (x5_1.length : Int) ≥ 1500 then (some (([] : List (S32)), 15, x6_1)) else (if 0 ≤ x6_1 then (if x6_1 ≤ x6_3 then (if x6_3 ≤ (a0.size : Int) then (if x5_1.length < 3518437208883 then (selvageref04_Tokens.l0 kj62 a0 (x5_1 ++ [(⟨3, a0.extract (x6_1 : Int).toNat (x6_3 : Int).toNat, x122002_3, x6_1⟩ : S32)]) x6_3) else (none)) else (none)) else (none)) else (none))) = some (r1, r2, r3) := by rw [if_neg (show ¬ (false = true) by decide)] at H; exact H
                                        clear H
                                        have H := H1
                                        clear H1
                                        by_cases c76 : (x5_1.length : Int) ≥ 1500
                                        · rw [if_pos c76] at H
                                          have c76b0 : decide (1500 ≤ (x5_1.length : Int)) = true := decide_eq_true c76
                                          have c76b1 : decide (1500 ≤ x5_1.length) = true := decide_eq_true (by omega)
                                          clear c76
                                          simp only [Option.some.injEq, Prod.mk.injEq] at H
                                          obtain ⟨rfl, rfl, rfl⟩ := H
                                          obtain ⟨Ao77, co77, eo77⟩ := Kd.R_slice HO_5.out
                                          subst eo77
                                          go_wp2
                                          go_ret3
                                          exact ⟨_, by first | rfl | (simp [errW_none, errW_some] <;> rfl) | (simp [*, errW_none, errW_some] <;> rfl), by first | exact Kd.R_nil _ _ _ _ _ | exact Kd.N_nil _ _ _ _ _ | exact Kd.V_nil _ _ _ _ _ | exact Kd.Q_nil _ _ _ _ _ | exact Kd.S_nil _ _ _ _ _, by repeat (first | (with_reducible first | exact HB.out | apply below_alloc | apply pw_below_drewN | apply below_drew1 | refine below_set ?_ GE121.out) | exact HB.out)⟩
                                        · rw [if_neg c76] at H
                                          have c76b0 : decide (1500 ≤ (x5_1.length : Int)) = false := decide_eq_false c76
                                          have c76b1 : decide (1500 ≤ x5_1.length) = false := decide_eq_false (by omega)
                                          clear c76
                                          by_cases c78 : 0 ≤ x6_1
                                          · rw [if_pos c78] at H
                                            have c78b0 := eq_true c78
                                            have c78b1 : decide (0 ≤ x6_1) = true := decide_eq_true c78
                                            clear c78
                                            by_cases c79 : x6_1 ≤ x6_3
                                            · rw [if_pos c79] at H
                                              have c79b0 := eq_true c79
                                              have c79b1 : decide (x6_1 ≤ x6_3) = true := decide_eq_true c79
                                              clear c79
                                              by_cases c80 : x6_3 ≤ (a0.size : Int)
                                              · rw [if_pos c80] at H
                                                have c80b0 := eq_true c80
                                                have c80b1 : decide (x6_3 ≤ (a0.size : Int)) = true := decide_eq_true c80
                                                clear c80
                                                by_cases c81 : x5_1.length < 3518437208883
                                                · rw [if_pos c81] at H
                                                  have LMc81 := Aside0.mk c81
                                                  clear c81
                                                  obtain ⟨y133, hy133⟩ : ∃ y_ : List (S32), y_ = (x5_1 ++ [(⟨3, a0.extract (x6_1 : Int).toNat (x6_3 : Int).toNat, x122002_3, x6_1⟩ : S32)]) := ⟨_, rfl⟩
                                                  replace H : (selvageref04_Tokens.l0 kj62 a0 y133 x6_3) = some (r1, r2, r3) := by first | (rw [hy133]; with_reducible exact H) | (have H2_ := (Option.bind_some _ _).symm.trans H; rw [hy133]; with_reducible exact H2_) | (have H2_ := (Option.bind_some _ _).symm.trans H; with_reducible exact H2_) | with_reducible exact H | (rw [hy133]; exact H) | exact H
                                                  have Ny133 := Aside0.mk hy133
                                                  clear hy133
                                                  have H' := Aside0.mk H
                                                  clear H
                                                  obtain ⟨Ao82, co82, eo82⟩ := Kd.R_slice HO_5.out
                                                  subst eo82
                                                  have hcz83_0 : wc.cell? ⟨gb121, 0, none⟩ = some (.int .i64 3) := (blk_cell BK121.out 0).trans rfl
                                                  have hcz83_1 : wc.cell? ⟨gb121, 1, none⟩ = some (.string (⟨#[]⟩ : ByteArray)) := (blk_cell BK121.out 1).trans rfl
                                                  have hcz83_2 : wc.cell? ⟨gb121, 2, none⟩ = some (.int .i64 x122002_3) := (blk_cell BK121.out 2).trans rfl
                                                  have hcz83_3 : wc.cell? ⟨gb121, 3, none⟩ = some (.int .i64 x6_1) := (blk_cell BK121.out 3).trans rfl
                                                  have hfz83_0 := blk_frozen BK121.out 0
                                                  have hfz83_1 := blk_frozen BK121.out 1
                                                  have hfz83_2 := blk_frozen BK121.out 2
                                                  have hfz83_3 := blk_frozen BK121.out 3
                                                  go_wp2_with (first | ((with_reducible refine gate_builtin (b := .append) (xs := #[.tmp 176, .tmp 178]) rfl ?_); (try (refine gate_guard (by rfl) ?_; dsimp only)); at_builtin; refine Kd.R_append k32 (w0 := w) w.heap.size rfl (.tmp 176) (.tmp 178) 23 32 (.agg #[(.int .i64 0), (.string ⟨#[]⟩), (.int .i64 0), (.int .i64 0)]) 40 rfl Try.underlying23 info32 rfl (by decide) (by omega) (.slice Ao82 x5_1.length co82) x5_1 (⟨3, a0.extract (x6_1 : Int).toNat (x6_3 : Int).toNat, x122002_3, x6_1⟩ : S32) [.int .i64 3, .string (a0.extract (x6_1 : Int).toNat (x6_3 : Int).toNat), .int .i64 x122002_3, .int .i64 x6_1] (fun k_ => k_ ≠ gb121) (fun _ => False) rfl (by first | (go_simp; done) | (go_simp; rfl)) ?aP (fun _ hk => hk.elim) ?aF ?aO ?aB ?aS ?aL ?_; (case aP => exact k32_mkM _ _ _ (⟨3, a0.extract (x6_1 : Int).toNat (x6_3 : Int).toNat, x122002_3, x6_1⟩ : S32)); (case aB => exact (by repeat (first | (with_reducible first | exact HB.out | apply below_alloc | apply pw_below_drewN | apply below_drew1 | refine below_set ?_ GE121.out) | exact HB.out))); (case aF => exact (fun k_ hk => Kd.freshB (g := gb121) (o := .cells #[.int .i64 3, .string (a0.extract (x6_1 : Int).toNat (x6_3 : Int).toNat), .int .i64 x122002_3, .int .i64 x6_1] 32 (0, 0)) (by (with_reducible repeat (first | refine blk_drewN ?_ _ | refine blk_drew ?_ | refine blk_alloc ?_ _)); refine blk_put (cs := #[.int .i64 3, .string (⟨#[]⟩ : ByteArray), .int .i64 x122002_3, .int .i64 x6_1]) ?_ 1 _ rfl; (with_reducible repeat (first | refine blk_drewN ?_ _ | refine blk_drew ?_ | refine blk_alloc ?_ _)); exact BK121.out) k_ hk)); (case aO => exact (by (with_reducible repeat (first | apply Kd.R_alloc | apply Kd.R_drewN | apply Kd.R_drew)); exact Kd.R_mono (Kd.R_far (p := ⟨gb121, 1, none⟩) (Kd.R_mono HO_5.out (fun k_ hk => (⟨hk, hk⟩ : _ ∧ k_ ≠ gb121))) (fun _ hk => hk.2) (.string (a0.extract (x6_1 : Int).toNat (x6_3 : Int).toNat))) (fun _ hk => hk.1))); (case aS => exact (below_size (by repeat (first | (with_reducible first | exact HB.out | apply below_alloc | apply pw_below_drewN | apply below_drew1 | refine below_set ?_ GE121.out) | exact HB.out)))); (case aL => have := LMc81.out; omega); intro v134 w84 ho hb hg hat; rw [← Ny133.out] at ho; have n0_ := Aside0.mk (blk_grown (g := gb121) (o := .cells #[.int .i64 3, .string (a0.extract (x6_1 : Int).toNat (x6_3 : Int).toNat), .int .i64 x122002_3, .int .i64 x6_1] 32 (0, 0)) (by (with_reducible repeat (first | refine blk_drewN ?_ _ | refine blk_drew ?_ | refine blk_alloc ?_ _)); refine blk_put (cs := #[.int .i64 3, .string (⟨#[]⟩ : ByteArray), .int .i64 x122002_3, .int .i64 x6_1]) ?_ 1 _ rfl; (with_reducible repeat (first | refine blk_drewN ?_ _ | refine blk_drew ?_ | refine blk_alloc ?_ _)); exact BK121.out) hg (Kd.R_away HO_5.out (fun _ hk => hk))); have n1_ := Aside0.mk (hb); have n2_ := Aside0.mk (ho); clear BK121; clear HB; clear HO_5; have BK121 := n0_; have HB := n1_; have HO135 := n2_; clear n0_ n1_ n2_; clear ho hb hg hat))
                                                  go_roundg kj62
                                                  case measure => have := HK1.out; have := HJ5.out; have := HK3.out; have := HJ50.out; have := HJ62.out; omega
                                                  case rel => exact ⟨(y133), (x6_3), (by first | rfl | (simp; done) | (simp [*]; done)), H', ⟨by have := HK1.out; have := HJ5.out; have := HK3.out; have := HJ50.out; have := HJ62.out; omega⟩, ⟨by (with_reducible repeat (first | apply Kd.R_alloc | apply Kd.R_drewN | apply Kd.R_drew)); exact Kd.R_mono HO135.out (fun _ hk => trivial)⟩, ⟨by repeat (first | (with_reducible first | exact HB.out | apply below_alloc | apply pw_below_drewN | apply below_drew1 | refine below_set ?_ GE121.out) | exact HB.out)⟩⟩
                                                · rw [if_neg c81] at H
                                                  exact absurd H (by simp)
                                              · rw [if_neg c80] at H
                                                exact absurd H (by simp)
                                            · rw [if_neg c79] at H
                                              exact absurd H (by simp)
                                          · rw [if_neg c78] at H
                                            exact absurd H (by simp)
                      · as_aux_lemma =>
                        replace c48 := Bool.eq_false_iff.mpr c48
                        subst c48
                        have H1 : (if (wrap64 (x6_1 + 1)) < (a0.size : Int) then (if 0 ≤ (wrap64 (x6_1 + 1)) then ((selvageref04_double.f (bt a0 x6_1) (bt a0 (wrap64 (x6_1 + 1)))).bind fun t136 => (selvageref04_Tokens.j9 kj5 a0 x5_1 x6_1 (bt a0 x6_1) x6_1 t136 0 (⟨#[]⟩ : ByteArray) 0 x6_1)) else (none)) else (selvageref04_Tokens.j9 kj5 a0 x5_1 x6_1 (bt a0 x6_1) x6_1 false 0 (⟨#[]⟩ : ByteArray) 0 x6_1)) = some (r1, r2, r3) := by rw [if_neg (show ¬ (false = true) by decide)] at H; exact H
                        clear H
                        have H := H1
                        clear H1
                        have HC85 := Aside0.mk H
                        clear H
                        go_upto_region 31 with (first | ((with_reducible refine gate_dst (N := 9) rfl ?_); (try (refine gate_guard (by rfl) ?_; dsimp only)); refine box_event ?hg (N := 9) ?hd (cs := #[.int .i64 0, .string (⟨#[]⟩ : ByteArray), .int .i64 0, .int .i64 0]) (t := 32) ?hr ?_; (case hd => rfl); (case hg => rfl); (case hr => first | (go_simp; done) | (go_simp; rfl)); intro gb121 hg w86 hbox hb; have n0_ := Aside0.mk (Kd.R_below (Kd.R_elderB (by (with_reducible repeat (first | apply Kd.R_alloc | apply Kd.R_drewN | apply Kd.R_drew)); exact HO_5.out) gb121 (Nat.le_of_eq hg.symm)) hb); have n1_ := Aside0.mk (below_step (by repeat (first | (with_reducible first | exact HB.out | apply below_alloc | apply pw_below_drewN | apply below_drew1) | exact HB.out)) hb); have n2_ := Aside0.mk (hbox); have n3_ := Aside0.mk ((by rw [hg]; exact (below_size (by repeat (first | (with_reducible first | exact HB.out | apply below_alloc | apply pw_below_drewN | apply below_drew1) | exact HB.out))) : w.heap.size ≤ gb121)); have n4_ := Aside0.mk ((by rw [hg]; exact (below_size (by repeat (first | (with_reducible first | exact HB.out | apply below_alloc | apply pw_below_drewN | apply below_drew1) | exact HB.out))) : w.heap.size ≤ gb121)); clear HO_5; clear HB; have HO_5 := n0_; have HB := n1_; have BK121 := n2_; have GW121 := n3_; have GE121 := n4_; clear n0_ n1_ n2_ n3_ n4_; clear hb hbox hg; have hcz87_0 : w86.cell? ⟨gb121, 0, none⟩ = some (.int .i64 0) := (blk_cell BK121.out 0).trans rfl; have hcz87_1 : w86.cell? ⟨gb121, 1, none⟩ = some (.string (⟨#[]⟩ : ByteArray)) := (blk_cell BK121.out 1).trans rfl; have hcz87_2 : w86.cell? ⟨gb121, 2, none⟩ = some (.int .i64 0) := (blk_cell BK121.out 2).trans rfl; have hcz87_3 : w86.cell? ⟨gb121, 3, none⟩ = some (.int .i64 0) := (blk_cell BK121.out 3).trans rfl; have hfz87_0 := blk_frozen BK121.out 0; have hfz87_1 := blk_frozen BK121.out 1; have hfz87_2 := blk_frozen BK121.out 2; have hfz87_3 := blk_frozen BK121.out 3) | ((with_reducible refine gate_callee (f := 17) rfl ?_); refine goesL_ (some 56) rfl rfl Try.func17 (by kernel_rfl) rfl #[.int .u8 (bt a0 x6_1)] rfl (by (try simp only [List.map_toArray, List.map_cons, List.map_nil]); first | done | rfl | (simp only [List.length_drop, List.length_take]; rfl)) ?_; (with_reducible refine (selvageref04_Small.calls (bt a0 x6_1) false _ A16.out).mono ?_); rintro e w' ⟨rfl, ⟨nd, rfl⟩⟩; refine ⟨_, rfl, ?_⟩) | ((with_reducible refine gate_callee (f := 18) rfl ?_); refine goesL_ (some 89) rfl rfl Try.func18 (by kernel_rfl) rfl #[.int .u8 (bt a0 x6_1)] rfl (by (try simp only [List.map_toArray, List.map_cons, List.map_nil]); first | done | rfl | (simp only [List.length_drop, List.length_take]; rfl)) ?_; (with_reducible refine (selvageref04_Digit.calls (bt a0 x6_1) false _ A47.out).mono ?_); rintro e w' ⟨rfl, ⟨nd, rfl⟩⟩; refine ⟨_, rfl, ?_⟩))
                        (try simp only [Act.put, List.setIfInBounds_toArray, List.set_cons_zero, List.set_cons_succ])
                        go_cut [144] (fun v144 wc => ∃ (kq : Nat) (x144_84 : Bool), v144 = .bool x144_84 ∧ Aside0 (selvageref04_Tokens.j9 kq a0 x5_1 x6_1 (bt a0 x6_1) x6_1 x144_84 0 (⟨#[]⟩ : ByteArray) 0 x6_1 = some (r1, r2, r3)) ∧ Aside0 (kq ≤ kj5) ∧ Aside0 (Kd.R k32 32 wc w.heap.size (fun k_ => k_ ≠ gb121) u5 x5_1) ∧ Aside0 (wc.heap[gb121]? = some (.cells #[.int .i64 0, .string (⟨#[]⟩ : ByteArray), .int .i64 0, .int .i64 x6_1] 32 (0, 0))) ∧ Aside0 (Below w.heap.size w wc))
                        case first =>
                          have H := HC85.out
                          clear HC85
                          by_cases c88 : (wrap64 (x6_1 + 1)) < (a0.size : Int)
                          · rw [if_pos c88] at H
                            have c88b0 : decide ((wrap64 (x6_1 + 1)) < (a0.size : Int)) = true := decide_eq_true c88
                            clear c88
                            (first | rw [c88b0] | (simp only [i64_w, i32_w]; rw [c88b0]) | skip)
                            obtain ⟨ji89, hji89⟩ : ∃ j_ : Int, (wrap64 (x6_1 + 1)) = j_ := ⟨_, rfl⟩
                            replace H : (if 0 ≤ (ji89) then ((selvageref04_double.f (bt a0 x6_1) (bt a0 (ji89))).bind fun t136 => (selvageref04_Tokens.j9 kj5 a0 x5_1 x6_1 (bt a0 x6_1) x6_1 t136 0 (⟨#[]⟩ : ByteArray) 0 x6_1)) else (none)) = some (r1, r2, r3) := by first | (rw [hji89] at H; exact H) | (simp only [hji89] at H ⊢; exact H)
                            (try rw [hji89] at c88b0)
                            have hji89w : (IntKind.i64.wrap (x6_1 + 1)) = ji89 := (i64_w _).trans hji89
                            by_cases c90 : 0 ≤ (ji89)
                            · rw [if_pos c90] at H
                              have c90b0 : decide (0 ≤ (ji89)) = true := decide_eq_true c90
                              clear c90
                              replace H := Option.bind_eq_some_iff.mp H
                              obtain ⟨t136, A920, H⟩ := H
                              replace H : (selvageref04_Tokens.j9 kj5 a0 x5_1 x6_1 (bt a0 x6_1) x6_1 t136 0 (⟨#[]⟩ : ByteArray) 0 x6_1) = some (r1, r2, r3) := H
                              have A92 := Aside0.mk A920
                              clear A920
                              have H' := Aside0.mk H
                              clear H
                              have p91 : 0 ≤ ((ji89) : Int) := of_decide_eq_true (by first | (with_reducible assumption) | assumption)
                              have q91 : (ji89) < (a0.size : Int) := of_decide_eq_true (by first | (with_reducible assumption) | assumption)
                              have hx91 := bt_at a0 (ji89)
                              replace p91 := eq_true p91
                              replace q91 := eq_true q91
                              go_wp2_with (first | (go_at_call 20; (with_reducible refine (selvageref04_double.calls (bt a0 x6_1) (bt a0 (ji89)) t136 _ A92.out).mono ?_); rintro e w' ⟨rfl, ⟨nd, rfl⟩⟩))
                              go_meet
                              case rel => exact ⟨_, (t136), (by first | rfl | (simp; done) | (simp [*]; done)), H', ⟨by have := HK1.out; have := HJ5.out; first | omega | exact Nat.le_refl _⟩, ⟨by (with_reducible repeat (first | apply Kd.R_alloc | apply Kd.R_drewN | apply Kd.R_drew)); exact Kd.R_mono (Kd.R_far (p := ⟨gb121, 3, none⟩) (Kd.R_far (p := ⟨gb121, 2, none⟩) (Kd.R_far (p := ⟨gb121, 1, none⟩) (Kd.R_far (p := ⟨gb121, 0, none⟩) (Kd.R_mono HO_5.out (fun k_ hk => (⟨hk, hk.2⟩ : _ ∧ k_ ≠ gb121))) (fun _ hk => hk.2) (.int .i64 0)) (fun _ hk => hk.2) (.string (⟨#[]⟩ : ByteArray))) (fun _ hk => hk.2) (.int .i64 0)) (fun _ hk => hk.2) (.int .i64 x6_1)) (fun _ hk => hk.1.2)⟩, ⟨by (with_reducible repeat (first | refine blk_drewN ?_ _ | refine blk_drew ?_ | refine blk_alloc ?_ _)); refine blk_put (cs := #[.int .i64 0, .string (⟨#[]⟩ : ByteArray), .int .i64 0, .int .i64 0]) ?_ 3 _ rfl; (with_reducible repeat (first | refine blk_drewN ?_ _ | refine blk_drew ?_ | refine blk_alloc ?_ _)); refine blk_put (cs := #[.int .i64 0, .string (⟨#[]⟩ : ByteArray), .int .i64 0, .int .i64 0]) ?_ 2 _ rfl; (with_reducible repeat (first | refine blk_drewN ?_ _ | refine blk_drew ?_ | refine blk_alloc ?_ _)); refine blk_put (cs := #[.int .i64 0, .string (⟨#[]⟩ : ByteArray), .int .i64 0, .int .i64 0]) ?_ 1 _ rfl; (with_reducible repeat (first | refine blk_drewN ?_ _ | refine blk_drew ?_ | refine blk_alloc ?_ _)); refine blk_put (cs := #[.int .i64 0, .string (⟨#[]⟩ : ByteArray), .int .i64 0, .int .i64 0]) ?_ 0 _ rfl; (with_reducible repeat (first | refine blk_drewN ?_ _ | refine blk_drew ?_ | refine blk_alloc ?_ _)); exact BK121.out⟩, ⟨by repeat (first | (with_reducible first | exact HB.out | apply below_alloc | apply pw_below_drewN | apply below_drew1 | refine below_set ?_ GE121.out) | exact HB.out)⟩⟩
                            · rw [if_neg c90] at H
                              exact absurd H (by simp)
                          · rw [if_neg c88] at H
                            have c88b0 : decide ((wrap64 (x6_1 + 1)) < (a0.size : Int)) = false := decide_eq_false c88
                            clear c88
                            (first | rw [c88b0] | (simp only [i64_w, i32_w]; rw [c88b0]) | skip)
                            have H' := Aside0.mk H
                            clear H
                            go_wp2
                            go_meet
                            case rel => exact ⟨_, (false), (by first | rfl | (simp; done) | (simp [*]; done)), H', ⟨by have := HK1.out; have := HJ5.out; first | omega | exact Nat.le_refl _⟩, ⟨by (with_reducible repeat (first | apply Kd.R_alloc | apply Kd.R_drewN | apply Kd.R_drew)); exact Kd.R_mono (Kd.R_far (p := ⟨gb121, 3, none⟩) (Kd.R_far (p := ⟨gb121, 2, none⟩) (Kd.R_far (p := ⟨gb121, 1, none⟩) (Kd.R_far (p := ⟨gb121, 0, none⟩) (Kd.R_mono HO_5.out (fun k_ hk => (⟨hk, hk.2⟩ : _ ∧ k_ ≠ gb121))) (fun _ hk => hk.2) (.int .i64 0)) (fun _ hk => hk.2) (.string (⟨#[]⟩ : ByteArray))) (fun _ hk => hk.2) (.int .i64 0)) (fun _ hk => hk.2) (.int .i64 x6_1)) (fun _ hk => hk.1.2)⟩, ⟨by (with_reducible repeat (first | refine blk_drewN ?_ _ | refine blk_drew ?_ | refine blk_alloc ?_ _)); refine blk_put (cs := #[.int .i64 0, .string (⟨#[]⟩ : ByteArray), .int .i64 0, .int .i64 0]) ?_ 3 _ rfl; (with_reducible repeat (first | refine blk_drewN ?_ _ | refine blk_drew ?_ | refine blk_alloc ?_ _)); refine blk_put (cs := #[.int .i64 0, .string (⟨#[]⟩ : ByteArray), .int .i64 0, .int .i64 0]) ?_ 2 _ rfl; (with_reducible repeat (first | refine blk_drewN ?_ _ | refine blk_drew ?_ | refine blk_alloc ?_ _)); refine blk_put (cs := #[.int .i64 0, .string (⟨#[]⟩ : ByteArray), .int .i64 0, .int .i64 0]) ?_ 1 _ rfl; (with_reducible repeat (first | refine blk_drewN ?_ _ | refine blk_drew ?_ | refine blk_alloc ?_ _)); refine blk_put (cs := #[.int .i64 0, .string (⟨#[]⟩ : ByteArray), .int .i64 0, .int .i64 0]) ?_ 0 _ rfl; (with_reducible repeat (first | refine blk_drewN ?_ _ | refine blk_drew ?_ | refine blk_alloc ?_ _)); exact BK121.out⟩, ⟨by repeat (first | (with_reducible first | exact HB.out | apply below_alloc | apply pw_below_drewN | apply below_drew1 | refine below_set ?_ GE121.out) | exact HB.out)⟩⟩
                        case rest =>
                          clear HC85
                          try clear c1
                          try clear p1
                          try clear q1
                          try clear hx1
                          try clear c2
                          try clear c2b0
                          try clear c2b1
                          try clear p2
                          try clear q2
                          try clear hx2
                          try clear c3
                          try clear c3b0
                          try clear c4
                          try clear c4b0
                          try clear c5
                          try clear p5
                          try clear q5
                          try clear hx5
                          try clear c6
                          try clear p6
                          try clear q6
                          try clear hx6
                          try clear c7
                          try clear c7b0
                          try clear c7b1
                          try clear p7
                          try clear q7
                          try clear hx7
                          try clear c8
                          try clear c8b0
                          try clear c8b1
                          try clear c9
                          try clear c9b0
                          try clear c9b1
                          try clear p9
                          try clear q9
                          try clear hx9
                          try clear c10
                          try clear c11
                          try clear c11b0
                          try clear c11b1
                          try clear c12
                          try clear c12b0
                          try clear c13
                          try clear c13b0
                          try clear p14
                          try clear q14
                          try clear hx14
                          try clear c15
                          try clear c15b0
                          try clear c15b1
                          try clear c17
                          try clear c18
                          try clear c19
                          try clear c21
                          try clear c21b0
                          try clear c22
                          try clear c22b0
                          try clear p23
                          try clear q23
                          try clear hx23
                          try clear c25
                          try clear p26
                          try clear q26
                          try clear hx26
                          try clear c28
                          try clear c29
                          try clear c29b0
                          try clear c29b1
                          try clear c30
                          try clear c30b0
                          try clear c30b1
                          try clear c31
                          try clear c31b0
                          try clear c31b1
                          try clear c35
                          try clear c37
                          try clear c37b0
                          try clear c38
                          try clear c38b0
                          try clear c38b1
                          try clear c40
                          try clear c40b0
                          try clear c40b1
                          try clear c41
                          try clear c41b0
                          try clear c41b1
                          try clear c42
                          try clear c42b0
                          try clear c42b1
                          try clear c43
                          try clear c48
                          try clear c52
                          try clear c52b0
                          try clear c53
                          try clear c53b0
                          try clear p54
                          try clear q54
                          try clear hx54
                          try clear c56
                          try clear c57
                          try clear c57b0
                          try clear c58
                          try clear c58b0
                          try clear c59
                          try clear c59b0
                          try clear p60
                          try clear q60
                          try clear hx60
                          try clear c64
                          try clear c64b0
                          try clear p64
                          try clear c65
                          try clear c65b0
                          try clear c65b1
                          try clear c66
                          try clear c66b0
                          try clear c67
                          try clear c67b0
                          try clear c68
                          try clear c68b0
                          try clear p69
                          try clear q69
                          try clear hx69
                          try clear c71
                          try clear c71b0
                          try clear c72
                          try clear c72b0
                          try clear p73
                          try clear q73
                          try clear hx73
                          try clear c75
                          try clear c76
                          try clear c76b0
                          try clear c76b1
                          try clear c78
                          try clear c78b0
                          try clear c78b1
                          try clear c79
                          try clear c79b0
                          try clear c79b1
                          try clear c80
                          try clear c80b0
                          try clear c80b1
                          try clear c81
                          try clear c88
                          try clear c88b0
                          try clear c90
                          try clear c90b0
                          try clear p91
                          try clear q91
                          try clear hx91
                          try clear hcz20_0
                          try clear hcz20_1
                          try clear hcz20_2
                          try clear hcz20_3
                          try clear hcz34_0
                          try clear hcz34_1
                          try clear hcz34_2
                          try clear hcz34_3
                          try clear hcz36_0
                          try clear hcz36_1
                          try clear hcz36_2
                          try clear hcz36_3
                          try clear hcz45_0
                          try clear hcz45_1
                          try clear hcz45_2
                          try clear hcz45_3
                          try clear hcz50_0
                          try clear hcz50_1
                          try clear hcz50_2
                          try clear hcz50_3
                          try clear hcz83_0
                          try clear hcz83_1
                          try clear hcz83_2
                          try clear hcz83_3
                          try clear hcz87_0
                          try clear hcz87_1
                          try clear hcz87_2
                          try clear hcz87_3
                          try clear hfz20_0
                          try clear hfz20_1
                          try clear hfz20_2
                          try clear hfz20_3
                          try clear hfz34_0
                          try clear hfz34_1
                          try clear hfz34_2
                          try clear hfz34_3
                          try clear hfz36_0
                          try clear hfz36_1
                          try clear hfz36_2
                          try clear hfz36_3
                          try clear hfz45_0
                          try clear hfz45_1
                          try clear hfz45_2
                          try clear hfz45_3
                          try clear hfz50_0
                          try clear hfz50_1
                          try clear hfz50_2
                          try clear hfz50_3
                          try clear hfz83_0
                          try clear hfz83_1
                          try clear hfz83_2
                          try clear hfz83_3
                          try clear hfz87_0
                          try clear hfz87_1
                          try clear hfz87_2
                          try clear hfz87_3
                          try clear p1
                          try clear p14
                          try clear p2
                          try clear p23
                          try clear p26
                          try clear p5
                          try clear p54
                          try clear p6
                          try clear p60
                          try clear p64
                          try clear p69
                          try clear p7
                          try clear p73
                          try clear p91
                          try clear q1
                          try clear q14
                          try clear q2
                          try clear q23
                          try clear q26
                          try clear q5
                          try clear q54
                          try clear q6
                          try clear q60
                          try clear q69
                          try clear q7
                          try clear q73
                          try clear q91
                          obtain ⟨kq, x144_84, rfl, HA, HJ84, HO_5, BK121, HB⟩ := hcut
                          cases kq with
                          | zero => exact absurd HA.out (by simp [selvageref04_Tokens.j9])
                          | succ kj84 =>
                            have H := HA.out
                            clear HA
                            simp only [selvageref04_Tokens.j9] at H
                            by_cases c93 : x144_84 = true
                            · subst c93
                              have H1 : (if (x5_1.length : Int) ≥ 1500 then (some (([] : List (S32)), 15, x6_1)) else (if 0 ≤ x6_1 then (if x6_1 ≤ (wrap64 (x6_1 + 2)) then (if (wrap64 (x6_1 + 2)) ≤ (a0.size : Int) then (if x5_1.length < 3518437208883 then (selvageref04_Tokens.l0 kj84 a0 (x5_1 ++ [(⟨4, a0.extract (x6_1 : Int).toNat ((wrap64 (x6_1 + 2)) : Int).toNat, 0, x6_1⟩ : S32)]) (wrap64 (x6_1 + 2))) else (none)) else (none)) else (none)) else (none))) = some (r1, r2, r3) := by rw [if_pos rfl] at H; exact H
                              clear H
                              have H := H1
                              clear H1
                              by_cases c94 : (x5_1.length : Int) ≥ 1500
                              · rw [if_pos c94] at H
                                have c94b0 : decide (1500 ≤ (x5_1.length : Int)) = true := decide_eq_true c94
                                have c94b1 : decide (1500 ≤ x5_1.length) = true := decide_eq_true (by omega)
                                clear c94
                                simp only [Option.some.injEq, Prod.mk.injEq] at H
                                obtain ⟨rfl, rfl, rfl⟩ := H
                                have hcz95_0 : wc.cell? ⟨gb121, 0, none⟩ = some (.int .i64 0) := (blk_cell BK121.out 0).trans rfl
                                have hcz95_1 : wc.cell? ⟨gb121, 1, none⟩ = some (.string (⟨#[]⟩ : ByteArray)) := (blk_cell BK121.out 1).trans rfl
                                have hcz95_2 : wc.cell? ⟨gb121, 2, none⟩ = some (.int .i64 0) := (blk_cell BK121.out 2).trans rfl
                                have hcz95_3 : wc.cell? ⟨gb121, 3, none⟩ = some (.int .i64 x6_1) := (blk_cell BK121.out 3).trans rfl
                                have hfz95_0 := blk_frozen BK121.out 0
                                have hfz95_1 := blk_frozen BK121.out 1
                                have hfz95_2 := blk_frozen BK121.out 2
                                have hfz95_3 := blk_frozen BK121.out 3
                                obtain ⟨Ao96, co96, eo96⟩ := Kd.R_slice HO_5.out
                                subst eo96
                                go_wp2
                                go_ret3
                                exact ⟨_, by first | rfl | (simp [errW_none, errW_some] <;> rfl) | (simp [*, errW_none, errW_some] <;> rfl), by first | exact Kd.R_nil _ _ _ _ _ | exact Kd.N_nil _ _ _ _ _ | exact Kd.V_nil _ _ _ _ _ | exact Kd.Q_nil _ _ _ _ _ | exact Kd.S_nil _ _ _ _ _, by repeat (first | (with_reducible first | exact HB.out | apply below_alloc | apply pw_below_drewN | apply below_drew1 | refine below_set ?_ GE121.out) | exact HB.out)⟩
                              · rw [if_neg c94] at H
                                have c94b0 : decide (1500 ≤ (x5_1.length : Int)) = false := decide_eq_false c94
                                have c94b1 : decide (1500 ≤ x5_1.length) = false := decide_eq_false (by omega)
                                clear c94
                                by_cases c97 : 0 ≤ x6_1
                                · rw [if_pos c97] at H
                                  have c97b0 := eq_true c97
                                  have c97b1 : decide (0 ≤ x6_1) = true := decide_eq_true c97
                                  clear c97
                                  by_cases c98 : x6_1 ≤ (wrap64 (x6_1 + 2))
                                  · rw [if_pos c98] at H
                                    have c98b0 := eq_true c98
                                    have c98b1 : decide (x6_1 ≤ (wrap64 (x6_1 + 2))) = true := decide_eq_true c98
                                    by_cases c99 : (wrap64 (x6_1 + 2)) ≤ (a0.size : Int)
                                    · rw [if_pos c99] at H
                                      have c99b0 := eq_true c99
                                      have c99b1 : decide ((wrap64 (x6_1 + 2)) ≤ (a0.size : Int)) = true := decide_eq_true c99
                                      by_cases c100 : x5_1.length < 3518437208883
                                      · rw [if_pos c100] at H
                                        have LMc100 := Aside0.mk c100
                                        clear c100
                                        obtain ⟨y137, hy137⟩ : ∃ y_ : List (S32), y_ = (x5_1 ++ [(⟨4, a0.extract (x6_1 : Int).toNat ((wrap64 (x6_1 + 2)) : Int).toNat, 0, x6_1⟩ : S32)]) := ⟨_, rfl⟩
                                        replace H : (selvageref04_Tokens.l0 kj84 a0 y137 (wrap64 (x6_1 + 2))) = some (r1, r2, r3) := by first | (rw [hy137]; with_reducible exact H) | (have H2_ := (Option.bind_some _ _).symm.trans H; rw [hy137]; with_reducible exact H2_) | (have H2_ := (Option.bind_some _ _).symm.trans H; with_reducible exact H2_) | with_reducible exact H | (rw [hy137]; exact H) | exact H
                                        have Ny137 := Aside0.mk hy137
                                        clear hy137
                                        have H' := Aside0.mk H
                                        clear H
                                        have hcz101_0 : wc.cell? ⟨gb121, 0, none⟩ = some (.int .i64 0) := (blk_cell BK121.out 0).trans rfl
                                        have hcz101_1 : wc.cell? ⟨gb121, 1, none⟩ = some (.string (⟨#[]⟩ : ByteArray)) := (blk_cell BK121.out 1).trans rfl
                                        have hcz101_2 : wc.cell? ⟨gb121, 2, none⟩ = some (.int .i64 0) := (blk_cell BK121.out 2).trans rfl
                                        have hcz101_3 : wc.cell? ⟨gb121, 3, none⟩ = some (.int .i64 x6_1) := (blk_cell BK121.out 3).trans rfl
                                        have hfz101_0 := blk_frozen BK121.out 0
                                        have hfz101_1 := blk_frozen BK121.out 1
                                        have hfz101_2 := blk_frozen BK121.out 2
                                        have hfz101_3 := blk_frozen BK121.out 3
                                        obtain ⟨Ao102, co102, eo102⟩ := Kd.R_slice HO_5.out
                                        subst eo102
                                        go_wp2_with (first | ((with_reducible refine gate_builtin (b := .append) (xs := #[.tmp 176, .tmp 178]) rfl ?_); (try (refine gate_guard (by rfl) ?_; dsimp only)); at_builtin; refine Kd.R_append k32 (w0 := w) w.heap.size rfl (.tmp 176) (.tmp 178) 23 32 (.agg #[(.int .i64 0), (.string ⟨#[]⟩), (.int .i64 0), (.int .i64 0)]) 40 rfl Try.underlying23 info32 rfl (by decide) (by omega) (.slice Ao102 x5_1.length co102) x5_1 (⟨4, a0.extract (x6_1 : Int).toNat ((wrap64 (x6_1 + 2)) : Int).toNat, 0, x6_1⟩ : S32) [.int .i64 4, .string (a0.extract (x6_1 : Int).toNat ((wrap64 (x6_1 + 2)) : Int).toNat), .int .i64 0, .int .i64 x6_1] (fun k_ => k_ ≠ gb121) (fun _ => False) rfl (by first | (go_simp; done) | (go_simp; rfl)) ?aP (fun _ hk => hk.elim) ?aF ?aO ?aB ?aS ?aL ?_; (case aP => exact k32_mkM _ _ _ (⟨4, a0.extract (x6_1 : Int).toNat ((wrap64 (x6_1 + 2)) : Int).toNat, 0, x6_1⟩ : S32)); (case aB => exact (by repeat (first | (with_reducible first | exact HB.out | apply below_alloc | apply pw_below_drewN | apply below_drew1 | refine below_set ?_ GE121.out) | exact HB.out))); (case aF => exact (fun k_ hk => Kd.freshB (g := gb121) (o := .cells #[.int .i64 4, .string (a0.extract (x6_1 : Int).toNat ((wrap64 (x6_1 + 2)) : Int).toNat), .int .i64 0, .int .i64 x6_1] 32 (0, 0)) (by (with_reducible repeat (first | refine blk_drewN ?_ _ | refine blk_drew ?_ | refine blk_alloc ?_ _)); refine blk_put (cs := #[.int .i64 4, .string (⟨#[]⟩ : ByteArray), .int .i64 0, .int .i64 x6_1]) ?_ 1 _ rfl; (with_reducible repeat (first | refine blk_drewN ?_ _ | refine blk_drew ?_ | refine blk_alloc ?_ _)); refine blk_put (cs := #[.int .i64 0, .string (⟨#[]⟩ : ByteArray), .int .i64 0, .int .i64 x6_1]) ?_ 0 _ rfl; (with_reducible repeat (first | refine blk_drewN ?_ _ | refine blk_drew ?_ | refine blk_alloc ?_ _)); exact BK121.out) k_ hk)); (case aO => exact (by (with_reducible repeat (first | apply Kd.R_alloc | apply Kd.R_drewN | apply Kd.R_drew)); exact Kd.R_mono (Kd.R_far (p := ⟨gb121, 1, none⟩) (Kd.R_far (p := ⟨gb121, 0, none⟩) (Kd.R_mono HO_5.out (fun k_ hk => (⟨hk, hk⟩ : _ ∧ k_ ≠ gb121))) (fun _ hk => hk.2) (.int .i64 4)) (fun _ hk => hk.2) (.string (a0.extract (x6_1 : Int).toNat ((wrap64 (x6_1 + 2)) : Int).toNat))) (fun _ hk => hk.1))); (case aS => exact (below_size (by repeat (first | (with_reducible first | exact HB.out | apply below_alloc | apply pw_below_drewN | apply below_drew1 | refine below_set ?_ GE121.out) | exact HB.out)))); (case aL => have := LMc100.out; omega); intro v138 w103 ho hb hg hat; rw [← Ny137.out] at ho; have n0_ := Aside0.mk (blk_grown (g := gb121) (o := .cells #[.int .i64 4, .string (a0.extract (x6_1 : Int).toNat ((wrap64 (x6_1 + 2)) : Int).toNat), .int .i64 0, .int .i64 x6_1] 32 (0, 0)) (by (with_reducible repeat (first | refine blk_drewN ?_ _ | refine blk_drew ?_ | refine blk_alloc ?_ _)); refine blk_put (cs := #[.int .i64 4, .string (⟨#[]⟩ : ByteArray), .int .i64 0, .int .i64 x6_1]) ?_ 1 _ rfl; (with_reducible repeat (first | refine blk_drewN ?_ _ | refine blk_drew ?_ | refine blk_alloc ?_ _)); refine blk_put (cs := #[.int .i64 0, .string (⟨#[]⟩ : ByteArray), .int .i64 0, .int .i64 x6_1]) ?_ 0 _ rfl; (with_reducible repeat (first | refine blk_drewN ?_ _ | refine blk_drew ?_ | refine blk_alloc ?_ _)); exact BK121.out) hg (Kd.R_away HO_5.out (fun _ hk => hk))); have n1_ := Aside0.mk (hb); have n2_ := Aside0.mk (ho); clear BK121; clear HB; clear HO_5; have BK121 := n0_; have HB := n1_; have HO139 := n2_; clear n0_ n1_ n2_; clear ho hb hg hat))
                                        go_roundg kj84
                                        case measure => have := HK1.out; have := HJ5.out; have := HJ84.out; omega
                                        case rel => exact ⟨(y137), (wrap64 (x6_1 + 2)), (by first | rfl | (simp; done) | (simp [*]; done)), H', ⟨by have := HK1.out; have := HJ5.out; have := HJ84.out; omega⟩, ⟨by (with_reducible repeat (first | apply Kd.R_alloc | apply Kd.R_drewN | apply Kd.R_drew)); exact Kd.R_mono HO139.out (fun _ hk => trivial)⟩, ⟨by repeat (first | (with_reducible first | exact HB.out | apply below_alloc | apply pw_below_drewN | apply below_drew1 | refine below_set ?_ GE121.out) | exact HB.out)⟩⟩
                                      · rw [if_neg c100] at H
                                        exact absurd H (by simp)
                                    · rw [if_neg c99] at H
                                      exact absurd H (by simp)
                                  · rw [if_neg c98] at H
                                    exact absurd H (by simp)
                                · rw [if_neg c97] at H
                                  exact absurd H (by simp)
                            · replace c93 := Bool.eq_false_iff.mpr c93
                              subst c93
                              have H1 : ((selvageref04_single.f (bt a0 x6_1)).bind fun t140 => (if t140 = true then (if (x5_1.length : Int) ≥ 1500 then (some (([] : List (S32)), 15, x6_1)) else (if 0 ≤ x6_1 then (if x6_1 ≤ (wrap64 (x6_1 + 1)) then (if (wrap64 (x6_1 + 1)) ≤ (a0.size : Int) then (if x5_1.length < 3518437208883 then (selvageref04_Tokens.l0 kj84 a0 (x5_1 ++ [(⟨4, a0.extract (x6_1 : Int).toNat ((wrap64 (x6_1 + 1)) : Int).toNat, 0, x6_1⟩ : S32)]) (wrap64 (x6_1 + 1))) else (none)) else (none)) else (none)) else (none))) else (some (([] : List (S32)), 10, x6_1)))) = some (r1, r2, r3) := by rw [if_neg (show ¬ (false = true) by decide)] at H; exact H
                              clear H
                              have H := H1
                              clear H1
                              replace H := Option.bind_eq_some_iff.mp H
                              obtain ⟨t140, A1040, H⟩ := H
                              replace H : (if t140 = true then (if (x5_1.length : Int) ≥ 1500 then (some (([] : List (S32)), 15, x6_1)) else (if 0 ≤ x6_1 then (if x6_1 ≤ (wrap64 (x6_1 + 1)) then (if (wrap64 (x6_1 + 1)) ≤ (a0.size : Int) then (if x5_1.length < 3518437208883 then (selvageref04_Tokens.l0 kj84 a0 (x5_1 ++ [(⟨4, a0.extract (x6_1 : Int).toNat ((wrap64 (x6_1 + 1)) : Int).toNat, 0, x6_1⟩ : S32)]) (wrap64 (x6_1 + 1))) else (none)) else (none)) else (none)) else (none))) else (some (([] : List (S32)), 10, x6_1))) = some (r1, r2, r3) := H
                              have A104 := Aside0.mk A1040
                              clear A1040
                              by_cases c105 : t140 = true
                              · subst c105
                                have H1 : (if (x5_1.length : Int) ≥ 1500 then (some (([] : List (S32)), 15, x6_1)) else (if 0 ≤ x6_1 then (if x6_1 ≤ (wrap64 (x6_1 + 1)) then (if (wrap64 (x6_1 + 1)) ≤ (a0.size : Int) then (if x5_1.length < 3518437208883 then (selvageref04_Tokens.l0 kj84 a0 (x5_1 ++ [(⟨4, a0.extract (x6_1 : Int).toNat ((wrap64 (x6_1 + 1)) : Int).toNat, 0, x6_1⟩ : S32)]) (wrap64 (x6_1 + 1))) else (none)) else (none)) else (none)) else (none))) = some (r1, r2, r3) := by rw [if_pos rfl] at H; exact H
                                clear H
                                have H := H1
                                clear H1
                                by_cases c106 : (x5_1.length : Int) ≥ 1500
                                · rw [if_pos c106] at H
                                  have c106b0 : decide (1500 ≤ (x5_1.length : Int)) = true := decide_eq_true c106
                                  have c106b1 : decide (1500 ≤ x5_1.length) = true := decide_eq_true (by omega)
                                  clear c106
                                  simp only [Option.some.injEq, Prod.mk.injEq] at H
                                  obtain ⟨rfl, rfl, rfl⟩ := H
                                  go_wp2_with (first | ((with_reducible refine gate_callee (f := 21) rfl ?_); refine goesL_ (some 163) rfl rfl Try.func21 (by kernel_rfl) rfl #[.int .u8 (bt a0 x6_1)] rfl (by (try simp only [List.map_toArray, List.map_cons, List.map_nil]); first | done | rfl | (simp only [List.length_drop, List.length_take]; rfl)) ?_; (with_reducible refine (selvageref04_single.calls (bt a0 x6_1) true _ A104.out).mono ?_); rintro e w' ⟨rfl, ⟨nd, rfl⟩⟩; refine ⟨_, rfl, ?_⟩; (try (rw [drewN_self wc]; generalize hq_ : World.drewN wc _ = wc; have n0_ : Aside0 (Kd.R k32 32 wc w.heap.size (fun k_ => k_ ≠ gb121) u5 x5_1) := ⟨by rw [← hq_]; exact (by (with_reducible repeat (first | apply Kd.R_alloc | apply Kd.R_drewN | apply Kd.R_drew)); exact HO_5.out)⟩; have n1_ : Aside0 (wc.heap[gb121]? = some (.cells #[.int .i64 0, .string (⟨#[]⟩ : ByteArray), .int .i64 0, .int .i64 x6_1] 32 (0, 0))) := ⟨by rw [← hq_]; exact (by (with_reducible repeat (first | refine blk_drewN ?_ _ | refine blk_drew ?_ | refine blk_alloc ?_ _)); exact BK121.out)⟩; have n2_ : Aside0 (Below w.heap.size w wc) := ⟨by rw [← hq_]; exact (by repeat (first | (with_reducible first | exact HB.out | apply below_alloc | apply pw_below_drewN | apply below_drew1 | refine below_set ?_ GE121.out) | exact HB.out))⟩; clear HO_5 BK121 HB hq_; have HO_5 := n0_; have BK121 := n1_; have HB := n2_; clear n0_ n1_ n2_)); have hcz107_0 : wc.cell? ⟨gb121, 0, none⟩ = some (.int .i64 0) := (blk_cell BK121.out 0).trans rfl; have hcz107_1 : wc.cell? ⟨gb121, 1, none⟩ = some (.string (⟨#[]⟩ : ByteArray)) := (blk_cell BK121.out 1).trans rfl; have hcz107_2 : wc.cell? ⟨gb121, 2, none⟩ = some (.int .i64 0) := (blk_cell BK121.out 2).trans rfl; have hcz107_3 : wc.cell? ⟨gb121, 3, none⟩ = some (.int .i64 x6_1) := (blk_cell BK121.out 3).trans rfl; have hfz107_0 := blk_frozen BK121.out 0; have hfz107_1 := blk_frozen BK121.out 1; have hfz107_2 := blk_frozen BK121.out 2; have hfz107_3 := blk_frozen BK121.out 3; obtain ⟨Ao108, co108, eo108⟩ := Kd.R_slice HO_5.out; subst eo108))
                                  go_ret3
                                  exact ⟨_, by first | rfl | (simp [errW_none, errW_some] <;> rfl) | (simp [*, errW_none, errW_some] <;> rfl), by first | exact Kd.R_nil _ _ _ _ _ | exact Kd.N_nil _ _ _ _ _ | exact Kd.V_nil _ _ _ _ _ | exact Kd.Q_nil _ _ _ _ _ | exact Kd.S_nil _ _ _ _ _, by repeat (first | (with_reducible first | exact HB.out | apply below_alloc | apply pw_below_drewN | apply below_drew1 | refine below_set ?_ GE121.out) | exact HB.out)⟩
                                · rw [if_neg c106] at H
                                  have c106b0 : decide (1500 ≤ (x5_1.length : Int)) = false := decide_eq_false c106
                                  have c106b1 : decide (1500 ≤ x5_1.length) = false := decide_eq_false (by omega)
                                  clear c106
                                  by_cases c109 : 0 ≤ x6_1
                                  · rw [if_pos c109] at H
                                    have c109b0 := eq_true c109
                                    have c109b1 : decide (0 ≤ x6_1) = true := decide_eq_true c109
                                    clear c109
                                    by_cases c110 : x6_1 ≤ (wrap64 (x6_1 + 1))
                                    · rw [if_pos c110] at H
                                      have c110b0 := eq_true c110
                                      have c110b1 : decide (x6_1 ≤ (wrap64 (x6_1 + 1))) = true := decide_eq_true c110
                                      by_cases c111 : (wrap64 (x6_1 + 1)) ≤ (a0.size : Int)
                                      · rw [if_pos c111] at H
                                        have c111b0 := eq_true c111
                                        have c111b1 : decide ((wrap64 (x6_1 + 1)) ≤ (a0.size : Int)) = true := decide_eq_true c111
                                        by_cases c112 : x5_1.length < 3518437208883
                                        · rw [if_pos c112] at H
                                          have LMc112 := Aside0.mk c112
                                          clear c112
                                          obtain ⟨y141, hy141⟩ : ∃ y_ : List (S32), y_ = (x5_1 ++ [(⟨4, a0.extract (x6_1 : Int).toNat ((wrap64 (x6_1 + 1)) : Int).toNat, 0, x6_1⟩ : S32)]) := ⟨_, rfl⟩
                                          replace H : (selvageref04_Tokens.l0 kj84 a0 y141 (wrap64 (x6_1 + 1))) = some (r1, r2, r3) := by first | (rw [hy141]; with_reducible exact H) | (have H2_ := (Option.bind_some _ _).symm.trans H; rw [hy141]; with_reducible exact H2_) | (have H2_ := (Option.bind_some _ _).symm.trans H; with_reducible exact H2_) | with_reducible exact H | (rw [hy141]; exact H) | exact H
                                          have Ny141 := Aside0.mk hy141
                                          clear hy141
                                          have H' := Aside0.mk H
                                          clear H
                                          go_wp2_with (first | ((with_reducible refine gate_callee (f := 21) rfl ?_); refine goesL_ (some 163) rfl rfl Try.func21 (by kernel_rfl) rfl #[.int .u8 (bt a0 x6_1)] rfl (by (try simp only [List.map_toArray, List.map_cons, List.map_nil]); first | done | rfl | (simp only [List.length_drop, List.length_take]; rfl)) ?_; (with_reducible refine (selvageref04_single.calls (bt a0 x6_1) true _ A104.out).mono ?_); rintro e w' ⟨rfl, ⟨nd, rfl⟩⟩; refine ⟨_, rfl, ?_⟩; (try (rw [drewN_self wc]; generalize hq_ : World.drewN wc _ = wc; have n0_ : Aside0 (Kd.R k32 32 wc w.heap.size (fun k_ => k_ ≠ gb121) u5 x5_1) := ⟨by rw [← hq_]; exact (by (with_reducible repeat (first | apply Kd.R_alloc | apply Kd.R_drewN | apply Kd.R_drew)); exact HO_5.out)⟩; have n1_ : Aside0 (wc.heap[gb121]? = some (.cells #[.int .i64 0, .string (⟨#[]⟩ : ByteArray), .int .i64 0, .int .i64 x6_1] 32 (0, 0))) := ⟨by rw [← hq_]; exact (by (with_reducible repeat (first | refine blk_drewN ?_ _ | refine blk_drew ?_ | refine blk_alloc ?_ _)); exact BK121.out)⟩; have n2_ : Aside0 (Below w.heap.size w wc) := ⟨by rw [← hq_]; exact (by repeat (first | (with_reducible first | exact HB.out | apply below_alloc | apply pw_below_drewN | apply below_drew1 | refine below_set ?_ GE121.out) | exact HB.out))⟩; clear HO_5 BK121 HB hq_; have HO_5 := n0_; have BK121 := n1_; have HB := n2_; clear n0_ n1_ n2_)); have hcz113_0 : wc.cell? ⟨gb121, 0, none⟩ = some (.int .i64 0) := (blk_cell BK121.out 0).trans rfl; have hcz113_1 : wc.cell? ⟨gb121, 1, none⟩ = some (.string (⟨#[]⟩ : ByteArray)) := (blk_cell BK121.out 1).trans rfl; have hcz113_2 : wc.cell? ⟨gb121, 2, none⟩ = some (.int .i64 0) := (blk_cell BK121.out 2).trans rfl; have hcz113_3 : wc.cell? ⟨gb121, 3, none⟩ = some (.int .i64 x6_1) := (blk_cell BK121.out 3).trans rfl; have hfz113_0 := blk_frozen BK121.out 0; have hfz113_1 := blk_frozen BK121.out 1; have hfz113_2 := blk_frozen BK121.out 2; have hfz113_3 := blk_frozen BK121.out 3; obtain ⟨Ao114, co114, eo114⟩ := Kd.R_slice HO_5.out; subst eo114) | ((with_reducible refine gate_builtin (b := .append) (xs := #[.tmp 176, .tmp 178]) rfl ?_); (try (refine gate_guard (by rfl) ?_; dsimp only)); at_builtin; refine Kd.R_append k32 (w0 := w) w.heap.size rfl (.tmp 176) (.tmp 178) 23 32 (.agg #[(.int .i64 0), (.string ⟨#[]⟩), (.int .i64 0), (.int .i64 0)]) 40 rfl Try.underlying23 info32 rfl (by decide) (by omega) (.slice Ao114 x5_1.length co114) x5_1 (⟨4, a0.extract (x6_1 : Int).toNat ((wrap64 (x6_1 + 1)) : Int).toNat, 0, x6_1⟩ : S32) [.int .i64 4, .string (a0.extract (x6_1 : Int).toNat ((wrap64 (x6_1 + 1)) : Int).toNat), .int .i64 0, .int .i64 x6_1] (fun k_ => k_ ≠ gb121) (fun _ => False) rfl (by first | (go_simp; done) | (go_simp; rfl)) ?aP (fun _ hk => hk.elim) ?aF ?aO ?aB ?aS ?aL ?_; (case aP => exact k32_mkM _ _ _ (⟨4, a0.extract (x6_1 : Int).toNat ((wrap64 (x6_1 + 1)) : Int).toNat, 0, x6_1⟩ : S32)); (case aB => exact (by repeat (first | (with_reducible first | exact HB.out | apply below_alloc | apply pw_below_drewN | apply below_drew1 | refine below_set ?_ GE121.out) | exact HB.out))); (case aF => exact (fun k_ hk => Kd.freshB (g := gb121) (o := .cells #[.int .i64 4, .string (a0.extract (x6_1 : Int).toNat ((wrap64 (x6_1 + 1)) : Int).toNat), .int .i64 0, .int .i64 x6_1] 32 (0, 0)) (by (with_reducible repeat (first | refine blk_drewN ?_ _ | refine blk_drew ?_ | refine blk_alloc ?_ _)); refine blk_put (cs := #[.int .i64 4, .string (⟨#[]⟩ : ByteArray), .int .i64 0, .int .i64 x6_1]) ?_ 1 _ rfl; (with_reducible repeat (first | refine blk_drewN ?_ _ | refine blk_drew ?_ | refine blk_alloc ?_ _)); refine blk_put (cs := #[.int .i64 0, .string (⟨#[]⟩ : ByteArray), .int .i64 0, .int .i64 x6_1]) ?_ 0 _ rfl; (with_reducible repeat (first | refine blk_drewN ?_ _ | refine blk_drew ?_ | refine blk_alloc ?_ _)); exact BK121.out) k_ hk)); (case aO => exact (by (with_reducible repeat (first | apply Kd.R_alloc | apply Kd.R_drewN | apply Kd.R_drew)); exact Kd.R_mono (Kd.R_far (p := ⟨gb121, 1, none⟩) (Kd.R_far (p := ⟨gb121, 0, none⟩) (Kd.R_mono HO_5.out (fun k_ hk => (⟨hk, hk⟩ : _ ∧ k_ ≠ gb121))) (fun _ hk => hk.2) (.int .i64 4)) (fun _ hk => hk.2) (.string (a0.extract (x6_1 : Int).toNat ((wrap64 (x6_1 + 1)) : Int).toNat))) (fun _ hk => hk.1))); (case aS => exact (below_size (by repeat (first | (with_reducible first | exact HB.out | apply below_alloc | apply pw_below_drewN | apply below_drew1 | refine below_set ?_ GE121.out) | exact HB.out)))); (case aL => have := LMc112.out; omega); intro v142 w115 ho hb hg hat; rw [← Ny141.out] at ho; have n0_ := Aside0.mk (blk_grown (g := gb121) (o := .cells #[.int .i64 4, .string (a0.extract (x6_1 : Int).toNat ((wrap64 (x6_1 + 1)) : Int).toNat), .int .i64 0, .int .i64 x6_1] 32 (0, 0)) (by (with_reducible repeat (first | refine blk_drewN ?_ _ | refine blk_drew ?_ | refine blk_alloc ?_ _)); refine blk_put (cs := #[.int .i64 4, .string (⟨#[]⟩ : ByteArray), .int .i64 0, .int .i64 x6_1]) ?_ 1 _ rfl; (with_reducible repeat (first | refine blk_drewN ?_ _ | refine blk_drew ?_ | refine blk_alloc ?_ _)); refine blk_put (cs := #[.int .i64 0, .string (⟨#[]⟩ : ByteArray), .int .i64 0, .int .i64 x6_1]) ?_ 0 _ rfl; (with_reducible repeat (first | refine blk_drewN ?_ _ | refine blk_drew ?_ | refine blk_alloc ?_ _)); exact BK121.out) hg (Kd.R_away HO_5.out (fun _ hk => hk))); have n1_ := Aside0.mk (hb); have n2_ := Aside0.mk (ho); clear BK121; clear HB; clear HO_5; have BK121 := n0_; have HB := n1_; have HO143 := n2_; clear n0_ n1_ n2_; clear ho hb hg hat))
                                          go_roundg kj84
                                          case measure => have := HK1.out; have := HJ5.out; have := HJ84.out; omega
                                          case rel => exact ⟨(y141), (wrap64 (x6_1 + 1)), (by first | rfl | (simp; done) | (simp [*]; done)), H', ⟨by have := HK1.out; have := HJ5.out; have := HJ84.out; omega⟩, ⟨by (with_reducible repeat (first | apply Kd.R_alloc | apply Kd.R_drewN | apply Kd.R_drew)); exact Kd.R_mono HO143.out (fun _ hk => trivial)⟩, ⟨by repeat (first | (with_reducible first | exact HB.out | apply below_alloc | apply pw_below_drewN | apply below_drew1 | refine below_set ?_ GE121.out) | exact HB.out)⟩⟩
                                        · rw [if_neg c112] at H
                                          exact absurd H (by simp)
                                      · rw [if_neg c111] at H
                                        exact absurd H (by simp)
                                    · rw [if_neg c110] at H
                                      exact absurd H (by simp)
                                  · rw [if_neg c109] at H
                                    exact absurd H (by simp)
                              · replace c105 := Bool.eq_false_iff.mpr c105
                                subst c105
                                have H1 : (some (([] : List (S32)), 10, x6_1)) = some (r1, r2, r3) := by rw [if_neg (show ¬ (false = true) by decide)] at H; exact H
                                clear H
                                have H := H1
                                clear H1
                                simp only [Option.some.injEq, Prod.mk.injEq] at H
                                obtain ⟨rfl, rfl, rfl⟩ := H
                                go_wp2_with (first | ((with_reducible refine gate_callee (f := 21) rfl ?_); refine goesL_ (some 163) rfl rfl Try.func21 (by kernel_rfl) rfl #[.int .u8 (bt a0 x6_1)] rfl (by (try simp only [List.map_toArray, List.map_cons, List.map_nil]); first | done | rfl | (simp only [List.length_drop, List.length_take]; rfl)) ?_; (with_reducible refine (selvageref04_single.calls (bt a0 x6_1) false _ A104.out).mono ?_); rintro e w' ⟨rfl, ⟨nd, rfl⟩⟩; refine ⟨_, rfl, ?_⟩))
                                go_ret3
                                exact ⟨_, by first | rfl | (simp [errW_none, errW_some] <;> rfl) | (simp [*, errW_none, errW_some] <;> rfl), by first | exact Kd.R_nil _ _ _ _ _ | exact Kd.N_nil _ _ _ _ _ | exact Kd.V_nil _ _ _ _ _ | exact Kd.Q_nil _ _ _ _ _ | exact Kd.S_nil _ _ _ _ _, by repeat (first | (with_reducible first | exact HB.out | apply below_alloc | apply pw_below_drewN | apply below_drew1 | refine below_set ?_ GE121.out) | exact HB.out)⟩
          · rw [if_neg c4] at H
            exact absurd H (by simp)
        · rw [if_neg c3] at H
          have c3b0 : decide (x6_1 < (a0.size : Int)) = false := decide_eq_false c3
          clear c3
          simp only [Option.some.injEq, Prod.mk.injEq] at H
          obtain ⟨rfl, rfl, rfl⟩ := H
          go_wp2
          go_ret3
          exact ⟨_, by first | rfl | (simp [errW_none, errW_some] <;> rfl) | (simp [*, errW_none, errW_some] <;> rfl), by (with_reducible repeat (first | apply Kd.R_alloc | apply Kd.R_drewN | apply Kd.R_drew)); exact HO_5.out, by repeat (first | (with_reducible first | exact HB.out | apply below_alloc | apply pw_below_drewN | apply below_drew1) | exact HB.out)⟩

end Go.Proofs.Ytepofemoodaknaa.Q
