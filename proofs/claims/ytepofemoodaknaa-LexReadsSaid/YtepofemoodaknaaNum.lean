import Derived.Test.YtepofemoodaknaaQx0
import Derived.Lib.Hide
namespace Go.Proofs.Ytepofemoodaknaa.Q
open Go.RowKit Go.Proofs.YtepofemoodaknaaW.PrintWords Go.Proofs.YtepofemoodaknaaW.PrintLast Go.Proofs.YtepofemoodaknaaW.PrintMore Go.Proofs.Ytepofemoodaknaa
theorem isLet_int (c : UInt8) : Lex.isLet c = (decide (97 ≤ (c.toNat : Int)) && decide ((c.toNat : Int) ≤ 122)) := by
  have h1 : (97 ≤ c) = (97 ≤ (c.toNat : Int)) := by rw [UInt8.le_iff_toNat_le]; exact propext ⟨fun h => by have : (97 : UInt8).toNat = 97 := rfl; omega, fun h => by have : (97 : UInt8).toNat = 97 := rfl; omega⟩
  have h2 : (c ≤ 122) = ((c.toNat : Int) ≤ 122) := by rw [UInt8.le_iff_toNat_le]; exact propext ⟨fun h => by have : (122 : UInt8).toNat = 122 := rfl; omega, fun h => by have : (122 : UInt8).toNat = 122 := rfl; omega⟩
  simp only [Lex.isLet, h1, h2]
theorem isDig_int (c : UInt8) : Lex.isDig c = (decide (48 ≤ (c.toNat : Int)) && decide ((c.toNat : Int) ≤ 57)) := by
  have h1 : (48 ≤ c) = (48 ≤ (c.toNat : Int)) := by rw [UInt8.le_iff_toNat_le]; exact propext ⟨fun h => by have : (48 : UInt8).toNat = 48 := rfl; omega, fun h => by have : (48 : UInt8).toNat = 48 := rfl; omega⟩
  have h2 : (c ≤ 57) = ((c.toNat : Int) ≤ 57) := by rw [UInt8.le_iff_toNat_le]; exact propext ⟨fun h => by have : (57 : UInt8).toNat = 57 := rfl; omega, fun h => by have : (57 : UInt8).toNat = 57 := rfl; omega⟩
  simp only [Lex.isDig, h1, h2]
theorem ret_bool {a b : Bool} (h : a = b) : Ending.returned (.bool a) = .returned (.bool b) := by rw [h]
theorem letter_any (c : UInt8) (w : World) : Calls Try.prog 22 #[.int .u8 (c.toNat : Int)] w fun e w' => e = .returned (.bool (Lex.isLet c)) ∧ w = w' := by
  rw [isLet_int]
  generalize (c.toNat : Int) = x
  by_cases a : 97 ≤ x <;> by_cases b : x ≤ 122
  all_goals
    have a' := a
    have b' := b
    go_enter Try.func22, Try.ntmps22
    go_wp2
    try go_ret
    try exact ⟨ret_bool (by simp [a', b']), rfl⟩
theorem digit_any (c : UInt8) (w : World) : Calls Try.prog 26 #[.int .u8 (c.toNat : Int)] w fun e w' => e = .returned (.bool (Lex.isDig c)) ∧ w = w' := by
  rw [isDig_int]
  generalize (c.toNat : Int) = x
  by_cases a : 48 ≤ x <;> by_cases b : x ≤ 57
  all_goals
    have a' := a
    have b' := b
    go_enter Try.func26, Try.ntmps26
    go_wp2
    try go_ret
    try exact ⟨ret_bool (by simp [a', b']), rfl⟩
end Go.Proofs.Ytepofemoodaknaa.Q
