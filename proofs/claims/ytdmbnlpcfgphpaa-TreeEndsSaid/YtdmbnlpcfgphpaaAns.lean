/- The contract of runner.answer: the answer that is next, if there is one. -/
import Derived.Test.YtdmbnlpcfgphpaaRn
namespace Go.Proofs.Ytdmbnlpcfgphpaa.Q
open Go.RowKit Go.Proofs.YtdmbnlpcfgphpaaW.PrintWords Go.Proofs.YtdmbnlpcfgphpaaW.PrintLast Go.Proofs.YtdmbnlpcfgphpaaW.PrintMore
set_option linter.unusedVariables false
set_option linter.unusedSimpArgs false
theorem answer_nil {w W : World} {g : Nat} {T : List Int} {Aa : Option Addr} {ca : Nat} {vt : Value} {acts : List S47} (S : Rn w W g T Aa ca [] vt acts) :
    Calls Try.prog 52 #[.pointer (some ⟨g, 0, none⟩)] W fun e W' => e = .returned (.tuple #[.int .i64 0, .bool false]) ∧ W' = W := by
  have ha := S.cans
  simp only [List.length_nil] at ha
  have SS := Aside0.mk S
  clear S
  go_enter Try.func52, Try.ntmps52
  go_wp2
  go_ret2
  exact ⟨rfl, rfl⟩
set_option maxHeartbeats 1000000 in
set_option maxRecDepth 100000 in
theorem answer_cons {w W : World} {g : Nat} {T : List Int} {Aa : Option Addr} {ca : Nat} {n : Int} {ans : List Int} {vt : Value} {acts : List S47} (S : Rn w W g T Aa ca (n :: ans) vt acts) :
    Calls Try.prog 52 #[.pointer (some ⟨g, 0, none⟩)] W fun e W' => e = .returned (.tuple #[.int .i64 n, .bool true]) ∧ (∃ Ab, Rn w W' g T Ab (ca - 1) ans vt acts) ∧ KeepBut W W' g none := by
  have ha := S.cans
  have hf := S.frozen 400
  have hl := S.lt
  obtain ⟨ad, ea, hx⟩ := Kd.at_int (Kd.C_below S.RA S.HB) 0 (by omega) (by simp)
  cases ea
  have hx0 : W.cell? ad = some (.int .i64 n) := by simpa [Addr.add, rd] using hx
  clear hx
  have hlen : (n :: ans).length = ans.length + 1 := rfl
  have hca := S.cA
  have q1 : ((0 : Int) < ((n :: ans).length : Int)) = True := eq_true (by rw [hlen]; omega)
  have e1 : (((n :: ans).length : Int) == 0) = false := beq_eq_false_iff_ne.2 (by rw [hlen]; omega)
  obtain ⟨i2, hi2, hs2⟩ : ∃ i, Try.prog.info? 2 = some i ∧ i.size = 1 := ⟨_, rfl, by kernel_rfl⟩
  have hcut := cut_from (P := Try.prog) 24 2 .i64 Try.underlying24 hi2 1 hs2 (some ad) (n :: ans).length ca 1 (by omega) (by rw [hlen]; omega)
  have hdrop := Kd.C_drop (m := 1) (c := ca) S.RA (by rw [hlen]; omega) hca
  simp only [Nat.mul_one, show (Kd.int .i64).sz = 1 from rfl, show (1 : Int).toNat = 1 from rfl, List.drop_succ_cons, List.drop_zero, hlen, Nat.add_sub_cancel] at hcut hdrop
  generalize (if ca = 1 then some ad else (some ad).map fun x => x.add 1) = Ab at hcut hdrop
  have hca' : ans.length ≤ ca - 1 := by rw [hlen] at hca; omega
  have HR := Aside0.mk (S.put_ans hdrop hca')
  have HK : Aside0 (KeepBut W (W.setCell ⟨g, 400, none⟩ (.slice Ab ans.length (ca - 1))) g none) := ⟨(KeepBut.refl _ _ _).set_ _ _⟩
  simp only [hlen] at ha e1 q1
  have SS := Aside0.mk S
  clear S hdrop hca hca' hlen
  go_enter Try.func52, Try.ntmps52
  go_wp2
  go_ret2
  exact ⟨rfl, ⟨_, HR.out⟩, HK.out⟩
end Go.Proofs.Ytdmbnlpcfgphpaa.Q
