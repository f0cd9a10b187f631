/- The contract of again.Spare. -/
import Derived.Test.YtdmbnlpcfgphpaaBeg
namespace Go.Proofs.Ytdmbnlpcfgphpaa.Q
open Go.RowKit Go.Maps Go.Proofs.YtdmbnlpcfgphpaaW.PrintWords Go.Proofs.YtdmbnlpcfgphpaaW.PrintLast Go.Proofs.YtdmbnlpcfgphpaaW.PrintMore
set_option linter.unusedVariables false
set_option linter.unusedSimpArgs false
def agS (code : List S40) (l : List S80) : List Bool × Int := if right code l = true then (spL code, 0) else ([], 3)
set_option maxHeartbeats 2000000 in
set_option maxRecDepth 100000 in
theorem spare_any (A : Option Addr) (c : Nat) (code : List S40) (Al : Option Addr) (cl : Nat) (l : List S80) (w : World) (hr : Kd.C k40 w A code.length code) (hc : code.length ≤ c) (hrl : Kd.C k80 w Al l.length l) (hcl : l.length ≤ cl) (hl : l.length ≤ 1000) :
    Calls Try.prog 25 #[.slice A code.length c, .slice Al l.length cl] w fun e w' => ∃ v, e = .returned (.tuple #[v, .int .i64 (agS code l).2]) ∧ Kd.R Kd.bool 4 w' w.heap.size (fun _ => True) v (agS code l).1 ∧ Below w.heap.size w w' := by
  have HC := Aside0.mk hr
  have HL := Aside0.mk hrl
  have HCc := Aside0.mk hc
  have HCl := Aside0.mk hcl
  have HLl := Aside0.mk hl
  clear hr hrl hc hcl hl
  unfold agS
  cases hR : right code l
  · rw [if_neg (by decide)]
    go_enter Try.func25, Try.ntmps25
    go_wp2_with (go_at_call 41; refine (begin_wrong A c code Al cl l _ HC.out HCc.out HL.out HCl.out HLl.out hR).mono ?_; rintro e w2 ⟨rfl, hb⟩; have HB := Aside0.mk hb; clear hb)
    go_ret2
    exact ⟨_, rfl, Kd.R_nil _ _ _ _ _, HB.out⟩
  · rw [if_pos rfl]
    go_enter Try.func25, Try.ntmps25
    go_wp2_with (go_at_call 41; refine (begin_right A c code Al cl l _ HC.out HCc.out HL.out HCl.out HLl.out hR).mono ?_; rintro e w2 ⟨b, gs, cs, gm, km, rfl, hkm, hs⟩; have S2 := Aside0.mk hs; have b1 := hs.c1; clear hs hkm)
    go_ret2
    exact ⟨_, rfl, Kd.R_mono S2.out.RS (fun _ _ => trivial), S2.out.HB⟩
end Go.Proofs.Ytdmbnlpcfgphpaa.Q
namespace Go.Proofs.YtdmbnlpcfgphpaaW.PrintWords.Kd
open Go.RowKit Go.Proofs.YtdmbnlpcfgphpaaW.PrintWords
/-- A cell of a row of bools. -/
theorem at_bool {w : World} {A : Option Addr} {n : Nat} {xs : List Bool} (h : Kd.bool.C w A n xs) (i : Int) (h0 : 0 ≤ i) (h1 : i < n) : ∃ ad, A = some ad ∧ w.cell? (ad.add i.toNat) = some (.bool (rdOf false xs i)) :=
  ReadsOf.at_ (reads_of_C (enc := Value.bool) (d := false) (h1 := fun _ => rfl) h) i h0 h1
end Go.Proofs.YtdmbnlpcfgphpaaW.PrintWords.Kd
