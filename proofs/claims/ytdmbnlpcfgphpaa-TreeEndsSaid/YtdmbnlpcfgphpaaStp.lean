/- What a piece of code does, as a plain function; and the contract of runner.do by it. -/
import Derived.Test.YtdmbnlpcfgphpaaPst
import Derived.Test.YtdmbnlpcfgphpaaDo1
import Derived.Test.YtdmbnlpcfgphpaaDo2
import Derived.Test.YtdmbnlpcfgphpaaDo3
namespace Go.Proofs.Ytdmbnlpcfgphpaa.Q
open Go.RowKit Go.Proofs.YtdmbnlpcfgphpaaW.PrintWords Go.Proofs.YtdmbnlpcfgphpaaW.PrintLast Go.Proofs.YtdmbnlpcfgphpaaW.PrintMore
set_option linter.unusedVariables false
set_option linter.unusedSimpArgs false
theorem do_any {w W : World} {g : Nat} {T : List Int} {Aa : Option Addr} {ca : Nat} {ans : List Int} {vt : Value} {acts : List S47} (S : Rn w W g T Aa ca ans vt acts) (i : Int) (x : S40) (hi : 0 ≤ i) (hi' : i ≤ 1000) (hl : acts.length ≤ 1000) (hok : okO x.f0 = true)
    (hd : 0 ≤ x.f1 ∧ x.f1 < 400) (ha : 0 ≤ x.f2 ∧ x.f2 < 400) (hb : 0 ≤ x.f3 ∧ x.f3 < 400) :
    Calls Try.prog 39 #[.pointer (some ⟨g, 0, none⟩), .int .i64 i, aIns x] W (DoPost w W g vt (stp x i T ans).next (stp x i T ans).fin (stp x i T ans).T (stp x i T ans).ans (acts ++ (stp x i T ans).new)) := by
  obtain ⟨o, d, a, b, loc, len, kk, tt⟩ := x
  obtain ⟨hd0, hd1⟩ := hd
  obtain ⟨ha0, ha1⟩ := ha
  obtain ⟨hb0, hb1⟩ := hb
  dsimp only at hok hd0 hd1 ha0 ha1 hb0 hb1
  have en : acts ++ [] = acts := List.append_nil _
  rcases op_cases hok with rfl | rfl | rfl | rfl | rfl | rfl | rfl | rfl | rfl | rfl | rfl | rfl | rfl | rfl | rfl | rfl | rfl | rfl
  · rw [show stp ⟨1, d, a, b, loc, len, kk, tt⟩ i T ans = stSet ⟨1, d, a, b, loc, len, kk, tt⟩ i T ans kk from rfl]; simp only [stSet, en]; exact do_1 S i d a b loc len kk tt hi hi' hl hd0 hd1 ha0 ha1 hb0 hb1
  · rw [show stp ⟨2, d, a, b, loc, len, kk, tt⟩ i T ans = stSet ⟨2, d, a, b, loc, len, kk, tt⟩ i T ans (wrap64 (rd T a + rd T b)) from rfl]; simp only [stSet, en]; exact do_2 S i d a b loc len kk tt hi hi' hl hd0 hd1 ha0 ha1 hb0 hb1
  · rw [show stp ⟨3, d, a, b, loc, len, kk, tt⟩ i T ans = stSet ⟨3, d, a, b, loc, len, kk, tt⟩ i T ans (wrap64 (rd T a - rd T b)) from rfl]; simp only [stSet, en]; exact do_3 S i d a b loc len kk tt hi hi' hl hd0 hd1 ha0 ha1 hb0 hb1
  · rw [show stp ⟨4, d, a, b, loc, len, kk, tt⟩ i T ans = stSet ⟨4, d, a, b, loc, len, kk, tt⟩ i T ans (wrap64 (rd T a * rd T b)) from rfl]; simp only [stSet, en]; exact do_4 S i d a b loc len kk tt hi hi' hl hd0 hd1 ha0 ha1 hb0 hb1
  · rw [show stp ⟨5, d, a, b, loc, len, kk, tt⟩ i T ans = if rd T b = 0 then stGo 0 2 T ans else stSet ⟨5, d, a, b, loc, len, kk, tt⟩ i T ans (wrap64 ((rd T a).tdiv (rd T b))) from rfl]
    by_cases h : rd T b = 0
    · rw [if_pos h]; simp only [stGo, en]; exact do_5z S i d a b loc len kk tt hi hi' hl hd0 hd1 ha0 ha1 hb0 hb1 h
    · rw [if_neg h]; simp only [stSet, en]; exact do_5 S i d a b loc len kk tt hi hi' hl hd0 hd1 ha0 ha1 hb0 hb1 h
  · rw [show stp ⟨6, d, a, b, loc, len, kk, tt⟩ i T ans = stAsk ⟨6, d, a, b, loc, len, kk, tt⟩ i T ans 1 loc (fun _ => 0) from rfl]
    cases ans with
    | nil => simp only [stAsk, en]; exact do_6n S i d a b loc len kk tt hi hi' hl hd0 hd1 ha0 ha1 hb0 hb1
    | cons n r => simp only [stAsk]; exact do_6 S i d a b loc len kk tt hi hi' hl hd0 hd1 ha0 ha1 hb0 hb1
  · rw [show stp ⟨7, d, a, b, loc, len, kk, tt⟩ i T ans = stTell i T ans 2 loc (rd T a) from rfl]; simp only [stTell]; exact do_7 S i d a b loc len kk tt hi hi' hl hd0 hd1 ha0 ha1 hb0 hb1
  · rw [show stp ⟨8, d, a, b, loc, len, kk, tt⟩ i T ans = stAsk ⟨8, d, a, b, loc, len, kk, tt⟩ i T ans 3 loc (fun _ => 0) from rfl]
    cases ans with
    | nil => simp only [stAsk, en]; exact do_8n S i d a b loc len kk tt hi hi' hl hd0 hd1 ha0 ha1 hb0 hb1
    | cons n r => simp only [stAsk]; exact do_8 S i d a b loc len kk tt hi hi' hl hd0 hd1 ha0 ha1 hb0 hb1
  · rw [show stp ⟨9, d, a, b, loc, len, kk, tt⟩ i T ans = stTell i T ans 4 loc (rd T a) from rfl]; simp only [stTell]; exact do_9 S i d a b loc len kk tt hi hi' hl hd0 hd1 ha0 ha1 hb0 hb1
  · rw [show stp ⟨10, d, a, b, loc, len, kk, tt⟩ i T ans = stAsk ⟨10, d, a, b, loc, len, kk, tt⟩ i T ans 5 loc (fun _ => rd T a) from rfl]
    cases ans with
    | nil => simp only [stAsk, en]; exact do_10n S i d a b loc len kk tt hi hi' hl hd0 hd1 ha0 ha1 hb0 hb1
    | cons n r => simp only [stAsk]; exact do_10 S i d a b loc len kk tt hi hi' hl hd0 hd1 ha0 ha1 hb0 hb1
  · rw [show stp ⟨11, d, a, b, loc, len, kk, tt⟩ i T ans = stAsk ⟨11, d, a, b, loc, len, kk, tt⟩ i T ans 5 loc (fun n => wrap64 (n + rd T a)) from rfl]
    cases ans with
    | nil => simp only [stAsk, en]; exact do_11n S i d a b loc len kk tt hi hi' hl hd0 hd1 ha0 ha1 hb0 hb1
    | cons n r => simp only [stAsk]; rw [← IntWalk.i64_left]; exact do_11 S i d a b loc len kk tt hi hi' hl hd0 hd1 ha0 ha1 hb0 hb1
  · rw [show stp ⟨12, d, a, b, loc, len, kk, tt⟩ i T ans = stCas ⟨12, d, a, b, loc, len, kk, tt⟩ i T ans from rfl]
    cases ans with
    | nil => simp only [stCas, en]; exact do_12n S i d a b loc len kk tt hi hi' hl hd0 hd1 ha0 ha1 hb0 hb1
    | cons n r =>
      simp only [stCas]
      by_cases h : n = rd T a
      · rw [if_pos h]; exact do_12s S i d a b loc len kk tt hi hi' hl hd0 hd1 ha0 ha1 hb0 hb1 h
      · rw [if_neg h]; exact do_12d S i d a b loc len kk tt hi hi' hl hd0 hd1 ha0 ha1 hb0 hb1 h
  · rw [show stp ⟨13, d, a, b, loc, len, kk, tt⟩ i T ans = if outb ⟨13, d, a, b, loc, len, kk, tt⟩ T then stGo 0 3 T ans else stAsk ⟨13, d, a, b, loc, len, kk, tt⟩ i T ans 1 (wrap64 (loc + rd T a)) (fun _ => 0) from rfl]
    by_cases h1 : rd T a < 0
    · rw [if_pos (by simp [outb, h1])]; simp only [stGo, en]; exact do_13l S i d a b loc len kk tt hi hi' hl hd0 hd1 ha0 ha1 hb0 hb1 h1
    by_cases h2 : len ≤ rd T a
    · rw [if_pos (by simp [outb, h2])]; simp only [stGo, en]; exact do_13h S i d a b loc len kk tt hi hi' hl hd0 hd1 ha0 ha1 hb0 hb1 (by omega) h2
    rw [if_neg (by simp [outb, h1, h2])]
    cases ans with
    | nil => simp only [stAsk, en]; exact do_13n S i d a b loc len kk tt hi hi' hl hd0 hd1 ha0 ha1 hb0 hb1 (by omega) (by omega)
    | cons n r => simp only [stAsk]; exact do_13 S i d a b loc len kk tt hi hi' hl hd0 hd1 ha0 ha1 hb0 hb1 (by omega) (by omega)
  · rw [show stp ⟨14, d, a, b, loc, len, kk, tt⟩ i T ans = if outb ⟨14, d, a, b, loc, len, kk, tt⟩ T then stGo 0 3 T ans else stTell i T ans 2 (wrap64 (loc + rd T a)) (rd T b) from rfl]
    by_cases h1 : rd T a < 0
    · rw [if_pos (by simp [outb, h1])]; simp only [stGo, en]; exact do_14l S i d a b loc len kk tt hi hi' hl hd0 hd1 ha0 ha1 hb0 hb1 h1
    by_cases h2 : len ≤ rd T a
    · rw [if_pos (by simp [outb, h2])]; simp only [stGo, en]; exact do_14h S i d a b loc len kk tt hi hi' hl hd0 hd1 ha0 ha1 hb0 hb1 (by omega) h2
    rw [if_neg (by simp [outb, h1, h2])]
    simp only [stTell]; exact do_14 S i d a b loc len kk tt hi hi' hl hd0 hd1 ha0 ha1 hb0 hb1 (by omega) (by omega)
  · rw [show stp ⟨15, d, a, b, loc, len, kk, tt⟩ i T ans = stTell i T ans 6 0 (rd T a) from rfl]; simp only [stTell]; exact do_15 S i d a b loc len kk tt hi hi' hl hd0 hd1 ha0 ha1 hb0 hb1
  · rw [show stp ⟨16, d, a, b, loc, len, kk, tt⟩ i T ans = if rd T a < rd T b then stGo (i + 1) 0 T ans else stGo tt 0 T ans from rfl]
    by_cases h : rd T a < rd T b
    · rw [if_pos h]; simp only [stGo, en]; exact do_16f S i d a b loc len kk tt hi hi' hl hd0 hd1 ha0 ha1 hb0 hb1 h
    · rw [if_neg h]; simp only [stGo, en]; exact do_16t S i d a b loc len kk tt hi hi' hl hd0 hd1 ha0 ha1 hb0 hb1 (by omega)
  · rw [show stp ⟨17, d, a, b, loc, len, kk, tt⟩ i T ans = if rd T a = rd T b then stGo (i + 1) 0 T ans else stGo tt 0 T ans from rfl]
    by_cases h : rd T a = rd T b
    · rw [if_pos h]; simp only [stGo, en]; exact do_17f S i d a b loc len kk tt hi hi' hl hd0 hd1 ha0 ha1 hb0 hb1 h
    · rw [if_neg h]; simp only [stGo, en]; exact do_17t S i d a b loc len kk tt hi hi' hl hd0 hd1 ha0 ha1 hb0 hb1 h
  · rw [show stp ⟨18, d, a, b, loc, len, kk, tt⟩ i T ans = stGo 0 1 T ans from rfl]; simp only [stGo, en]; exact do_18 S i d a b loc len kk tt hi hi' hl hd0 hd1 ha0 ha1 hb0 hb1
end Go.Proofs.Ytdmbnlpcfgphpaa.Q
