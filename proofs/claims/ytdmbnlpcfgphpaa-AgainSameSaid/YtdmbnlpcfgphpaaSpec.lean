/- Is code right? In plain words; and the words of a whole store. -/
import Derived.Test.YtdmbnlpcfgphpaaAbove
import Derived.Laws.CopyOwn
namespace Go.Proofs.Ytdmbnlpcfgphpaa.Q
open Go.RowKit Go.Maps Go.Proofs.YtdmbnlpcfgphpaaW.PrintWords Go.Proofs.YtdmbnlpcfgphpaaW.PrintLast Go.Proofs.YtdmbnlpcfgphpaaW.PrintMore
set_option linter.unusedVariables false
set_option linter.unusedSimpArgs false
section
variable {P : Program} {ops : Array Oper} {rest : List Oper} {o : Oper} {a : Act} {Q : Exit → Act → World → Prop}
/-- A whole value is laid into a block of its own. -/
theorem store_whole {w0 W : World} {base g : Nat} {t ty : TypeId} {old cells : Array Value} (hgd : o.guard = none) (hN : o.dst = none) (p x : Operand) (ho : o.op = .store ty p x) (hb : W.heap[g]? = some (.cells old t (0, 0)))
    (haddr : a.eval p = .pointer (some ⟨g, 0, none⟩)) (hx : a.eval x = .agg cells) (hi : (P.info? ty).map (·.size) = some cells.size) (hs : old.size = cells.size) (h1 : cells.all (·.oneCell') = true) (HB : Below base w0 W) (hbase : base ≤ g)
    (h : ∀ w1, w1.heap[g]? = some (.cells cells t (0, 0)) → W.grownBy w1 (some g) → Below base w0 w1 → wpList P ops Q rest a w1) : wpList P ops Q (o :: rest) a W := by
  refine wpList_plain hgd fun K hK => ?_
  have hrun : (Instr.storeAt ty (.pointer (some ⟨g, 0, none⟩)) (.agg cells)).run P W = .ok () (W.setRow g cells) := by
    simp [Instr.storeAt, Instr.sureAddr, run_storeVar_row W g t ty old cells hb hi hs h1]
  unfold Oper.wp execOp
  simp only [ho, haddr, hx, Sem.run_bind, Sem.run_pure, Result.andThen_ok, hrun]
  show K (a.put o.dst undef) _
  rw [hN]
  refine hK a _ (h _ (setRow_heap W g old cells t (0, 0) hb) ⟨rfl, rfl, rfl, by simp, fun k _ hk => setRow_other W g k cells (fun e => hk (by rw [e]))⟩ (below_setRow HB hbase cells))
end
def ins (code : List S40) (i : Nat) : S40 := code.getD i z40
/-- In how many ways one comes to piece j from the first i pieces. -/
def Wy (code : List S40) : Nat → Int → Int
  | 0, _ => 0
  | i + 1, j => Wy code i j + (if usT (ins code i).f0 && (ins code i).f7 == j then 1 else 0) + (if (ins code i).f0 != 18 && j == (i : Int) + 1 then 1 else 0)
/-- From which piece one comes to piece j last, of the first i ones. -/
def Fm (code : List S40) : Nat → Int → Int
  | 0, _ => 0
  | i + 1, j => if (ins code i).f0 != 18 && j == (i : Int) + 1 then (i : Int) else if usT (ins code i).f0 && (ins code i).f7 == j then (i : Int) else Fm code i j
/-- Which of the first i pieces makes a temp. -/
def Md (code : List S40) : Nat → Int → Option Int
  | 0, _ => none
  | i + 1, t => if usD (ins code i).f0 && t == (ins code i).f1 then some (i : Int) else Md code i t
def wl (code : List S40) (n i : Nat) : List Int := (List.range n).map fun j : Nat => Wy code i (j : Int)
def fl (code : List S40) (n i : Nat) : List Int := (List.range n).map fun j : Nat => Fm code i (j : Int)
def chk (code : List S40) (l : List S80) (n i : Nat) : Bool :=
  okO (ins code i).f0 && tmp (usD (ins code i).f0) (ins code i).f1 && tmp (usA (ins code i).f0) (ins code i).f2 && tmp (usB (ins code i).f0) (ins code i).f3 && (usK (ins code i).f0 || (ins code i).f6 == 0) && plc (ins code i) l
    && (if usT (ins code i).f0 then decide ((i : Int) + 1 < (ins code i).f7) && decide ((ins code i).f7 < (n : Int)) else (ins code i).f7 == 0) && !(usD (ins code i).f0 && (Md code i (ins code i).f1).isSome)
def chk2 (code : List S40) (n i : Nat) : Bool :=
  (i == 0 || Wy code n (i : Int) == 1) && (!usA (ins code i).f0 || aboveOf (Md code n) (fl code n n) (ins code i).f2 i) && (!usB (ins code i).f0 || aboveOf (Md code n) (fl code n n) (ins code i).f3 i)
def right (code : List S40) (l : List S80) : Bool :=
  decide (1 ≤ code.length) && decide (code.length ≤ 400) && (ins code (code.length - 1)).f0 == 18 && ((List.range code.length).all (chk code l code.length)) && ((List.range code.length).all (chk2 code code.length))
theorem wl_len (code n i) : (wl code n i).length = n := by simp [wl]
theorem fl_len (code n i) : (fl code n i).length = n := by simp [fl]
theorem wl_zero (code : List S40) (n : Nat) : wl code n 0 = List.replicate n 0 := by
  apply List.ext_getElem <;> simp [wl, Wy]
theorem fl_zero (code : List S40) (n : Nat) : fl code n 0 = List.replicate n 0 := by
  apply List.ext_getElem <;> simp [fl, Fm]
theorem rd_wl (code : List S40) (n i : Nat) (j : Int) (h0 : 0 ≤ j) (h1 : j < n) : rd (wl code n i) j = Wy code i j := by
  have : j.toNat < n := by omega
  simp [rd, wl, List.getD, this, Int.toNat_of_nonneg h0]
theorem rd_fl (code : List S40) (n i : Nat) (j : Int) (h0 : 0 ≤ j) (h1 : j < n) : rd (fl code n i) j = Fm code i j := by
  have : j.toNat < n := by omega
  simp [rd, fl, List.getD, this, Int.toNat_of_nonneg h0]
theorem rdO_wl (code : List S40) (n i : Nat) (j : Int) (h0 : 0 ≤ j) (h1 : j < n) : rdOf 0 (wl code n i) j = Wy code i j := rd_wl code n i j h0 h1
theorem wy_pos (code : List S40) : ∀ (i : Nat) (j : Int), 0 ≤ Wy code i j ∧ Wy code i j ≤ 2 * i
  | 0, j => by simp [Wy]
  | i + 1, j => by
    have := wy_pos code i j
    simp only [Wy]
    constructor <;> (repeat' split) <;> omega
theorem md_pos (code : List S40) : ∀ (i : Nat) (t v : Int), Md code i t = some v → 0 ≤ v ∧ v < i
  | 0, t, v, h => by simp [Md] at h
  | i + 1, t, v, h => by
    simp only [Md] at h
    split at h
    · cases h; omega
    · have := md_pos code i t v h; omega
theorem fm_lt (code : List S40) : ∀ (i : Nat) (j : Int), (∀ k, k < i → usT (ins code k).f0 = true → (k : Int) + 1 < (ins code k).f7) → 1 ≤ j → 0 ≤ Fm code i j ∧ Fm code i j < j
  | 0, j, _, h => by simp [Fm]; omega
  | i + 1, j, hT, h => by
    have := fm_lt code i j (fun k hk => hT k (by omega)) h
    simp only [Fm]
    split
    · rename_i hc
      simp at hc
      omega
    · split
      · rename_i hc
        simp at hc
        have := hT i (by omega) hc.1
        omega
      · exact this
/-- The stores of a round, in letters. -/
theorem wl_set_t {code : List S40} {n i : Nat} (hn : n ≤ 400) (hT : usT (ins code i).f0 = true) (h0 : 0 ≤ (ins code i).f7) (h1 : (ins code i).f7 < n) (h8 : (ins code i).f0 ≠ 18) (hi : i + 1 < n) (hne : (i : Int) + 1 < (ins code i).f7) :
    ((wl code n i).set (ins code i).f7.toNat (wrap64 (Wy code i (ins code i).f7 + 1))).set (i + 1) (wrap64 (Wy code i ((i : Int) + 1) + 1)) = wl code n (i + 1) := by
  have b1 := wy_pos code i (ins code i).f7
  have b2 := wy_pos code i ((i : Int) + 1)
  rw [wrap_of (by omega) (by omega), wrap_of (by omega) (by omega)]
  apply List.ext_getElem
  · simp [wl]
  intro k hk hk'
  simp only [List.length_set, wl_len] at hk
  simp only [wl, List.getElem_set, List.getElem_map, List.getElem_range, Wy, hT, Bool.true_and]
  by_cases e1 : i + 1 = k
  · subst e1
    have : ¬ (ins code i).f7 = (i : Int) + 1 := by omega
    simp [this, h8]
  · rw [if_neg e1]
    have e1' : ¬ (k : Int) = (i : Int) + 1 := by omega
    by_cases e2 : (ins code i).f7.toNat = k
    · have e3 : (ins code i).f7 = (k : Int) := by omega
      rw [if_pos e2]
      simp [e3, e1']
    · have e3 : ¬ (ins code i).f7 = (k : Int) := by omega
      rw [if_neg e2]
      simp [e3, e1']
theorem wl_set_n {code : List S40} {n i : Nat} (hn : n ≤ 400) (hT : usT (ins code i).f0 = false) (h8 : (ins code i).f0 ≠ 18) (hi : i + 1 < n) :
    (wl code n i).set (i + 1) (wrap64 (Wy code i ((i : Int) + 1) + 1)) = wl code n (i + 1) := by
  have b2 := wy_pos code i ((i : Int) + 1)
  rw [wrap_of (by omega) (by omega)]
  apply List.ext_getElem
  · simp [wl]
  intro k hk hk'
  simp only [wl, List.getElem_set, List.getElem_map, List.getElem_range, Wy, hT, Bool.false_and]
  by_cases e1 : i + 1 = k
  · subst e1
    simp [h8]
  · rw [if_neg e1]
    have e1' : ¬ (k : Int) = (i : Int) + 1 := by omega
    simp [e1']
theorem wl_stop {code : List S40} {n i : Nat} (h8 : (ins code i).f0 = 18) : wl code n i = wl code n (i + 1) := by
  simp [wl, Wy, h8, usT]
theorem fl_set_t {code : List S40} {n i : Nat} (hT : usT (ins code i).f0 = true) (h0 : 0 ≤ (ins code i).f7) (h1 : (ins code i).f7 < n) (h8 : (ins code i).f0 ≠ 18) (hi : i + 1 < n) :
    ((fl code n i).set (ins code i).f7.toNat (i : Int)).set (i + 1) (i : Int) = fl code n (i + 1) := by
  apply List.ext_getElem
  · simp [fl]
  intro k hk hk'
  simp only [fl, List.getElem_set, List.getElem_map, List.getElem_range, Fm, hT, Bool.true_and]
  by_cases e1 : i + 1 = k
  · subst e1
    simp [h8]
  · rw [if_neg e1]
    have e1' : ¬ (k : Int) = (i : Int) + 1 := by omega
    by_cases e2 : (ins code i).f7.toNat = k
    · have e3 : (ins code i).f7 = (k : Int) := by omega
      rw [if_pos e2]
      simp [e3, e1']
    · have e3 : ¬ (ins code i).f7 = (k : Int) := by omega
      rw [if_neg e2]
      simp [e3, e1']
theorem fl_set_n {code : List S40} {n i : Nat} (hT : usT (ins code i).f0 = false) (h8 : (ins code i).f0 ≠ 18) (hi : i + 1 < n) :
    (fl code n i).set (i + 1) (i : Int) = fl code n (i + 1) := by
  apply List.ext_getElem
  · simp [fl]
  intro k hk hk'
  simp only [fl, List.getElem_set, List.getElem_map, List.getElem_range, Fm, hT, Bool.false_and]
  by_cases e1 : i + 1 = k
  · subst e1
    simp [h8]
  · rw [if_neg e1]
    have e1' : ¬ (k : Int) = (i : Int) + 1 := by omega
    simp [e1']
theorem fl_stop {code : List S40} {n i : Nat} (h8 : (ins code i).f0 = 18) : fl code n i = fl code n (i + 1) := by
  simp [fl, Fm, h8, usT]
theorem md_put {code : List S40} {i : Nat} (hD : usD (ins code i).f0 = true) : (fun u => if u = (ins code i).f1 then some (i : Int) else Md code i u) = Md code (i + 1) := by
  funext u
  simp [Md, hD]
theorem md_skip {code : List S40} {i : Nat} (hD : usD (ins code i).f0 = false) : Md code i = Md code (i + 1) := by
  funext u
  simp [Md, hD]
end Go.Proofs.Ytdmbnlpcfgphpaa.Q
