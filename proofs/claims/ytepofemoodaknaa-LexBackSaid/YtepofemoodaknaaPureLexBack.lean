/- Words that are written with something between are read as they were: the pure statement of LexBack, proved; no further condition. -/
import Derived.Test.YtepofemoodaknaaQx25
import Derived.Test.YtepofemoodaknaaAwake
namespace Go.Proofs.Ytepofemoodaknaa.Pure
open Go.RowKit Go.Proofs.Ytepofemoodaknaa.Q Go.Proofs.YtepofemoodaknaaW.PrintWords Go.Proofs.YtepofemoodaknaaW.PrintLast Go.Proofs.Ytepofemoodaknaa
namespace Back
theorem rd32 {l : List S32} {i : Nat} (h : i < l.length) : rd_T32 l (i : Int) = l[i] := by
  simp [rd_T32, List.getD, List.getElem?_eq_getElem h]
def sepB (b : Int) : ByteArray := if Int.tmod b 4 = 0 then ⟨#[32]⟩ else if Int.tmod b 4 = 1 then ⟨#[10, 9]⟩ else if Int.tmod b 4 = 2 then ⟨#[35, 32, 108, 101, 116, 32, 40, 32, 48, 49, 10]⟩ else ⟨#[13, 32, 32]⟩
def sep (b : Int) : List UInt8 := (sepB b).data.toList
theorem sep_is (b : Int) : sep b = [32] ∨ sep b = [10, 9] ∨ sep b = [35, 32, 108, 101, 116, 32, 40, 32, 48, 49, 10] ∨ sep b = [13, 32, 32] := by
  unfold sep sepB
  split
  · exact .inl rfl
  · split
    · exact .inr (.inl rfl)
    · split
      · exact .inr (.inr (.inl rfl))
      · exact .inr (.inr (.inr rfl))
theorem sep_blank (b : Int) (r : List UInt8) : Lex.blankLen false (sep b ++ r) = (sep b).length + Lex.blankLen false r := by
  rcases sep_is b with h | h | h | h <;> rw [h] <;> simp [Lex.blankLen, Lex.isBlank] <;> omega
theorem sep_quiet (b : Int) (r : List UInt8) : F.Quiet (sep b ++ r) := by
  rcases sep_is b with h | h | h | h <;> rw [h] <;> refine ⟨by rfl, fun c hc => ?_⟩ <;> simp at hc <;> subst hc <;> decide
def at_ (bl : List Int) (j : Nat) : Int := if j < bl.length then rd bl (j : Int) else 0
def cat (bl : List Int) : Nat → List S32 → List UInt8
  | _, [] => []
  | j, t :: ts => sep (at_ bl j) ++ (t.f1.data.toList ++ cat bl (j + 1) ts)
theorem cat_quiet (bl : List Int) (j : Nat) (ts : List S32) : F.Quiet (cat bl j ts) := by
  match ts with
  | [] => exact F.quiet_nil
  | t :: ts => exact sep_quiet _ _
def Alike : List S32 → List S32 → Prop
  | [], [] => True
  | a :: as_, b :: bs => b.f0 = a.f0 ∧ b.f1.toList = a.f1.toList ∧ b.f2 = a.f2 ∧ Alike as_ bs
  | _, _ => False
theorem alike_len : ∀ {a b : List S32}, Alike a b → b.length = a.length
  | [], [], _ => rfl
  | _ :: as_, _ :: bs, h => by simp [alike_len h.2.2.2]
theorem alike_get : ∀ {a b : List S32}, Alike a b → ∀ (i : Nat) (ha : i < a.length) (hb : i < b.length), b[i].f0 = a[i].f0 ∧ b[i].f1.toList = a[i].f1.toList ∧ b[i].f2 = a[i].f2
  | _ :: _, _ :: _, h, 0, _, _ => ⟨h.1, h.2.1, h.2.2.1⟩
  | _ :: as_, _ :: bs, h, i + 1, ha, hb => by
    simp only [List.getElem_cons_succ]
    exact alike_get h.2.2.2 i (by simpa using ha) (by simpa using hb)
theorem chain_back (s X : ByteArray) (bl : List Int) : ∀ (ts : List S32) (e0 j : Nat) (pre : List UInt8), F.Chain s e0 ts → X.data.toList = pre ++ cat bl j ts → ∃ ts', F.Chain X pre.length ts' ∧ Alike ts ts'
  | [], e0, j, pre, _, hX => by
    refine ⟨[], ?_, trivial⟩
    show X.size ≤ F.start X pre.length
    have h1 := F.start_ge X pre.length
    have h2 := congrArg List.length hX
    rw [Lex.toList_length] at h2
    simp [cat] at h2
    omega
  | t :: ts, e0, j, pre, hc, hX => by
    obtain ⟨k, n, v, ht, rfl, hc⟩ := hc
    have hp := F.tok_pos ht
    have hw : (s.extract (F.start s e0) (F.start s e0 + n)).data.toList = (s.data.toList.drop (F.start s e0)).take n := by
      rw [Lex.extract_list, List.drop_take]
      congr 1
      omega
    have hX2 : X.data.toList = pre ++ (sep (at_ bl j) ++ ((s.data.toList.drop (F.start s e0)).take n ++ cat bl (j + 1) ts)) := by rw [hX, cat, hw]
    have hwl : ((s.data.toList.drop (F.start s e0)).take n).length = n := by rw [List.length_take, List.length_drop, Lex.toList_length]; omega
    have htl := F.tok_local ht (r := cat bl (j + 1) ts) (.inr (cat_quiet _ _ _))
    have hd1 : X.data.toList.drop pre.length = sep (at_ bl j) ++ ((s.data.toList.drop (F.start s e0)).take n ++ cat bl (j + 1) ts) := by rw [hX2]; simp
    have hst : F.start X pre.length = (pre ++ sep (at_ bl j)).length := by
      unfold F.start
      rw [hd1, sep_blank, F.tok_blank htl]
      simp
    have hX3 : X.data.toList = (pre ++ sep (at_ bl j)) ++ ((s.data.toList.drop (F.start s e0)).take n ++ cat bl (j + 1) ts) := by rw [hX2, List.append_assoc]
    have hd2 : X.data.toList.drop (F.start X pre.length) = (s.data.toList.drop (F.start s e0)).take n ++ cat bl (j + 1) ts := by rw [hst, hX3]; simp
    have hX4 : X.data.toList = (pre ++ sep (at_ bl j) ++ (s.data.toList.drop (F.start s e0)).take n) ++ cat bl (j + 1) ts := by rw [hX3]; simp
    obtain ⟨ts', h1, h2⟩ := chain_back s X bl ts _ (j + 1) _ hc hX4
    have hlen : (pre ++ sep (at_ bl j) ++ (s.data.toList.drop (F.start s e0)).take n).length = F.start X pre.length + n := by rw [List.length_append, hwl, hst]
    rw [hlen] at h1
    refine ⟨⟨k, X.extract (F.start X pre.length) (F.start X pre.length + n), v, (F.start X pre.length : Int)⟩ :: ts', ⟨k, n, v, by rw [hd2]; exact htl, rfl, h1⟩, rfl, ?_, rfl, h2⟩
    show (X.extract (F.start X pre.length) (F.start X pre.length + n)).toList = (s.extract (F.start s e0) (F.start s e0 + n)).toList
    rw [Lex.toList_eq, Lex.toList_eq, hw, Lex.extract_list, List.drop_take, hd2]
    have : F.start X pre.length + n - F.start X pre.length = n := by omega
    rw [this, List.take_append_of_le_length (by omega), List.take_of_length_le (by omega)]
theorem cat_snoc (bl : List Int) {L : List S32} {j : Nat} (h : j < L.length) : cat bl j (L.drop j) = sep (at_ bl j) ++ (L[j].f1.data.toList ++ cat bl (j + 1) (L.drop (j + 1))) := by
  rw [List.drop_eq_getElem_cons h, cat]
theorem sepB_size (b : Int) : (sepB b).size ≤ 11 := by
  unfold sepB
  split
  · decide
  · split
    · decide
    · split <;> decide
theorem app_list (a b : ByteArray) : (a ++ b).data.toList = a.data.toList ++ b.data.toList := by simp
theorem build (bl : List Int) (L : List S32) (hL : L.length ≤ 200) (hsz : ∀ (i : Nat) (h : i < L.length), L[i].f1.size ≤ 8192)
    (fin : ∀ X : ByteArray, X.data.toList = cat bl 0 L → X.size ≤ 8203 * L.length → Ev (fun k => (lex_Tokens.f X).bind fun bt => (if (X.size : Int) > 8192 then (some (bt.2.1 == 15)) else (if bt.2.1 = 0 then (selvagelaw04_LexBack.j3 k L bt.1 ((bt.1.length : Int) != (L.length : Int))) else (selvagelaw04_LexBack.j3 k L bt.1 true)))) true) :
    ∀ (m j : Nat) (x : ByteArray), L.length = j + m → cat bl 0 L = x.data.toList ++ cat bl j (L.drop j) → x.size ≤ 8203 * j → Ev (fun k => selvagelaw04_LexBack.l0 k bl L x (j : Int)) true
  | 0, j, x, hm, hc, hx => by
    have he : L.drop j = [] := List.drop_of_length_le (by omega)
    rw [he, cat, List.append_nil] at hc
    obtain rfl : j = L.length := by omega
    refine Ev.step (fun k => ?_) (fin x hc.symm hx)
    simp only [selvagelaw04_LexBack.l0]
    rw [if_neg (by omega)]
  | m + 1, j, x, hm, hc, hx => by
    have hj : j < L.length := by omega
    have h1 := hsz j hj
    have hb := sepB_size (at_ bl j)
    have hsx : (x ++ sepB (at_ bl j)).size = x.size + (sepB (at_ bl j)).size := ByteArray.size_append
    have hsx2 : ((x ++ sepB (at_ bl j)) ++ L[j].f1).size = x.size + (sepB (at_ bl j)).size + L[j].f1.size := by rw [ByteArray.size_append, hsx]
    have ih := build bl L hL hsz fin m (j + 1) ((x ++ sepB (at_ bl j)) ++ L[j].f1) (by omega) (by
      rw [hc, cat_snoc bl hj, app_list, app_list]
      simp [sep]) (by rw [hsx2]; omega)
    have h2 : Ev (fun k => selvagelaw04_LexBack.j2 k bl L x (j : Int) (at_ bl j)) true := by
      refine Ev.step (fun k => ?_) ih
      simp only [selvagelaw04_LexBack.j2]
      have w1 : wrap64 ((j : Int) + 1) = ((j + 1 : Nat) : Int) := by rw [wrap_of (by omega) (by omega)]; rfl
      rw [rd32 hj, w1]
      have n1 : (0 : Int) ≤ (j : Int) := by omega
      have n2 : (j : Int) < (L.length : Int) := by omega
      revert hsx hb
      unfold sepB
      by_cases c0 : Int.tmod (at_ bl j) 4 = 0
      · simp only [if_pos c0, if_pos n1, if_pos n2]
        intro hb hsx
        rw [if_pos (by omega), if_pos (by omega)]
      · by_cases c1 : Int.tmod (at_ bl j) 4 = 1
        · simp only [if_neg c0, if_pos c1, if_pos n1, if_pos n2]
          intro hb hsx
          rw [if_pos (by omega), if_pos (by omega)]
        · by_cases c2 : Int.tmod (at_ bl j) 4 = 2
          · simp only [if_neg c0, if_neg c1, if_pos c2, if_pos n1, if_pos n2]
            intro hb hsx
            rw [if_pos (by omega), if_pos (by omega)]
          · simp only [if_neg c0, if_neg c1, if_neg c2, if_pos n1, if_pos n2]
            intro hb hsx
            rw [if_pos (by omega), if_pos (by omega)]
    refine Ev.step (fun k => ?_) h2
    simp only [selvagelaw04_LexBack.l0]
    rw [if_pos (by omega)]
    unfold at_
    by_cases hbl : j < bl.length
    · rw [if_pos (by omega), if_pos (by omega), if_pos hbl]
    · rw [if_neg (by omega), if_neg hbl]
theorem compare (L L' : List S32) (h : Alike L L') (hl : L.length ≤ 200) : ∀ (m i : Nat), L.length = i + m → Ev (fun k => selvagelaw04_LexBack.l1 k L L' (i : Int)) true
  | 0, i, hm => by
    refine Ev.step (f := fun _ => some true) (fun k => ?_) (Ev.now _)
    simp only [selvagelaw04_LexBack.l1]
    rw [if_neg (by omega)]
  | m + 1, i, hm => by
    have ih := compare L L' h hl m (i + 1) (by omega)
    have hle := alike_len h
    obtain ⟨a, b, c⟩ := alike_get h i (by omega) (by omega)
    refine Ev.step (fun k => ?_) ih
    simp only [selvagelaw04_LexBack.l1]
    rw [if_pos (by omega), if_pos (by omega), if_pos (by omega), rd32 (by omega : i < L.length), rd32 (by omega : i < L'.length), if_pos a, if_pos b, if_pos c, wrap_of (by omega) (by omega)]
    rfl
theorem chain_size (s : ByteArray) : ∀ (ts : List S32) (e : Nat), F.Chain s e ts → ∀ (i : Nat) (h : i < ts.length), ts[i].f1.size ≤ s.size
  | t :: ts, e, hc, 0, _ => by
    obtain ⟨k, n, v, ht, rfl, _⟩ := hc
    simp
    omega
  | t :: ts, e, hc, i + 1, h => by
    obtain ⟨k, n, v, ht, rfl, hc⟩ := hc
    simp only [List.getElem_cons_succ]
    exact chain_size s ts _ hc i (by simpa using h)
theorem last (s X : ByteArray) (bl : List Int) (L : List S32) (hL : L.length ≤ 200) (hc : F.Chain s 0 L) (hX : X.data.toList = cat bl 0 L) (hs : X.size ≤ 8203 * L.length) :
    Ev (fun k => (lex_Tokens.f X).bind fun bt => (if (X.size : Int) > 8192 then (some (bt.2.1 == 15)) else (if bt.2.1 = 0 then (selvagelaw04_LexBack.j3 k L bt.1 ((bt.1.length : Int) != (L.length : Int))) else (selvagelaw04_LexBack.j3 k L bt.1 true)))) true := by
  have ht := F.toks_f X (by omega)
  by_cases hb : 8192 < X.size
  · have he : toksAll X = ([], 15, 0) := by unfold toksAll; rw [if_pos hb]
    have hb' : (X.size : Int) > 8192 := by omega
    refine Ev.congr (f := fun _ => some true) (fun k => ?_) (Ev.now _)
    rw [ht, he, Option.bind_some, if_pos hb']
    rfl
  · obtain ⟨L', h1, h2⟩ := chain_back s X bl L 0 0 [] hc (by rw [hX]; rfl)
    have hle := alike_len h2
    have he := F.ok_all (by omega) h1 (by omega)
    have hb' : ¬ (X.size : Int) > 8192 := by omega
    have h3 : Ev (fun k => selvagelaw04_LexBack.j3 k L L' false) true := by
      refine Ev.step (fun k => ?_) (compare L L' h2 hL L.length 0 (by omega))
      simp only [selvagelaw04_LexBack.j3]
      rw [if_neg (by simp)]
      rfl
    refine Ev.congr (fun k => ?_) h3
    have e0 : ((L'.length : Int) != (L.length : Int)) = false := by rw [hle]; simp
    rw [ht, he, Option.bind_some, if_neg hb', if_pos rfl, e0]
end Back
theorem LexBack : selvagelaw04_LexBack.Pure := by
  intro s bl hs _ _ _
  refine Ev.rounds (g := fun k => selvagelaw04_LexBack.f k s bl) ?_
  unfold selvagelaw04_LexBack.f
  refine Ev.bind F.awake ?_
  simp only [if_true, F.toks_f s (by omega), Option.bind_some]
  rcases h : toksAll s with ⟨R, y, x⟩
  simp only
  have out : Ev (fun k => selvagelaw04_LexBack.j0 k bl R true) true := by
    refine Ev.step (f := fun _ => some true) (fun k => ?_) (Ev.now _)
    simp only [selvagelaw04_LexBack.j0]
    rw [if_pos trivial]
  by_cases hy : y = 0
  · subst hy
    simp only [if_true]
    by_cases h0 : (R.length : Int) > 200
    · rw [decide_eq_true h0]
      exact out
    · rw [decide_eq_false h0]
      obtain ⟨h1, h2, h3, rfl⟩ := F.all_ok h
      have hb := Back.build bl R (by omega) (fun i hi => Nat.le_trans (Back.chain_size s R 0 h2 i hi) h1) (fun X hX hsX => Back.last s X bl R (by omega) h2 hX hsX) R.length 0 ⟨#[]⟩ (by omega) (by rfl) (by decide)
      refine Ev.step (fun k => ?_) hb
      simp only [selvagelaw04_LexBack.j0]
      rw [if_neg (by simp)]
      rfl
  · simp only [if_neg hy]
    exact out
end Go.Proofs.Ytepofemoodaknaa.Pure
