/- Declarations lie one behind the other: the pure statement of ActTiles, proved over lists and numbers; no further condition. -/
import Derived.Test.YtankmlddfcfkfaaStActTiles
namespace Go.Proofs.Ytankmlddfcfkfaa.Pure
open Go.RowKit Go.Proofs.YtankmlddfcfkfaaW.PrintWords Go.Proofs.YtankmlddfcfkfaaW.PrintLast Go.Proofs.Ytankmlddfcfkfaa.PActTiles Go.Proofs.Ytankmlddfcfkfaa.StActTiles
namespace Tiles
def sz (d : S27) : Nat := if d.f0 = 3 then d.f2.toNat else 1
def loc (d : S27) : S31 := ⟨d.f0 == 2, if d.f0 = 3 then 0 else d.f2⟩
def full (l : List S27) : List S31 := l.flatMap fun d => List.replicate (sz d) (loc d)

theorem size_some (d : S27) : act_size.f d.f0 d.f1 d.f2 d.f3 = some (sz d : Int) := by
  unfold act_size.f sz mx
  split
  · split
    · congr 1; omega
    · congr 1; omega
  · rfl
theorem rd27 {l : List S27} {i : Nat} (h : i < l.length) : rd_T27 l (i : Int) = l[i] := by
  simp [rd_T27, List.getD, List.getElem?_eq_getElem h]
theorem rd31 {l : List S31} {i : Nat} (h : i < l.length) : rd_T31 l (i : Int) = l[i] := by
  simp [rd_T31, List.getD, List.getElem?_eq_getElem h]
theorem wrap_of {x : Int} (h0 : -9223372036854775808 ≤ x) (h1 : x < 9223372036854775808) : wrap64 x = x := by unfold wrap64; omega

theorem full_succ {l : List S27} {i : Nat} (h : i < l.length) : full (l.take (i + 1)) = full (l.take i) ++ List.replicate (sz l[i]) (loc l[i]) := by
  unfold full
  rw [List.take_succ_eq_append_getElem h, List.flatMap_append, List.flatMap_cons, List.flatMap_nil, List.append_nil]

theorem lay_l1 (l : List S27) (x8 x9 : Int) (d : S27) (r : List S31) : ∀ (m : Nat) (out : List S31) (n j : Int), n - j = m → 0 ≤ j → n ≤ 16 → out.length + m ≤ 16 →
    Ev (fun k => act_Layout.l0 k (out ++ List.replicate m (loc d)) l x8 (wrap64 (x9 + 1))) r → Ev (fun k => act_Layout.l1 k out l x8 x9 n j d.f0 d.f1 d.f2 d.f3) r
  | 0, out, n, j, hm, hj, hn, hl, h => by
    refine Ev.step (fun k => ?_) h
    simp only [act_Layout.l1]
    rw [if_neg (by omega)]
    simp
  | m + 1, out, n, j, hm, hj, hn, hl, h => by
    have ih := lay_l1 l x8 x9 d r m (out ++ [loc d]) n (j + 1) (by omega) (by omega) hn (by simp; omega) (by
      refine Ev.congr (fun k => ?_) h
      rw [List.append_assoc]; rfl)
    refine Ev.step (fun k => ?_) ih
    simp only [act_Layout.l1]
    rw [if_pos (by omega), wrap_of (by omega) (by omega)]
    by_cases h3 : d.f0 = 3
    · rw [if_pos h3, if_pos (by omega)]
      simp [loc, h3]
    · rw [if_neg h3, if_pos (by omega)]
      simp [loc, h3]

theorem lay_l0 (l : List S27) (hl : l.length ≤ 4000000000000) : ∀ (m i : Nat), l.length = i + m → Ev (fun k => act_Layout.l0 k ((full (l.take i)).take 16) l (l.length : Int) (i : Int)) ((full l).take 16)
  | 0, i, hm => by
    refine Ev.step (f := fun _ => some ((full l).take 16)) (fun k => ?_) (Ev.now _)
    simp only [act_Layout.l0]
    rw [if_neg (by omega), List.take_of_length_le (l := l) (by omega)]
  | m + 1, i, hm => by
    have hi : i < l.length := by omega
    have ih := lay_l0 l hl m (i + 1) (by omega)
    have hlen : ((full (l.take i)).take 16).length ≤ 16 := by rw [List.length_take]; omega
    have key := lay_l1 l (l.length : Int) (i : Int) l[i] ((full l).take 16) (min (sz l[i]) (16 - ((full (l.take i)).take 16).length)) ((full (l.take i)).take 16) (mn (sz l[i] : Int) (wrap64 (16 - (((full (l.take i)).take 16).length : Int)))) 0
      (by rw [wrap_of (by omega) (by omega)]; unfold mn; split <;> omega) (by omega) (by rw [wrap_of (by omega) (by omega)]; unfold mn; split <;> omega) (by omega) (by
        refine Ev.congr (fun k => ?_) ih
        rw [wrap_of (by omega) (by omega), full_succ hi]
        congr 1
        rw [List.take_append, List.take_replicate]
        congr 2
        rw [List.length_take]
        omega)
    refine Ev.step (fun k => ?_) key
    simp only [act_Layout.l0]
    rw [if_pos (by omega), if_pos (by omega), if_pos (by omega), rd27 hi, size_some]
    rfl

theorem layout (l : List S27) (hl : l.length ≤ 4000000000000) : Ev (fun k => act_Layout.f k l) ((full l).take 16) := by
  have := lay_l0 l hl l.length 0 (by omega)
  exact this

theorem full_len_le (l : List S27) : ∀ (i : Nat), i ≤ l.length → (∀ (k : Nat) (h : k < l.length), k < i → l[k].f2 ≤ 1000) → (full (l.take i)).length ≤ 1000 * i
  | 0, _, _ => by simp [full]
  | i + 1, hi, h => by
    rw [full_succ (by omega)]
    have := full_len_le l i (by omega) (fun k hk hki => h k hk (by omega))
    have h2 := h i (by omega) (by omega)
    have h3 : sz l[i] ≤ 1000 := by unfold sz; split <;> omega
    simp
    omega

theorem place (l : List S27) (i : Nat) (hi : i < l.length) (h16 : l.length ≤ 16) (hn : ∀ (k : Nat) (h : k < l.length), k < i → l[k].f2 ≤ 1000) (hd : ∀ (k : Nat) (h : k < l.length), k < i → l[k].f1.toList ≠ l[i].f1.toList) :
    ∀ (m j : Nat), i = j + m → Ev (fun k => act_Place.l0 k l[i].f1 ((full (l.take j)).length : Int) l (l.length : Int) (j : Int)) (l[i].f0, l[i].f1, l[i].f2, l[i].f3, ((full (l.take i)).length : Int), true)
  | 0, j, hm => by
    obtain rfl : i = j := by omega
    refine Ev.step (f := fun _ => some (l[i].f0, l[i].f1, l[i].f2, l[i].f3, ((full (l.take i)).length : Int), true)) (fun k => ?_) (Ev.now _)
    simp only [act_Place.l0]
    rw [if_pos (by omega), if_pos (by omega), if_pos (by omega), rd27 hi, if_pos rfl]
  | m + 1, j, hm => by
    have ih := place l i hi h16 hn hd m (j + 1) (by omega)
    have hj : j < l.length := by omega
    have hb := full_len_le l (j + 1) (by omega) (fun k hk hkj => hn k hk (by omega))
    have hf := full_succ hj
    rw [hf] at hb
    rw [hf] at ih
    simp only [List.length_append, List.length_replicate] at hb ih
    refine Ev.step (fun k => ?_) ih
    simp only [act_Place.l0]
    rw [if_pos (by omega), if_pos (by omega), if_pos (by omega), rd27 hj, if_neg (hd j hj (by omega)), size_some]
    simp only [Option.bind_some]
    rw [wrap_of (by omega) (by omega), wrap_of (by omega) (by omega)]
    rfl

theorem awake : Ev (fun k => selvagelaw08_awake.f k) true := Ev.of (k := 20) selvagelaw08_awake.mono (by kernel_rfl)

section
variable (l : List S27) (h16 : l.length ≤ 16)
/-- The walk over one declaration's locations. -/
theorem tile_l2 (i : Nat) (hi : i < l.length) (h16 : l.length ≤ 16) (hb : (full (l.take i)).length ≤ 100000) (hs : sz l[i] ≤ 1000)
    (next : Ev (fun k => selvagelaw08_ActTiles.l0 k l ((full l).take 16) (((full (l.take i)).length + sz l[i] : Nat) : Int) ((i + 1 : Nat) : Int)) true) :
    ∀ (m j : Nat), sz l[i] = j + m → Ev (fun k => selvagelaw08_ActTiles.l2 k l ((full l).take 16) ((full (l.take i)).length : Int) (i : Int) (sz l[i] : Int) (j : Int) l[i].f0 l[i].f1 l[i].f2 l[i].f3) true
  | 0, j, hm => by
    refine Ev.step (f := fun k => selvagelaw08_ActTiles.j6 k l ((full l).take 16) ((full (l.take i)).length : Int) (i : Int) (sz l[i] : Int) (j : Int) false l[i].f0 l[i].f1 l[i].f2 l[i].f3) (fun k => ?_) ?_
    · simp only [selvagelaw08_ActTiles.l2]
      rw [if_neg (by omega)]
    · refine Ev.step (fun k => ?_) next
      simp only [selvagelaw08_ActTiles.j6]
      rw [if_neg (by simp), wrap_of (by omega) (by omega), wrap_of (by omega) (by omega)]
      rfl
  | m + 1, j, hm => by
    have ih := tile_l2 i hi h16 hb hs next m (j + 1) (by omega)
    refine Ev.step (f := fun k => selvagelaw08_ActTiles.j6 k l ((full l).take 16) ((full (l.take i)).length : Int) (i : Int) (sz l[i] : Int) (j : Int) (decide ((((full (l.take i)).length + j : Nat) : Int) < (((full l).take 16).length : Int))) l[i].f0 l[i].f1 l[i].f2 l[i].f3) (fun k => ?_) ?_
    · simp only [selvagelaw08_ActTiles.l2]
      rw [if_pos (by omega), wrap_of (by omega) (by omega)]
      rfl
    · by_cases hlt : (full (l.take i)).length + j < ((full l).take 16).length
      · refine Ev.step (fun k => ?_) ih
        have hfull : full l = full (l.take (i + 1)) ++ full (l.drop (i + 1)) := by
          unfold full
          rw [← List.flatMap_append, List.take_append_drop]
        have hget : ((full l).take 16)[(full (l.take i)).length + j] = loc l[i] := by
          rw [List.getElem_take]
          have : (full l)[(full (l.take i)).length + j]? = some (loc l[i]) := by
            rw [hfull, full_succ hi, List.append_assoc, List.getElem?_append_right (by omega), List.getElem?_append_left (by simp; omega), Nat.add_sub_cancel_left, List.getElem?_replicate, if_pos (by omega)]
          rw [List.getElem?_eq_some_iff] at this
          exact this.2
        have hrd : rd_T31 ((full l).take 16) (wrap64 (((full (l.take i)).length : Int) + (j : Int))) = loc l[i] := by
          rw [wrap_of (by omega) (by omega), show ((full (l.take i)).length : Int) + (j : Int) = (((full (l.take i)).length + j : Nat) : Int) by omega, rd31 hlt, hget]
        simp only [selvagelaw08_ActTiles.j6]
        rw [if_pos (by rw [decide_eq_true_eq]; omega), hrd, wrap_of (x := ((full (l.take i)).length : Int) + (j : Int)) (by omega) (by omega), if_pos (by omega), if_pos (by omega), if_neg (by simp [loc]), wrap_of (by omega) (by omega)]
        by_cases h3 : l[i].f0 = 3
        · rw [if_pos h3, if_pos (by simp [loc, h3])]
          rfl
        · rw [if_neg h3, if_pos (by simp [loc, h3])]
          rfl
      · refine Ev.step (fun k => ?_) next
        simp only [selvagelaw08_ActTiles.j6]
        rw [if_neg (by rw [decide_eq_true_eq]; omega), wrap_of (by omega) (by omega), wrap_of (by omega) (by omega)]
        rfl

theorem tile_l1 (i : Nat) (hi : i < l.length) (h16 : l.length ≤ 16) (hn : ∀ (k : Nat) (h : k < l.length), k < i → l[k].f2 ≤ 1000)
    (next : l[i].f2 ≤ 1000 → Ev (fun k => selvagelaw08_ActTiles.l0 k l ((full l).take 16) ((full (l.take (i + 1))).length : Int) ((i + 1 : Nat) : Int)) true) :
    ∀ (m j : Nat), i = j + m → (∀ (k : Nat) (h : k < l.length), k < j → l[k].f1.toList ≠ l[i].f1.toList) → Ev (fun k => selvagelaw08_ActTiles.l1 k l ((full l).take 16) ((full (l.take i)).length : Int) (i : Int) (j : Int)) true
  | m + 1, j, hm, hd => by
    have hj : j < l.length := by omega
    by_cases he : l[j].f1.toList = l[i].f1.toList
    · refine Ev.step (f := fun _ => some true) (fun k => ?_) (Ev.now _)
      simp only [selvagelaw08_ActTiles.l1]
      rw [if_pos (by omega), if_pos (by omega), if_pos (by omega), if_pos (by omega), if_pos (by omega), rd27 hj, rd27 hi, if_pos he]
    · have ih := tile_l1 i hi h16 hn next m (j + 1) (by omega) (fun k hk hkj => by
        by_cases hkj' : k = j
        · subst hkj'; exact he
        · exact hd k hk (by omega))
      refine Ev.step (fun k => ?_) ih
      simp only [selvagelaw08_ActTiles.l1]
      rw [if_pos (by omega), if_pos (by omega), if_pos (by omega), if_pos (by omega), if_pos (by omega), rd27 hj, rd27 hi, if_neg he, wrap_of (by omega) (by omega)]
      rfl
  | 0, j, hm, hd => by
    obtain rfl : i = j := by omega
    have out : ∀ b, (b = false → l[i].f2 ≤ 1000 ∧ 1 ≤ l[i].f0 ∧ l[i].f0 ≤ 3) → Ev (fun k => selvagelaw08_ActTiles.j2 k l ((full l).take 16) ((full (l.take i)).length : Int) (i : Int) b) true := by
      intro b hb
      cases b with
      | true =>
        refine Ev.step (f := fun _ => some true) (fun k => ?_) (Ev.now _)
        simp only [selvagelaw08_ActTiles.j2]
        rw [if_pos trivial]
      | false =>
        obtain ⟨h1, h2, h3⟩ := hb rfl
        have hp := place l i hi h16 hn hd i 0 (by omega)
        have hs : sz l[i] ≤ 1000 := by unfold sz; split <;> omega
        have hbl := full_len_le l i (by omega) hn
        have nx := next h1
        rw [full_succ hi] at nx
        simp only [List.length_append, List.length_replicate] at nx
        have h4 := tile_l2 l i hi h16 (by omega) hs nx (sz l[i]) 0 (by omega)
        have h5 : Ev (fun k => selvagelaw08_ActTiles.j4 k l ((full l).take 16) ((full (l.take i)).length : Int) (i : Int) (sz l[i] : Int) l[i].f0 l[i].f1 l[i].f2 l[i].f3) true :=
          Ev.step (fun k => by simp only [selvagelaw08_ActTiles.j4]; rfl) h4
        have h6 : Ev (fun k => selvagelaw08_ActTiles.j3 k l ((full l).take 16) ((full (l.take i)).length : Int) (i : Int) false l[i].f0 l[i].f1 l[i].f2 l[i].f3) true := by
          refine Ev.step (fun k => ?_) h5
          simp only [selvagelaw08_ActTiles.j3]
          rw [if_neg (by simp)]
          unfold sz mx
          by_cases h3 : l[i].f0 = 3
          · rw [if_pos h3, if_pos h3]
            congr 1
            split <;> omega
          · rw [if_neg h3, if_neg h3]
            rfl
        have h7 := Ev.bind (f := fun k bt140 => (if bt140.2.2.2.2.2 = true then (if (!(bt140.1 == ((rd_T27 l (i : Int)).f0)) || (!(bt140.2.1.toList == (((rd_T27 l (i : Int)).f1).toList)) || (!(bt140.2.2.1 == ((rd_T27 l (i : Int)).f2)) || (!(bt140.2.2.2.1 == ((rd_T27 l (i : Int)).f3)))))) = true then (selvagelaw08_ActTiles.j3 k l ((full l).take 16) ((full (l.take i)).length : Int) (i : Int) true bt140.1 bt140.2.1 bt140.2.2.1 bt140.2.2.2.1) else (selvagelaw08_ActTiles.j3 k l ((full l).take 16) ((full (l.take i)).length : Int) (i : Int) (bt140.2.2.2.2.1 != ((full (l.take i)).length : Int)) bt140.1 bt140.2.1 bt140.2.2.1 bt140.2.2.2.1)) else (selvagelaw08_ActTiles.j3 k l ((full l).take 16) ((full (l.take i)).length : Int) (i : Int) true bt140.1 bt140.2.1 bt140.2.2.1 bt140.2.2.2.1))) (r := true) hp (by
          refine Ev.congr (fun k => ?_) h6
          simp only [rd27 hi]
          simp)
        refine Ev.step (fun k => ?_) h7
        simp only [selvagelaw08_ActTiles.j2]
        rw [if_neg (by simp), if_pos (by omega), if_pos (by omega)]
        simp only [rd27 hi]
        rfl
    by_cases h1 : l[i].f2 > 1000
    · refine Ev.step (fun k => ?_) (out true (by simp))
      simp only [selvagelaw08_ActTiles.l1]
      rw [if_neg (by omega), if_pos (by omega), if_pos (by omega), rd27 hi, if_pos h1]
    · by_cases h2 : l[i].f0 < 1
      · refine Ev.step (fun k => ?_) (out true (by simp))
        simp only [selvagelaw08_ActTiles.l1]
        rw [if_neg (by omega), if_pos (by omega), if_pos (by omega), rd27 hi, if_neg h1, if_pos h2]
      · refine Ev.step (fun k => ?_) (out (decide (l[i].f0 > 3)) (fun h => by simp at h; omega))
        simp only [selvagelaw08_ActTiles.l1]
        rw [if_neg (by omega), if_pos (by omega), if_pos (by omega), rd27 hi, if_neg h1, if_neg h2]

theorem tile_l0 (h16 : l.length ≤ 16) : ∀ (m i : Nat), l.length = i + m → (∀ (k : Nat) (h : k < l.length), k < i → l[k].f2 ≤ 1000) → Ev (fun k => selvagelaw08_ActTiles.l0 k l ((full l).take 16) ((full (l.take i)).length : Int) (i : Int)) true
  | 0, i, hm, hn => by
    refine Ev.step (f := fun _ => some true) (fun k => ?_) (Ev.now _)
    simp only [selvagelaw08_ActTiles.l0]
    rw [if_neg (by omega), List.take_of_length_le (l := l) (by omega), List.length_take]
    congr 1
    unfold mn
    rw [beq_iff_eq]
    split <;> omega
  | m + 1, i, hm, hn => by
    have hi : i < l.length := by omega
    have h1 := tile_l1 l i hi h16 hn (fun h => tile_l0 h16 m (i + 1) (by omega) (fun k hk hki => by
      by_cases hki' : k = i
      · subst hki'; exact h
      · exact hn k hk (by omega))) i 0 (by omega) (fun k _ hk => by omega)
    refine Ev.step (fun k => ?_) h1
    simp only [selvagelaw08_ActTiles.l0]
    rw [if_pos (by omega)]
    rfl
end
end Tiles

theorem ActTiles : StActTiles.Pure := by
  intro l _ hl
  refine Ev.rounds (g := fun k => selvagelaw08_ActTiles.f k l) ?_
  unfold selvagelaw08_ActTiles.f
  refine Ev.bind Tiles.awake ?_
  simp only [if_true]
  by_cases h : (l.length : Int) > 16
  · simp only [if_pos h]
    exact Ev.now _
  · simp only [if_neg h]
    exact Ev.bind (Tiles.layout l (by omega)) (Tiles.tile_l0 l (by omega) l.length 0 (by omega) (fun k _ hk => by omega))
end Go.Proofs.Ytankmlddfcfkfaa.Pure
