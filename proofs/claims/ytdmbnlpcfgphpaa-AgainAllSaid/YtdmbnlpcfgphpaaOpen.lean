/- Reading a row's data into the printed kinds: integers, bools, strings, structs of one-cell fields, slices of these. Plain lemmas; no condition of a row is narrowed by them. -/
import Derived.Test.YtdmbnlpcfgphpaaWWords
import Derived.Deep.Slices
import Derived.Deep.Fields
import Derived.SizedLaws
import Derived.ChangeSame
namespace Go.Proofs.Ytdmbnlpcfgphpaa.Opn
open Go.RowKit Go.ChangeShapes Go.WideShapes Go.Deep Go.Proofs.YtdmbnlpcfgphpaaW.PrintWords
set_option linter.unusedVariables false

/-- Whatever reads as data of type t is a value of the kind d, and good. -/
structure Opn {α : Type} (P : Program) (t : TypeId) (d : Kd α) (good : α → Prop) : Prop where
  sz : P.cellsOf t = d.sz
  opn : ∀ {H : Type} {enc : TypeId × Value → H} {W : World} {base : Nat} {spare : Nat → Bool} {held : Bool} {fuel : Nat} {cs : List Value} {x : DataW H × List MemPlace},
    DataW.trod enc P W base spare held fuel t cs = some x → (∀ n ∈ x.1.weights P t, n ≤ reachBytes) → ∃ a, d.K W a cs ∧ good a

theorem Opn.int {P : Program} {t : TypeId} {k : IntKind} (hu : P.underlying t = some (.int k)) (hc : P.cellsOf t = 1) : Opn P t (Kd.int k) (fun n => (Lit.int k n).wf = true) :=
  ⟨hc, fun h _ => by obtain ⟨n, rfl, _, hw⟩ := DataW.trod_int hu h; exact ⟨n, rfl, hw⟩⟩
theorem Opn.bool {P : Program} {t : TypeId} (hu : P.underlying t = some .bool) (hc : P.cellsOf t = 1) : Opn P t Kd.bool (fun _ => True) :=
  ⟨hc, fun h _ => by obtain ⟨n, rfl, _⟩ := DataW.trod_bool hu h; exact ⟨n, rfl, trivial⟩⟩
theorem Opn.string {P : Program} {t : TypeId} (hu : P.underlying t = some .string) (hc : P.cellsOf t = 1) : Opn P t Kd.string (fun s => s.size ≤ 140737488351232) :=
  ⟨hc, fun h hw => by
    obtain ⟨s, rfl, rfl, _⟩ := DataW.trod_string hu h
    refine ⟨s, rfl, ?_⟩
    have := hw s.data.toList.length (by simp [DataW.weights])
    simpa [reachBytes] using this⟩

/-- The same of a struct's fields, each of one cell, one behind the other. -/
structure OpnF {α : Type} (P : Program) (ts : List TypeId) (d : Kd α) (good : α → Prop) : Prop where
  sz : ts.length = d.sz
  opn : ∀ {H : Type} {enc : TypeId × Value → H} {W : World} {base : Nat} {spare : Nat → Bool} {held : Bool} {fuel : Nat} (cs : List Value) (ys : List (DataW H × List MemPlace)),
    cs.length = ts.length → ys.length = ts.length → (∀ (i : Nat) t v, ts[i]? = some t → cs[i]? = some v → DataW.trod enc P W base spare held fuel t [v] = ys[i]?) →
    (∀ n ∈ DataW.weightsEach P ts (ys.map (·.1)), n ≤ reachBytes) → ∃ a, d.K W a cs ∧ good a

theorem OpnF.one {α : Type} {P : Program} {t : TypeId} {d : Kd α} {good : α → Prop} (h : Opn P t d good) (hc : P.cellsOf t = 1) : OpnF P [t] d good := by
  refine ⟨by rw [← h.sz, hc]; rfl, fun cs ys hcl hyl hi hw => ?_⟩
  match cs, hcl, ys, hyl with
  | [v], _, [y], _ =>
    have h0 := hi 0 t v rfl rfl
    exact h.opn (x := y) h0 (fun n hn => hw n (by simp [DataW.weightsEach, hn]))
theorem OpnF.cons {α β : Type} {P : Program} {t : TypeId} {ts : List TypeId} {d : Kd α} {d' : Kd β} {good : α → Prop} {good' : β → Prop} (h : Opn P t d good) (hc : P.cellsOf t = 1) (hs : OpnF P ts d' good') :
    OpnF P (t :: ts) (Kd.pair d d') (fun x => good x.1 ∧ good' x.2) := by
  refine ⟨?_, fun cs ys hcl hyl hi hw => ?_⟩
  · have h1 := h.sz
    have h2 := hs.sz
    show ts.length + 1 = d.sz + d'.sz
    omega
  match cs, hcl, ys, hyl with
  | v :: cs, hcl, y :: ys, hyl =>
    have h0 := hi 0 t v rfl rfl
    obtain ⟨a, ha, ga⟩ := h.opn (x := y) h0 (fun n hn => hw n (by simp [DataW.weightsEach, hn]))
    obtain ⟨b, hb, gb⟩ := hs.opn cs ys (by simpa using hcl) (by simpa using hyl) (fun i t v ht hv => by simpa using hi (i + 1) t v (by simpa using ht) (by simpa using hv)) (fun n hn => hw n (by simp [DataW.weightsEach, hn]))
    exact ⟨(a, b), ⟨[v], cs, rfl, ha, hb⟩, ga, gb⟩

theorem Opn.struct {α β : Type} {P : Program} {t : TypeId} {fs : Array Field} {d : Kd α} {good : α → Prop} (hu : P.underlying t = some (.struct fs)) (hone : oneCellFields P fs = true) (hC : P.cellsOf t = fs.size)
    {ts : List TypeId} (hts : fs.toList.map (·.type) = ts) (h : OpnF P ts d good) (f : β → α) (g : α → β) (hfg : ∀ a, f (g a) = a) : Opn P t (Kd.iso d f) (fun b => good (f b)) := by
  subst hts
  refine ⟨?_, fun {H enc W base spare held fuel cs x} hx hw => ?_⟩
  · have := h.sz
    show P.cellsOf t = d.sz
    rw [hC]
    simpa using this
  obtain ⟨ys, n, _, rfl, hcl, hyl, hi⟩ := DataW.trod_struct hu hx
  have hw' : ∀ n ∈ DataW.weightsEach P (fs.toList.map (·.type)) (ys.map (·.1)), n ≤ reachBytes := fun n hn => hw n (by simpa [DataW.weights, hu] using hn)
  obtain ⟨a, ha, ga⟩ := h.opn (enc := enc) (W := W) (base := base) (spare := spare) (held := held) (fuel := n) cs ys (by simp [hcl, hC]) (by simp [hyl]) (fun i t v ht hv => by
    have ht' : (fs.toList[i]?).map (·.type) = some t := by simpa using ht
    obtain ⟨fl, hfl, rfl⟩ := Option.map_eq_some_iff.1 ht'
    have hf : fs[i]? = some fl := by simpa using hfl
    obtain ⟨ho, hk⟩ := hone_of hone i fl hf
    have h1 := hi i fl hf
    rw [ho, hk] at h1
    have hil : i < cs.length := (List.getElem?_eq_some_iff.1 hv).1
    have hv' : cs[i] = v := by rw [List.getElem?_eq_getElem hil] at hv; exact Option.some.inj hv
    rw [List.drop_eq_getElem_cons hil, hv'] at h1
    exact h1) hw'
  refine ⟨g a, ?_, ?_⟩
  · show d.K W (f (g a)) cs
    rw [hfg]; exact ha
  · show good (f (g a))
    rw [hfg]; exact ga

theorem weightsAll_mem {H : Type} {P : Program} {e : TypeId} : ∀ {l : List (DataW H)} {x : DataW H}, x ∈ l → ∀ n ∈ x.weights P e, n ∈ DataW.weightsAll P e l
  | y :: l, x, hx, n, hn => by
    rcases List.mem_cons.1 hx with rfl | hx
    · simp [DataW.weightsAll, hn]
    · simp [DataW.weightsAll, weightsAll_mem hx n hn]

theorem choose_upto {α : Type} {Q : Nat → α → Prop} : ∀ (n : Nat), (∀ i, i < n → ∃ a, Q i a) → ∃ l : List α, l.length = n ∧ ∀ (i : Nat) a, l[i]? = some a → Q i a
  | 0, _ => ⟨[], rfl, fun i a h => by simp at h⟩
  | n + 1, h => by
    obtain ⟨l, hl, hq⟩ := choose_upto n (fun i hi => h i (by omega))
    obtain ⟨a, ha⟩ := h n (by omega)
    refine ⟨l ++ [a], by simp [hl], fun i b hb => ?_⟩
    by_cases hi : i < n
    · rw [List.getElem?_append_left (by omega)] at hb
      exact hq i b hb
    · rw [List.getElem?_append_right (by omega)] at hb
      have : i = n := by
        have := (List.getElem?_eq_some_iff.1 hb).1
        simp at this
        omega
      subst this
      simp [hl] at hb
      subst hb
      exact ha

theorem Opn.slice {α : Type} {P : Program} {t e : TypeId} {d : Kd α} {good : α → Prop} (hu : P.underlying t = some (.slice e)) (hc : P.cellsOf t = 1) {B : Nat} (hB : P.bytesOf e = B) (h : Opn P e d good) :
    Opn P t (Kd.slice e d) (fun l => (∀ x ∈ l, good x) ∧ l.length * B ≤ 140737488351232) := by
  refine ⟨hc, fun {H enc W base spare held fuel cs x} hx hw => ?_⟩
  rcases open_slice hu hx with ⟨rfl, rfl⟩ | ⟨a, len, cap, m, n, D, Pl, rfl, hb, hl, hm, hmm, rfl, hi⟩
  · exact ⟨[], ⟨none, 0, rfl, Nat.le_refl _, rfl, by simp, fun h => by simp at h⟩, by simp, by simp⟩
  · have hlm : len ≤ m := by rw [hmm]; split <;> omega
    have hwl : ∀ i, i < len → ∀ n ∈ (D i).weights P e, n ≤ reachBytes := fun i hi' n hn => hw n (by
      simp only [DataW.weights, hu, List.mem_cons, List.mem_append]
      exact .inr (.inl (weightsAll_mem (List.mem_map.2 ⟨i, by simpa using hi', rfl⟩) n hn)))
    have hsz : (len + (m - len)) * B ≤ reachBytes := by
      have := hw ((len + (m - len)) * P.bytesOf e) (by simp [DataW.weights, hu])
      rwa [hB] at this
    obtain ⟨l, hll, hq⟩ := choose_upto (Q := fun i (v : α) => ∃ cs', W.cells? base (a.add (i * P.cellsOf e)) (P.cellsOf e) = some cs' ∧ d.K W v cs' ∧ good v) len (fun i hi' => by
      obtain ⟨cs', hcs, ht⟩ := hi i (by omega)
      obtain ⟨v, hv, gv⟩ := h.opn ht (hwl i hi')
      exact ⟨v, cs', hcs, hv, gv⟩)
    subst hll
    have hB1 : l.length * B ≤ (l.length + (m - l.length)) * B := Nat.mul_le_mul_right _ (by omega)
    refine ⟨l, ⟨some a, cap, rfl, hl, rfl, ?_, fun _ => ⟨a, rfl, fun j p hp => ?_⟩⟩, fun x hx => ?_, ?_⟩
    · simp only [maxLen] at hm
      omega
    · obtain ⟨cs', hcs, hv, _⟩ := hq j p hp
      obtain ⟨_, hcl, hat⟩ := World.cells?_some hcs
      refine ⟨cs', by rw [hcl, h.sz], hv, fun i u hu' => ?_⟩
      have hil : i < cs'.length := (List.getElem?_eq_some_iff.1 hu').1
      rw [← h.sz, ← Go.Deep.add_add, hat i (by omega), hu']
    · obtain ⟨i, hil, rfl⟩ := List.mem_iff_getElem.1 hx
      obtain ⟨_, _, _, g⟩ := hq i _ (List.getElem?_eq_getElem hil)
      exact g
    · have : reachBytes = 140737488351232 := by decide
      omega

/-- An argument. -/
theorem Opn.arg {α : Type} {P : Program} {t : TypeId} {d : Kd α} {good : α → Prop} (O : Opn P t d good) {H : Type} {enc : TypeId × Value → H} {W : World} {base : Nat} {spare : Nat → Bool} {held : Bool} {v : Value} {dd : DataW H} {ps : List MemPlace}
    {ts : List TypeId} {ds : List (DataW H)} {j : Nat} (hsz : (DataW.weightsEach P ts ds).all (· ≤ reachBytes) = true) (ht : ts[j]? = some t) (hd : ds[j]? = some dd) (h : DataW.Trod enc P W base spare held t v dd ps) : ∃ a, d.K W a v.cells.toList ∧ good a := by
  obtain ⟨fuel, hf⟩ := h
  exact O.opn (x := (dd, ps)) hf (fun n hn => by simpa using List.all_eq_true.1 hsz n (DataW.weights_mem_each ht hd n hn))

theorem Opn.arg_slice {α : Type} {P : Program} {t e : TypeId} {d : Kd α} {good : List α → Prop} (O : Opn P t (Kd.slice e d) good) (hu : P.underlying t = some (.slice e)) {H : Type} {enc : TypeId × Value → H} {W : World} {base b0 : Nat} {r : Reach} {spare : Nat → Bool} {held : Bool} {v : Value} {dd : DataW H} {ps : List MemPlace}
    {ts : List TypeId} {ds : List (DataW H)} {j : Nat} (hsz : (DataW.weightsEach P ts ds).all (· ≤ reachBytes) = true) (ht : ts[j]? = some t) (hd : ds[j]? = some dd) (hv : Value.okWide P W r b0 t v) (h : DataW.Trod enc P W base spare held t v dd ps) :
    ∃ A c l, v = .slice A (l : List α).length c ∧ Kd.C d W A l.length l ∧ l.length ≤ c ∧ good l := by
  obtain ⟨a, len, cap, rfl⟩ := okWide_slice hu hv
  obtain ⟨l, ⟨A, c, he, hl, hC⟩, hg⟩ := O.arg hsz ht hd h
  simp [Value.cells] at he
  obtain ⟨rfl, rfl, rfl⟩ := he
  exact ⟨_, _, l, rfl, hC, hl, hg⟩
theorem Opn.arg_agg {α : Type} {P : Program} {t : TypeId} {fs : Array Field} {d : Kd α} {good : α → Prop} (O : Opn P t d good) (hu : P.underlying t = some (.struct fs)) {H : Type} {enc : TypeId × Value → H} {W : World} {base b0 : Nat} {r : Reach} {spare : Nat → Bool} {held : Bool} {v : Value} {dd : DataW H} {ps : List MemPlace}
    {ts : List TypeId} {ds : List (DataW H)} {j : Nat} (hsz : (DataW.weightsEach P ts ds).all (· ≤ reachBytes) = true) (ht : ts[j]? = some t) (hd : ds[j]? = some dd) (hv : Value.okWide P W r b0 t v) (h : DataW.Trod enc P W base spare held t v dd ps) :
    ∃ a cs, v = .agg cs ∧ d.K W a cs.toList ∧ good a := by
  obtain ⟨cs, rfl, _⟩ := okWide_struct hu hv
  obtain ⟨a, ha, hg⟩ := O.arg hsz ht hd h
  exact ⟨a, cs, rfl, ha, hg⟩
theorem Opn.arg_int {P : Program} {t : TypeId} {k : IntKind} (hu : P.underlying t = some (.int k)) {H : Type} {enc : TypeId × Value → H} {W : World} {base b0 : Nat} {r : Reach} {spare : Nat → Bool} {held : Bool} {v : Value} {dd : DataW H} {ps : List MemPlace}
    (hv : Value.okWide P W r b0 t v) (h : DataW.Trod enc P W base spare held t v dd ps) : ∃ n, v = .int k n ∧ (Lit.int k n).wf = true := by
  obtain ⟨n, rfl, _, _, hw⟩ := open_int hu hv h
  exact ⟨n, rfl, hw⟩
theorem Opn.arg_str {P : Program} {t : TypeId} (hu : P.underlying t = some .string) {H : Type} {enc : TypeId × Value → H} {W : World} {base b0 : Nat} {r : Reach} {spare : Nat → Bool} {held : Bool} {v : Value} {dd : DataW H} {ps : List MemPlace}
    {ts : List TypeId} {ds : List (DataW H)} {j : Nat} (hsz : (DataW.weightsEach P ts ds).all (· ≤ reachBytes) = true) (ht : ts[j]? = some t) (hd : ds[j]? = some dd) (hv : Value.okWide P W r b0 t v) (h : DataW.Trod enc P W base spare held t v dd ps) :
    ∃ s, v = .string s ∧ s.size ≤ 140737488351232 := by
  obtain ⟨s, rfl⟩ := okWide_string hu hv
  obtain ⟨fuel, hf⟩ := h
  obtain ⟨s', hc, hx, _⟩ := DataW.trod_string hu hf
  simp [Value.cells] at hc
  subst hc
  simp only [Prod.mk.injEq] at hx
  obtain ⟨rfl, rfl⟩ := hx
  refine ⟨s, rfl, ?_⟩
  have := sized_string hsz ht hd
  simpa [reachBytes] using this
end Go.Proofs.Ytdmbnlpcfgphpaa.Opn
