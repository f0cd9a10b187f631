/- The contract of begin: a walker that has gone all ways of right code. -/
import Derived.Test.YtdmbnlpcfgphpaaWalk
namespace Go.Proofs.Ytdmbnlpcfgphpaa.Q
open Go.RowKit Go.Maps Go.Proofs.YtdmbnlpcfgphpaaW.PrintWords Go.Proofs.YtdmbnlpcfgphpaaW.PrintLast Go.Proofs.YtdmbnlpcfgphpaaW.PrintMore
set_option linter.unusedVariables false
set_option linter.unusedSimpArgs false
theorem info4' : (Try.prog.info? 4).map (fun i => (i.zero, i.size, i.bytes)) = some (some (.bool false), 1, 1) := by kernel_rfl
theorem lb_of {code : List S40} {l : List S80} (hR : right code l = true) (hl : l.length ≤ 1000) : Lb code := fun i hi => by
  have h := (right_parts hR).2.2.2.1 i hi
  simp only [chk, Bool.and_eq_true] at h
  have hp : plc (ins code i) l = true := h.1.1.2
  generalize ins code i = x at hp
  unfold plc at hp
  cases hP : usP x.f0 <;> rw [hP] at hp
  · simp at hp; omega
  · cases hr : usR x.f0 <;> rw [hr] at hp <;> simp at hp <;> omega
/-- What begin gives back of right code. -/
def BegEnd (w : World) (A : Option Addr) (c : Nat) (code : List S40) (e : Ending) (w' : World) : Prop :=
  ∃ b gs cs gm km, e = .returned (.tuple #[.pointer (some ⟨b, 0, none⟩), .int .i64 0]) ∧ km ≤ 400 ∧ Wk w w' A code.length c b gs cs gm km (spL code) (Mg code)
theorem Wk.born {w W1 : World} {A : Option Addr} {n c gs cp : Nat} (hv : Kd.bool.R 4 W1 w.heap.size (fun _ => True) (.slice (some ⟨gs, 0, none⟩) n cp) (List.replicate n false)) (hb : w.heap.size ≤ gs) (hl : gs < W1.heap.size) (hB : Below w.heap.size w W1) :
    Wk w ((W1.alloc (.map #[] 0)).alloc (.cells #[.slice A n c, .slice (some ⟨gs, 0, none⟩) n cp, .map (some W1.heap.size)] 85)) A n c (W1.heap.size + 1) gs cp W1.heap.size 0 (List.replicate n false) (fun _ => none) := by
  have s2 : (W1.alloc (.map #[] 0)).heap.size = W1.heap.size + 1 := by simp
  have b2 : Below W1.heap.size W1 (W1.alloc (.map #[] 0)) := below_alloc (Below.refl _ _) _
  have m2 := MapI.made W1
  have hsz := hB.size
  generalize W1.alloc (.map #[] 0) = W2 at *
  have b3 : Below W2.heap.size W2 (W2.alloc (.cells #[.slice A n c, .slice (some ⟨gs, 0, none⟩) n cp, .map (some W1.heap.size)] 85)) := below_alloc (Below.refl _ _) _
  refine ⟨below_step (below_step hB b2) b3, ?_, Kd.R_below (Kd.R_below (Kd.R_mono (Kd.R_tight rfl hv) ?_) b2) b3, m2.below b3, by omega, hb, by omega, ?_, by omega, by omega, by omega⟩
  · rw [← s2]; exact blk_new W2 _
  · intro q hq; simpa [Value.ownBlock] using hq
  · have := b3.size; omega
/-- The walk from the first piece on. -/
theorem walk_root {w W W0 : World} {A : Option Addr} {c : Nat} {code : List S40} (t : Tr code) (hL : Lb code) (hr : Kd.C k40 w A code.length code) (hc : code.length ≤ c) {b gs cs gm gk : Nat} (S : Wk w W0 A code.length c b gs cs gm 0 (List.replicate code.length false) (fun _ => none)) (hW : W = W0.alloc (.map #[] 0)) (hk : gk = W0.heap.size) :
    Calls Try.prog 50 #[.pointer (some ⟨b, 0, none⟩), .int .i64 0, .map (some gk)] W fun e W' => e = .returned (.tuple #[]) ∧ ∃ km, km ≤ 400 ∧ Wk w W' A code.length c b gs cs gm km (spL code) (Mg code) := by
  subst hW hk
  have h1 := t.n1
  have h4 := t.n4
  have h2 := cn_root t
  have h := walk_any t hL hr hc code.length 0 _ b gs cs gm 0 _ _ W0.heap.size 0 (fun _ => none) (by omega) (by omega) (S.alloc (.map #[] 0)) (MapI.made W0) S.HB.size (by have := S.ls; omega) (by have := S.lm; omega) (by have := S.lb; omega) bd_none bd_none (by omega) (by omega)
  rw [show wy code 0 (fun _ => none) (List.replicate code.length false, fun _ => none) = (spL code, Mg code) from wlk_all t] at h
  exact h.mono fun e W' ⟨he, ⟨km, hk, hs⟩, _⟩ => ⟨he, km, by omega, hs⟩
set_option maxHeartbeats 2000000 in
set_option maxRecDepth 100000 in
theorem begin_wrong (A : Option Addr) (c : Nat) (code : List S40) (Al : Option Addr) (cl : Nat) (l : List S80) (w : World) (hr : Kd.C k40 w A code.length code) (hc : code.length ≤ c) (hrl : Kd.C k80 w Al l.length l) (hcl : l.length ≤ cl) (hl : l.length ≤ 1000) (hR : right code l = false) :
    Calls Try.prog 41 #[.slice A code.length c, .slice Al l.length cl] w fun e w' => e = .returned (.tuple #[.pointer none, .int .i64 3]) ∧ Below w.heap.size w w' := by
  have HC := Aside0.mk hr
  have HL := Aside0.mk hrl
  have HCc := Aside0.mk hc
  have HCl := Aside0.mk hcl
  have HLl := Aside0.mk hl
  clear hr hrl hc hcl hl
  go_enter Try.func41, Try.ntmps41
  go_wp2_with (go_at_call 13; refine (right_any A c code Al cl l _ HC.out HCc.out HL.out HCl.out HLl.out).mono ?_; rintro e w2 ⟨rfl, hb⟩; rw [hR]; have HB := Aside0.mk hb; clear hb)
  go_ret2
  exact ⟨rfl, HB.out⟩
set_option maxHeartbeats 2000000 in
set_option maxRecDepth 100000 in
theorem begin_right (A : Option Addr) (c : Nat) (code : List S40) (Al : Option Addr) (cl : Nat) (l : List S80) (w : World) (hr : Kd.C k40 w A code.length code) (hc : code.length ≤ c) (hrl : Kd.C k80 w Al l.length l) (hcl : l.length ≤ cl) (hl : l.length ≤ 1000) (hR : right code l = true) :
    Calls Try.prog 41 #[.slice A code.length c, .slice Al l.length cl] w (BegEnd w A c code) := by
  have t := tr_of hR
  have hn1 := t.n1
  have hn4 := t.n4
  have HT := Aside0.mk t
  have HLb := Aside0.mk (lb_of hR hl)
  have HC := Aside0.mk hr
  have HL := Aside0.mk hrl
  have HCc := Aside0.mk hc
  have HCl := Aside0.mk hcl
  have HLl := Aside0.mk hl
  have HR := Aside0.mk hR
  clear hr hrl hc hcl hl t hR
  have hmm := @run_makeMap Try.prog
  have hln : (code.length : Int).toNat = code.length := Int.toNat_natCast _
  go_enter Try.func41, Try.ntmps41
  go_wp2_with (first
    | (go_at_call 13; refine (right_any A c code Al cl l _ HC.out HCc.out HL.out HCl.out HLl.out).mono ?_; rintro e w2 ⟨rfl, hb⟩; rw [HR.out]; have HB := Aside0.mk hb; clear hb)
    | ((with_reducible refine gate_ (.makeSlice 48 (.tmp 13) (.tmp 13)) rfl ?_); refine Kd.R_make Kd.bool (w0 := w) w.heap.size 4 rfl (N := 14) rfl 48 _ _ rfl (code.length : Int) rfl rfl Try.underlying48 (.bool false) 1 info4' rfl (by decide) (by decide) false (ok := fun _ => True) (okp := fun _ => True) ?hz (fun _ hk => hk) trivial (by omega) (by omega) ?hb ?hs ?_; (case hz => exact rfl); (case hb => exact HB.out); (case hs => exact HB.out.size); intro v6 W1 hv6 hb6 hg6 hn6; rw [hln] at hv6; obtain ⟨gs, cp, rfl, hgb, hgl, _⟩ := Kd.R_form hv6 (by simp; omega); rw [List.length_replicate] at hv6 ⊢; have S6 := Aside0.mk (Wk.born (A := A) (c := c) hv6 hgb hgl hb6); clear hv6 hb6 hg6 hn6 hgb hgl)
    | (go_at_call 50; refine (walk_root (gk := W1.heap.size + 1 + 1) HT.out HLb.out HC.out HCc.out S6.out rfl (by simp)).mono ?_; rintro e w5 ⟨rfl, km, hkm, hs⟩; have S5 := Aside0.mk hs; have HK5 := Aside0.mk hkm; clear hs hkm))
  go_ret2
  exact ⟨_, gs, cp, _, km, rfl, HK5.out, S5.out⟩
end Go.Proofs.Ytdmbnlpcfgphpaa.Q
