-- PRINTED BY print.sh 35421559b90ae4d0a3588c463048766b98c2df88dd9212a6774a882060cdf62d: not written by this session
import Derived.Test.YtankmlddfcfkfaaPActTilesx0
import Derived.Test.YtankmlddfcfkfaaPActTilesx1
import Derived.Test.YtankmlddfcfkfaaPActTilesx3
namespace Go.Proofs.Ytankmlddfcfkfaa.PActTiles
open Go.RowKit Go.Proofs.YtankmlddfcfkfaaW.PrintWords Go.Proofs.YtankmlddfcfkfaaW.PrintLast Go.Proofs.YtankmlddfcfkfaaW.PrintMore
attribute [local go_sem] max2_int min2_int max_two min_two max_three min_three max_four min_four   -- for this text's walks alone
set_option linter.unusedVariables false
set_option linter.unusedSimpArgs false

attribute [local go_sem high] eqA27
/-! ### selvagelaw08_ActTiles: function 3 -/
mutual
def selvagelaw08_ActTiles.l0 : Nat → List (S27) → List (S31) → Int → Int → Option (Bool)
  | 0, _, _, _, _ => none
  | k + 1, x0, x3, x4, x5 => if x5 < (x0.length : Int) then (selvagelaw08_ActTiles.l1 k x0 x3 x4 x5 0) else (some ((x3.length : Int) == (mn x4 16)))
def selvagelaw08_ActTiles.l1 : Nat → List (S27) → List (S31) → Int → Int → Int → Option (Bool)
  | 0, _, _, _, _, _ => none
  | k + 1, x0, x3, x4, x5, x6 => if x6 < x5 then (if 0 ≤ x6 then (if x6 < (x0.length : Int) then (if 0 ≤ x5 then (if x5 < (x0.length : Int) then (if ((rd_T27 x0 x6).f1).toList = ((rd_T27 x0 x5).f1).toList then (some true) else (selvagelaw08_ActTiles.l1 k x0 x3 x4 x5 (wrap64 (x6 + 1)))) else (none)) else (none)) else (none)) else (none)) else (if 0 ≤ x5 then (if x5 < (x0.length : Int) then (if ((rd_T27 x0 x5).f2) > 1000 then (selvagelaw08_ActTiles.j2 k x0 x3 x4 x5 true) else (if ((rd_T27 x0 x5).f0) < 1 then (selvagelaw08_ActTiles.j2 k x0 x3 x4 x5 true) else (selvagelaw08_ActTiles.j2 k x0 x3 x4 x5 (decide (((rd_T27 x0 x5).f0) > 3))))) else (none)) else (none))
def selvagelaw08_ActTiles.j2 : Nat → List (S27) → List (S31) → Int → Int → Bool → Option (Bool)
  | 0, _, _, _, _, _ => none
  | k + 1, x0, x3, x4, x5, x62 => if x62 = true then (some true) else (if 0 ≤ x5 then (if x5 < (x0.length : Int) then ((act_Place.f k x0 ((rd_T27 x0 x5).f1)).bind fun bt140 => (if bt140.2.2.2.2.2 = true then (if (!(bt140.1 == ((rd_T27 x0 x5).f0)) || (!(bt140.2.1.toList == (((rd_T27 x0 x5).f1).toList)) || (!(bt140.2.2.1 == ((rd_T27 x0 x5).f2)) || (!(bt140.2.2.2.1 == ((rd_T27 x0 x5).f3)))))) = true then (selvagelaw08_ActTiles.j3 k x0 x3 x4 x5 true bt140.1 bt140.2.1 bt140.2.2.1 bt140.2.2.2.1) else (selvagelaw08_ActTiles.j3 k x0 x3 x4 x5 (bt140.2.2.2.2.1 != x4) bt140.1 bt140.2.1 bt140.2.2.1 bt140.2.2.2.1)) else (selvagelaw08_ActTiles.j3 k x0 x3 x4 x5 true bt140.1 bt140.2.1 bt140.2.2.1 bt140.2.2.2.1))) else (none)) else (none))
def selvagelaw08_ActTiles.j3 : Nat → List (S27) → List (S31) → Int → Int → Bool → Int → ByteArray → Int → Int → Option (Bool)
  | 0, _, _, _, _, _, _, _, _, _ => none
  | k + 1, x0, x3, x4, x5, x88, x147000, x147001, x147002, x147003 => if x88 = true then (some false) else (if x147000 = 3 then (selvagelaw08_ActTiles.j4 k x0 x3 x4 x5 (mx x147002 0) x147000 x147001 x147002 x147003) else (selvagelaw08_ActTiles.j4 k x0 x3 x4 x5 1 x147000 x147001 x147002 x147003))
def selvagelaw08_ActTiles.j4 : Nat → List (S27) → List (S31) → Int → Int → Int → Int → ByteArray → Int → Int → Option (Bool)
  | 0, _, _, _, _, _, _, _, _, _ => none
  | k + 1, x0, x3, x4, x5, x10, x147000, x147001, x147002, x147003 => selvagelaw08_ActTiles.l2 k x0 x3 x4 x5 x10 0 x147000 x147001 x147002 x147003
def selvagelaw08_ActTiles.l2 : Nat → List (S27) → List (S31) → Int → Int → Int → Int → Int → ByteArray → Int → Int → Option (Bool)
  | 0, _, _, _, _, _, _, _, _, _, _ => none
  | k + 1, x0, x3, x4, x5, x10, x11, x147000, x147001, x147002, x147003 => if x11 < x10 then (selvagelaw08_ActTiles.j6 k x0 x3 x4 x5 x10 x11 (decide ((wrap64 (x4 + x11)) < (x3.length : Int))) x147000 x147001 x147002 x147003) else (selvagelaw08_ActTiles.j6 k x0 x3 x4 x5 x10 x11 false x147000 x147001 x147002 x147003)
def selvagelaw08_ActTiles.j6 : Nat → List (S27) → List (S31) → Int → Int → Int → Int → Bool → Int → ByteArray → Int → Int → Option (Bool)
  | 0, _, _, _, _, _, _, _, _, _, _, _ => none
  | k + 1, x0, x3, x4, x5, x10, x11, x105, x147000, x147001, x147002, x147003 => if x105 = true then (if 0 ≤ (wrap64 (x4 + x11)) then (if (wrap64 (x4 + x11)) < (x3.length : Int) then (if (((rd_T31 x3 (wrap64 (x4 + x11))).f0) != (x147000 == 2)) = true then (some false) else (if x147000 = 3 then (if ((rd_T31 x3 (wrap64 (x4 + x11))).f1) = 0 then (selvagelaw08_ActTiles.l2 k x0 x3 x4 x5 x10 (wrap64 (x11 + 1)) x147000 x147001 x147002 x147003) else (some false)) else (if ((rd_T31 x3 (wrap64 (x4 + x11))).f1) = x147002 then (selvagelaw08_ActTiles.l2 k x0 x3 x4 x5 x10 (wrap64 (x11 + 1)) x147000 x147001 x147002 x147003) else (some false)))) else (none)) else (none)) else (selvagelaw08_ActTiles.l0 k x0 x3 (wrap64 (x4 + x10)) (wrap64 (x5 + 1)))
end
def selvagelaw08_ActTiles.f (k : Nat) (l0 : List (S27)) : Option (Bool) := (selvagelaw08_awake.f k).bind fun t130 => (if t130 = true then (if (l0.length : Int) > 16 then (some true) else ((act_Layout.f k l0).bind fun t131 => (selvagelaw08_ActTiles.l0 k l0 t131 0 0))) else (some false))
theorem selvagelaw08_ActTiles.mono_l : ∀ k, (∀ y0 y1 y2 y3, LeO (selvagelaw08_ActTiles.l0 k y0 y1 y2 y3) (selvagelaw08_ActTiles.l0 (k + 1) y0 y1 y2 y3)) ∧ (∀ y0 y1 y2 y3 y4, LeO (selvagelaw08_ActTiles.l1 k y0 y1 y2 y3 y4) (selvagelaw08_ActTiles.l1 (k + 1) y0 y1 y2 y3 y4)) ∧ (∀ y0 y1 y2 y3 y4, LeO (selvagelaw08_ActTiles.j2 k y0 y1 y2 y3 y4) (selvagelaw08_ActTiles.j2 (k + 1) y0 y1 y2 y3 y4)) ∧ (∀ y0 y1 y2 y3 y4 y5 y6 y7 y8, LeO (selvagelaw08_ActTiles.j3 k y0 y1 y2 y3 y4 y5 y6 y7 y8) (selvagelaw08_ActTiles.j3 (k + 1) y0 y1 y2 y3 y4 y5 y6 y7 y8)) ∧ (∀ y0 y1 y2 y3 y4 y5 y6 y7 y8, LeO (selvagelaw08_ActTiles.j4 k y0 y1 y2 y3 y4 y5 y6 y7 y8) (selvagelaw08_ActTiles.j4 (k + 1) y0 y1 y2 y3 y4 y5 y6 y7 y8)) ∧ (∀ y0 y1 y2 y3 y4 y5 y6 y7 y8 y9, LeO (selvagelaw08_ActTiles.l2 k y0 y1 y2 y3 y4 y5 y6 y7 y8 y9) (selvagelaw08_ActTiles.l2 (k + 1) y0 y1 y2 y3 y4 y5 y6 y7 y8 y9)) ∧ (∀ y0 y1 y2 y3 y4 y5 y6 y7 y8 y9 y10, LeO (selvagelaw08_ActTiles.j6 k y0 y1 y2 y3 y4 y5 y6 y7 y8 y9 y10) (selvagelaw08_ActTiles.j6 (k + 1) y0 y1 y2 y3 y4 y5 y6 y7 y8 y9 y10))
  | 0 => ⟨fun _ _ _ _ r h => by simp [selvagelaw08_ActTiles.l0] at h, fun _ _ _ _ _ r h => by simp [selvagelaw08_ActTiles.l1] at h, fun _ _ _ _ _ r h => by simp [selvagelaw08_ActTiles.j2] at h, fun _ _ _ _ _ _ _ _ _ r h => by simp [selvagelaw08_ActTiles.j3] at h, fun _ _ _ _ _ _ _ _ _ r h => by simp [selvagelaw08_ActTiles.j4] at h, fun _ _ _ _ _ _ _ _ _ _ r h => by simp [selvagelaw08_ActTiles.l2] at h, fun _ _ _ _ _ _ _ _ _ _ _ r h => by simp [selvagelaw08_ActTiles.j6] at h⟩
  | k + 1 => by
    obtain ⟨ih0, ih1, ih2, ih3, ih4, ih5, ih6⟩ := selvagelaw08_ActTiles.mono_l k
    refine ⟨?_, ?_, ?_, ?_, ?_, ?_, ?_⟩
    · intro y0 y1 y2 y3
      unfold selvagelaw08_ActTiles.l0
      repeat' first
      | (with_reducible exact ih0 _ _ _ _)
      | (with_reducible exact ih1 _ _ _ _ _)
      | (with_reducible exact ih2 _ _ _ _ _)
      | (with_reducible exact ih3 _ _ _ _ _ _ _ _ _)
      | (with_reducible exact ih4 _ _ _ _ _ _ _ _ _)
      | (with_reducible exact ih5 _ _ _ _ _ _ _ _ _ _)
      | (with_reducible exact ih6 _ _ _ _ _ _ _ _ _ _ _)
      | (with_reducible exact act_Layout.mono _ _)
      | (with_reducible exact act_Place.mono _ _ _)
      | (with_reducible exact selvagelaw08_awake.mono _)
      | (with_reducible exact LeO.refl _)
      | (with_reducible exact LeO.none _)
      | (with_reducible refine LeO.ite ?_ ?_)
      | (with_reducible refine LeO.bind ?_ (fun _ => ?_))
      | exact ih0 _ _ _ _
      | exact ih1 _ _ _ _ _
      | exact ih2 _ _ _ _ _
      | exact ih3 _ _ _ _ _ _ _ _ _
      | exact ih4 _ _ _ _ _ _ _ _ _
      | exact ih5 _ _ _ _ _ _ _ _ _ _
      | exact ih6 _ _ _ _ _ _ _ _ _ _ _
      | exact act_Layout.mono _ _
      | exact act_Place.mono _ _ _
      | exact selvagelaw08_awake.mono _
      | exact LeO.none _
      | refine LeO.ite ?_ ?_
      | refine LeO.bind ?_ (fun _ => ?_)
    · intro y0 y1 y2 y3 y4
      unfold selvagelaw08_ActTiles.l1
      repeat' first
      | (with_reducible exact ih0 _ _ _ _)
      | (with_reducible exact ih1 _ _ _ _ _)
      | (with_reducible exact ih2 _ _ _ _ _)
      | (with_reducible exact ih3 _ _ _ _ _ _ _ _ _)
      | (with_reducible exact ih4 _ _ _ _ _ _ _ _ _)
      | (with_reducible exact ih5 _ _ _ _ _ _ _ _ _ _)
      | (with_reducible exact ih6 _ _ _ _ _ _ _ _ _ _ _)
      | (with_reducible exact act_Layout.mono _ _)
      | (with_reducible exact act_Place.mono _ _ _)
      | (with_reducible exact selvagelaw08_awake.mono _)
      | (with_reducible exact LeO.refl _)
      | (with_reducible exact LeO.none _)
      | (with_reducible refine LeO.ite ?_ ?_)
      | (with_reducible refine LeO.bind ?_ (fun _ => ?_))
      | exact ih0 _ _ _ _
      | exact ih1 _ _ _ _ _
      | exact ih2 _ _ _ _ _
      | exact ih3 _ _ _ _ _ _ _ _ _
      | exact ih4 _ _ _ _ _ _ _ _ _
      | exact ih5 _ _ _ _ _ _ _ _ _ _
      | exact ih6 _ _ _ _ _ _ _ _ _ _ _
      | exact act_Layout.mono _ _
      | exact act_Place.mono _ _ _
      | exact selvagelaw08_awake.mono _
      | exact LeO.none _
      | refine LeO.ite ?_ ?_
      | refine LeO.bind ?_ (fun _ => ?_)
    · intro y0 y1 y2 y3 y4
      unfold selvagelaw08_ActTiles.j2
      repeat' first
      | (with_reducible exact ih0 _ _ _ _)
      | (with_reducible exact ih1 _ _ _ _ _)
      | (with_reducible exact ih2 _ _ _ _ _)
      | (with_reducible exact ih3 _ _ _ _ _ _ _ _ _)
      | (with_reducible exact ih4 _ _ _ _ _ _ _ _ _)
      | (with_reducible exact ih5 _ _ _ _ _ _ _ _ _ _)
      | (with_reducible exact ih6 _ _ _ _ _ _ _ _ _ _ _)
      | (with_reducible exact act_Layout.mono _ _)
      | (with_reducible exact act_Place.mono _ _ _)
      | (with_reducible exact selvagelaw08_awake.mono _)
      | (with_reducible exact LeO.refl _)
      | (with_reducible exact LeO.none _)
      | (with_reducible refine LeO.ite ?_ ?_)
      | (with_reducible refine LeO.bind ?_ (fun _ => ?_))
      | exact ih0 _ _ _ _
      | exact ih1 _ _ _ _ _
      | exact ih2 _ _ _ _ _
      | exact ih3 _ _ _ _ _ _ _ _ _
      | exact ih4 _ _ _ _ _ _ _ _ _
      | exact ih5 _ _ _ _ _ _ _ _ _ _
      | exact ih6 _ _ _ _ _ _ _ _ _ _ _
      | exact act_Layout.mono _ _
      | exact act_Place.mono _ _ _
      | exact selvagelaw08_awake.mono _
      | exact LeO.none _
      | refine LeO.ite ?_ ?_
      | refine LeO.bind ?_ (fun _ => ?_)
    · intro y0 y1 y2 y3 y4 y5 y6 y7 y8
      unfold selvagelaw08_ActTiles.j3
      repeat' first
      | (with_reducible exact ih0 _ _ _ _)
      | (with_reducible exact ih1 _ _ _ _ _)
      | (with_reducible exact ih2 _ _ _ _ _)
      | (with_reducible exact ih3 _ _ _ _ _ _ _ _ _)
      | (with_reducible exact ih4 _ _ _ _ _ _ _ _ _)
      | (with_reducible exact ih5 _ _ _ _ _ _ _ _ _ _)
      | (with_reducible exact ih6 _ _ _ _ _ _ _ _ _ _ _)
      | (with_reducible exact act_Layout.mono _ _)
      | (with_reducible exact act_Place.mono _ _ _)
      | (with_reducible exact selvagelaw08_awake.mono _)
      | (with_reducible exact LeO.refl _)
      | (with_reducible exact LeO.none _)
      | (with_reducible refine LeO.ite ?_ ?_)
      | (with_reducible refine LeO.bind ?_ (fun _ => ?_))
      | exact ih0 _ _ _ _
      | exact ih1 _ _ _ _ _
      | exact ih2 _ _ _ _ _
      | exact ih3 _ _ _ _ _ _ _ _ _
      | exact ih4 _ _ _ _ _ _ _ _ _
      | exact ih5 _ _ _ _ _ _ _ _ _ _
      | exact ih6 _ _ _ _ _ _ _ _ _ _ _
      | exact act_Layout.mono _ _
      | exact act_Place.mono _ _ _
      | exact selvagelaw08_awake.mono _
      | exact LeO.none _
      | refine LeO.ite ?_ ?_
      | refine LeO.bind ?_ (fun _ => ?_)
    · intro y0 y1 y2 y3 y4 y5 y6 y7 y8
      unfold selvagelaw08_ActTiles.j4
      repeat' first
      | (with_reducible exact ih0 _ _ _ _)
      | (with_reducible exact ih1 _ _ _ _ _)
      | (with_reducible exact ih2 _ _ _ _ _)
      | (with_reducible exact ih3 _ _ _ _ _ _ _ _ _)
      | (with_reducible exact ih4 _ _ _ _ _ _ _ _ _)
      | (with_reducible exact ih5 _ _ _ _ _ _ _ _ _ _)
      | (with_reducible exact ih6 _ _ _ _ _ _ _ _ _ _ _)
      | (with_reducible exact act_Layout.mono _ _)
      | (with_reducible exact act_Place.mono _ _ _)
      | (with_reducible exact selvagelaw08_awake.mono _)
      | (with_reducible exact LeO.refl _)
      | (with_reducible exact LeO.none _)
      | (with_reducible refine LeO.ite ?_ ?_)
      | (with_reducible refine LeO.bind ?_ (fun _ => ?_))
      | exact ih0 _ _ _ _
      | exact ih1 _ _ _ _ _
      | exact ih2 _ _ _ _ _
      | exact ih3 _ _ _ _ _ _ _ _ _
      | exact ih4 _ _ _ _ _ _ _ _ _
      | exact ih5 _ _ _ _ _ _ _ _ _ _
      | exact ih6 _ _ _ _ _ _ _ _ _ _ _
      | exact act_Layout.mono _ _
      | exact act_Place.mono _ _ _
      | exact selvagelaw08_awake.mono _
      | exact LeO.none _
      | refine LeO.ite ?_ ?_
      | refine LeO.bind ?_ (fun _ => ?_)
    · intro y0 y1 y2 y3 y4 y5 y6 y7 y8 y9
      unfold selvagelaw08_ActTiles.l2
      repeat' first
      | (with_reducible exact ih0 _ _ _ _)
      | (with_reducible exact ih1 _ _ _ _ _)
      | (with_reducible exact ih2 _ _ _ _ _)
      | (with_reducible exact ih3 _ _ _ _ _ _ _ _ _)
      | (with_reducible exact ih4 _ _ _ _ _ _ _ _ _)
      | (with_reducible exact ih5 _ _ _ _ _ _ _ _ _ _)
      | (with_reducible exact ih6 _ _ _ _ _ _ _ _ _ _ _)
      | (with_reducible exact act_Layout.mono _ _)
      | (with_reducible exact act_Place.mono _ _ _)
      | (with_reducible exact selvagelaw08_awake.mono _)
      | (with_reducible exact LeO.refl _)
      | (with_reducible exact LeO.none _)
      | (with_reducible refine LeO.ite ?_ ?_)
      | (with_reducible refine LeO.bind ?_ (fun _ => ?_))
      | exact ih0 _ _ _ _
      | exact ih1 _ _ _ _ _
      | exact ih2 _ _ _ _ _
      | exact ih3 _ _ _ _ _ _ _ _ _
      | exact ih4 _ _ _ _ _ _ _ _ _
      | exact ih5 _ _ _ _ _ _ _ _ _ _
      | exact ih6 _ _ _ _ _ _ _ _ _ _ _
      | exact act_Layout.mono _ _
      | exact act_Place.mono _ _ _
      | exact selvagelaw08_awake.mono _
      | exact LeO.none _
      | refine LeO.ite ?_ ?_
      | refine LeO.bind ?_ (fun _ => ?_)
    · intro y0 y1 y2 y3 y4 y5 y6 y7 y8 y9 y10
      unfold selvagelaw08_ActTiles.j6
      repeat' first
      | (with_reducible exact ih0 _ _ _ _)
      | (with_reducible exact ih1 _ _ _ _ _)
      | (with_reducible exact ih2 _ _ _ _ _)
      | (with_reducible exact ih3 _ _ _ _ _ _ _ _ _)
      | (with_reducible exact ih4 _ _ _ _ _ _ _ _ _)
      | (with_reducible exact ih5 _ _ _ _ _ _ _ _ _ _)
      | (with_reducible exact ih6 _ _ _ _ _ _ _ _ _ _ _)
      | (with_reducible exact act_Layout.mono _ _)
      | (with_reducible exact act_Place.mono _ _ _)
      | (with_reducible exact selvagelaw08_awake.mono _)
      | (with_reducible exact LeO.refl _)
      | (with_reducible exact LeO.none _)
      | (with_reducible refine LeO.ite ?_ ?_)
      | (with_reducible refine LeO.bind ?_ (fun _ => ?_))
      | exact ih0 _ _ _ _
      | exact ih1 _ _ _ _ _
      | exact ih2 _ _ _ _ _
      | exact ih3 _ _ _ _ _ _ _ _ _
      | exact ih4 _ _ _ _ _ _ _ _ _
      | exact ih5 _ _ _ _ _ _ _ _ _ _
      | exact ih6 _ _ _ _ _ _ _ _ _ _ _
      | exact act_Layout.mono _ _
      | exact act_Place.mono _ _ _
      | exact selvagelaw08_awake.mono _
      | exact LeO.none _
      | refine LeO.ite ?_ ?_
      | refine LeO.bind ?_ (fun _ => ?_)
theorem selvagelaw08_ActTiles.mono : ∀ a0 k, LeO (selvagelaw08_ActTiles.f k a0) (selvagelaw08_ActTiles.f (k + 1) a0) := by
  intro a0 k
  obtain ⟨ih0, ih1, ih2, ih3, ih4, ih5, ih6⟩ := selvagelaw08_ActTiles.mono_l k
  unfold selvagelaw08_ActTiles.f
  repeat' first
      | (with_reducible exact ih0 _ _ _ _)
      | (with_reducible exact ih1 _ _ _ _ _)
      | (with_reducible exact ih2 _ _ _ _ _)
      | (with_reducible exact ih3 _ _ _ _ _ _ _ _ _)
      | (with_reducible exact ih4 _ _ _ _ _ _ _ _ _)
      | (with_reducible exact ih5 _ _ _ _ _ _ _ _ _ _)
      | (with_reducible exact ih6 _ _ _ _ _ _ _ _ _ _ _)
      | (with_reducible exact act_Layout.mono _ _)
      | (with_reducible exact act_Place.mono _ _ _)
      | (with_reducible exact selvagelaw08_awake.mono _)
      | (with_reducible exact LeO.refl _)
      | (with_reducible exact LeO.none _)
      | (with_reducible refine LeO.ite ?_ ?_)
      | (with_reducible refine LeO.bind ?_ (fun _ => ?_))
      | exact ih0 _ _ _ _
      | exact ih1 _ _ _ _ _
      | exact ih2 _ _ _ _ _
      | exact ih3 _ _ _ _ _ _ _ _ _
      | exact ih4 _ _ _ _ _ _ _ _ _
      | exact ih5 _ _ _ _ _ _ _ _ _ _
      | exact ih6 _ _ _ _ _ _ _ _ _ _ _
      | exact act_Layout.mono _ _
      | exact act_Place.mono _ _ _
      | exact selvagelaw08_awake.mono _
      | exact LeO.none _
      | refine LeO.ite ?_ ?_
      | refine LeO.bind ?_ (fun _ => ?_)
set_option maxHeartbeats 8000000 in
set_option maxRecDepth 100000 in
theorem selvagelaw08_ActTiles.calls (k : Nat) (A0 : Option Addr) (c0 : Nat) (l0 : List (S27)) (r : Bool) (w : World) (hr0 : Kd.C k27 w A0 l0.length l0) (hc0 : l0.length ≤ c0) (h : selvagelaw08_ActTiles.f k l0 = some r) :
    Calls Try.prog 3 #[.slice A0 l0.length c0] w fun e w' => e = .returned (.bool r) ∧ Below w.heap.size w w' := by
  have hu27 := Try.underlying27
  have HR0 := Aside0.mk hr0
  have HC0 := Aside0.mk hc0
  clear hr0 hc0
  have HB := Aside0.mk (Below.refl w.heap.size w)
  have H : ((selvagelaw08_awake.f k).bind fun t130 => (if t130 = true then (if (l0.length : Int) > 16 then (some true) else ((act_Layout.f k l0).bind fun t131 => (selvagelaw08_ActTiles.l0 k l0 t131 0 0))) else (some false))) = some r := h
  clear h
  replace H := Option.bind_eq_some_iff.mp H
  obtain ⟨t130, A20, H⟩ := H
  replace H : (if t130 = true then (if (l0.length : Int) > 16 then (some true) else ((act_Layout.f k l0).bind fun t131 => (selvagelaw08_ActTiles.l0 k l0 t131 0 0))) else (some false)) = some r := H
  have A2 := Aside0.mk A20
  clear A20
  by_cases c3 : t130 = true
  · subst c3
    have H1 : (if (l0.length : Int) > 16 then (some true) else ((act_Layout.f k l0).bind fun t131 => (selvagelaw08_ActTiles.l0 k l0 t131 0 0))) = some r := by rw [if_pos rfl] at H; exact H
    clear H
    have H := H1
    clear H1
    by_cases c4 : (l0.length : Int) > 16
    · rw [if_pos c4] at H
      have c4b0 : decide (16 < (l0.length : Int)) = true := decide_eq_true c4
      have c4b1 : decide (16 < l0.length) = true := decide_eq_true (by omega)
      clear c4
      obtain rfl := Option.some.inj H
      go_enter Try.func3, Try.ntmps3
      go_wp2_with (first | (go_at_call 7; (with_reducible refine (selvagelaw08_awake.calls k  true _ A2.out).mono ?_); rintro e w5 ⟨rfl, hb⟩; have n0_ := Aside0.mk (below_step (by repeat (first | (with_reducible first | exact HB.out | apply below_alloc | apply pw_below_drewN | apply below_drew1) | exact HB.out)) hb); clear HB; have HB := n0_; clear n0_; (try clear hb); (try clear hb2); (try clear hk); (try clear hi)))
      repeat (go_quiet (first | (go_at_call 7; (with_reducible refine (selvagelaw08_awake.calls k  true _ A2.out).mono ?_); rintro e w5 ⟨rfl, hb⟩; have n0_ := Aside0.mk (below_step (by repeat (first | (with_reducible first | exact HB.out | apply below_alloc | apply pw_below_drewN | apply below_drew1) | exact HB.out)) hb); clear HB; have HB := n0_; clear n0_; (try clear hb); (try clear hb2); (try clear hk); (try clear hi))); try go_wp2_with (first | (go_at_call 7; (with_reducible refine (selvagelaw08_awake.calls k  true _ A2.out).mono ?_); rintro e w5 ⟨rfl, hb⟩; have n0_ := Aside0.mk (below_step (by repeat (first | (with_reducible first | exact HB.out | apply below_alloc | apply pw_below_drewN | apply below_drew1) | exact HB.out)) hb); clear HB; have HB := n0_; clear n0_; (try clear hb); (try clear hb2); (try clear hk); (try clear hi))))
      go_ret
      exact ⟨by first | rfl | (simp [errW_none, errW_some] <;> rfl) | (simp [*, errW_none, errW_some] <;> rfl), by repeat (first | (with_reducible first | exact HB.out | apply below_alloc | apply pw_below_drewN | apply below_drew1) | exact HB.out)⟩
    · rw [if_neg c4] at H
      have c4b0 : decide (16 < (l0.length : Int)) = false := decide_eq_false c4
      have c4b1 : decide (16 < l0.length) = false := decide_eq_false (by omega)
      clear c4
      replace H := Option.bind_eq_some_iff.mp H
      obtain ⟨t131, A60, H⟩ := H
      replace H : (selvagelaw08_ActTiles.l0 k l0 t131 0 0) = some r := H
      have A6 := Aside0.mk A60
      clear A60
      have H' := Aside0.mk H
      clear H
      go_enter Try.func3, Try.ntmps3
      go_wp2_with (first | (go_at_call 7; (with_reducible refine (selvagelaw08_awake.calls k  true _ A2.out).mono ?_); rintro e w7 ⟨rfl, hb⟩; have n0_ := Aside0.mk (below_step (by repeat (first | (with_reducible first | exact HB.out | apply below_alloc | apply pw_below_drewN | apply below_drew1) | exact HB.out)) hb); clear HB; have HB := n0_; clear n0_; (try clear hb); (try clear hb2); (try clear hk); (try clear hi)) | (go_at_call 8; (with_reducible refine (act_Layout.calls k _ _ l0 t131 _ ?side1 ?side2 A6.out).mono ?_); (case side1 => repeat (first | exact (Kd.C_below HR0.out HB.out) | (with_reducible refine Kd.C_alloc ?_ _) | (with_reducible refine Kd.C_drewN ?_ _) | (with_reducible refine Kd.C_drew ?_))); (case side2 => exact HC0.out); rintro e w8 ⟨v132, rfl, ho0, hb⟩; have n0_ := Aside0.mk (Kd.R_lower ho0 (below_size (by repeat (first | (with_reducible first | exact HB.out | apply below_alloc | apply pw_below_drewN | apply below_drew1) | exact HB.out)))); have n1_ := Aside0.mk (below_step (by repeat (first | (with_reducible first | exact HB.out | apply below_alloc | apply pw_below_drewN | apply below_drew1) | exact HB.out)) hb); clear HB; have HO133 := n0_; have HB := n1_; clear n0_ n1_; (try clear hb); (try clear hb2); (try clear hk); (try clear hi); (try clear ho0)))
      repeat (go_quiet (first | (go_at_call 7; (with_reducible refine (selvagelaw08_awake.calls k  true _ A2.out).mono ?_); rintro e w7 ⟨rfl, hb⟩; have n0_ := Aside0.mk (below_step (by repeat (first | (with_reducible first | exact HB.out | apply below_alloc | apply pw_below_drewN | apply below_drew1) | exact HB.out)) hb); clear HB; have HB := n0_; clear n0_; (try clear hb); (try clear hb2); (try clear hk); (try clear hi)) | (go_at_call 8; (with_reducible refine (act_Layout.calls k _ _ l0 t131 _ ?side1 ?side2 A6.out).mono ?_); (case side1 => repeat (first | exact (Kd.C_below HR0.out HB.out) | (with_reducible refine Kd.C_alloc ?_ _) | (with_reducible refine Kd.C_drewN ?_ _) | (with_reducible refine Kd.C_drew ?_))); (case side2 => exact HC0.out); rintro e w8 ⟨v132, rfl, ho0, hb⟩; have n0_ := Aside0.mk (Kd.R_lower ho0 (below_size (by repeat (first | (with_reducible first | exact HB.out | apply below_alloc | apply pw_below_drewN | apply below_drew1) | exact HB.out)))); have n1_ := Aside0.mk (below_step (by repeat (first | (with_reducible first | exact HB.out | apply below_alloc | apply pw_below_drewN | apply below_drew1) | exact HB.out)) hb); clear HB; have HO133 := n0_; have HB := n1_; clear n0_ n1_; (try clear hb); (try clear hb2); (try clear hk); (try clear hi); (try clear ho0))); try go_wp2_with (first | (go_at_call 7; (with_reducible refine (selvagelaw08_awake.calls k  true _ A2.out).mono ?_); rintro e w7 ⟨rfl, hb⟩; have n0_ := Aside0.mk (below_step (by repeat (first | (with_reducible first | exact HB.out | apply below_alloc | apply pw_below_drewN | apply below_drew1) | exact HB.out)) hb); clear HB; have HB := n0_; clear n0_; (try clear hb); (try clear hb2); (try clear hk); (try clear hi)) | (go_at_call 8; (with_reducible refine (act_Layout.calls k _ _ l0 t131 _ ?side1 ?side2 A6.out).mono ?_); (case side1 => repeat (first | exact (Kd.C_below HR0.out HB.out) | (with_reducible refine Kd.C_alloc ?_ _) | (with_reducible refine Kd.C_drewN ?_ _) | (with_reducible refine Kd.C_drew ?_))); (case side2 => exact HC0.out); rintro e w8 ⟨v132, rfl, ho0, hb⟩; have n0_ := Aside0.mk (Kd.R_lower ho0 (below_size (by repeat (first | (with_reducible first | exact HB.out | apply below_alloc | apply pw_below_drewN | apply below_drew1) | exact HB.out)))); have n1_ := Aside0.mk (below_step (by repeat (first | (with_reducible first | exact HB.out | apply below_alloc | apply pw_below_drewN | apply below_drew1) | exact HB.out)) hb); clear HB; have HO133 := n0_; have HB := n1_; clear n0_ n1_; (try clear hb); (try clear hb2); (try clear hk); (try clear hi); (try clear ho0))))
      go_loopg [4, 5] k (fun kq v4 v5 w' => ∃ (x4_1 : Int) (x5_1 : Int), v4 = .int .i64 x4_1 ∧ v5 = .int .i64 x5_1 ∧ Aside0 (selvagelaw08_ActTiles.l0 kq l0 t131 x4_1 x5_1 = some r) ∧ Aside0 (kq ≤ k) ∧ Aside0 (Kd.R k31 31 w' w.heap.size (fun _ => True) v132 t131) ∧ Aside0 (Below w.heap.size w w'))
      case atStart => exact ⟨(0), (0), (by first | rfl | (simp; done) | (simp [*]; done)), (by first | rfl | (simp; done) | (simp [*]; done)), H', ⟨Nat.le_refl _⟩, ⟨by (with_reducible repeat (first | apply Kd.R_alloc | apply Kd.R_drewN | apply Kd.R_drew)); exact HO133.out⟩, ⟨by repeat (first | (with_reducible first | exact HB.out | apply below_alloc | apply pw_below_drewN | apply below_drew1) | exact HB.out)⟩⟩
      case round =>
        clear H'
        try clear p2
        try clear c3
        try clear c4
        try clear c4b0
        try clear c4b1
        obtain ⟨x4_1, x5_1, rfl, rfl, HA, HK1, HO_3, HB⟩ := hrel
        cases gk with
        | zero => exact absurd HA.out (by simp [selvagelaw08_ActTiles.l0])
        | succ k1 =>
          have H := HA.out
          clear HA
          simp only [selvagelaw08_ActTiles.l0] at H
          by_cases c9 : x5_1 < (l0.length : Int)
          · rw [if_pos c9] at H
            have c9b0 : decide (x5_1 < (l0.length : Int)) = true := decide_eq_true c9
            clear c9
            have H' := Aside0.mk H
            clear H
            go_wp2
            repeat (go_quiet (fail); try go_wp2)
            go_loopg [6] k1 (fun kq v6 w' => ∃ (x6_2 : Int), v6 = .int .i64 x6_2 ∧ Aside0 (selvagelaw08_ActTiles.l1 kq l0 t131 x4_1 x5_1 x6_2 = some r) ∧ Aside0 (kq ≤ k1) ∧ Aside0 (Kd.R k31 31 w' w.heap.size (fun _ => True) v132 t131) ∧ Aside0 (Below w.heap.size w w'))
            case atStart => exact ⟨(0), (by first | rfl | (simp; done) | (simp [*]; done)), H', ⟨Nat.le_refl _⟩, ⟨by (with_reducible repeat (first | apply Kd.R_alloc | apply Kd.R_drewN | apply Kd.R_drew)); exact HO_3.out⟩, ⟨by repeat (first | (with_reducible first | exact HB.out | apply below_alloc | apply pw_below_drewN | apply below_drew1) | exact HB.out)⟩⟩
            case round =>
              clear H'
              try clear p2
              try clear c3
              try clear c4
              try clear c4b0
              try clear c4b1
              try clear c9
              try clear c9b0
              try clear p2
              obtain ⟨x6_2, rfl, HA, HK2, HO_3, HB⟩ := hrel
              cases gk with
              | zero => exact absurd HA.out (by simp [selvagelaw08_ActTiles.l1])
              | succ k2 =>
                have H := HA.out
                clear HA
                simp only [selvagelaw08_ActTiles.l1] at H
                by_cases c10 : x6_2 < x5_1
                · rw [if_pos c10] at H
                  have c10b0 : decide (x6_2 < x5_1) = true := decide_eq_true c10
                  clear c10
                  by_cases c11 : 0 ≤ x6_2
                  · rw [if_pos c11] at H
                    have c11b0 : decide (0 ≤ x6_2) = true := decide_eq_true c11
                    clear c11
                    by_cases c12 : x6_2 < (l0.length : Int)
                    · rw [if_pos c12] at H
                      have c12b0 : decide (x6_2 < (l0.length : Int)) = true := decide_eq_true c12
                      clear c12
                      by_cases c13 : 0 ≤ x5_1
                      · rw [if_pos c13] at H
                        have c13b0 : decide (0 ≤ x5_1) = true := decide_eq_true c13
                        clear c13
                        by_cases c14 : x5_1 < (l0.length : Int)
                        · rw [if_pos c14] at H
                          have c14b0 : decide (x5_1 < (l0.length : Int)) = true := decide_eq_true c14
                          clear c14
                          by_cases c15 : ((rd_T27 l0 x6_2).f1).toList = ((rd_T27 l0 x5_1).f1).toList
                          · rw [if_pos c15] at H
                            have c15b0 : (((rd_T27 l0 x6_2).f1).toList == ((rd_T27 l0 x5_1).f1).toList) = true := beq_iff_eq.mpr c15
                            have c15b1 : (((rd_T27 l0 x6_2).f1).toList != ((rd_T27 l0 x5_1).f1).toList) = false := bne_eq_false_iff_eq.mpr c15
                            clear c15
                            obtain rfl := Option.some.inj H
                            have p134 : 0 ≤ (x6_2 : Int) := of_decide_eq_true (by first | (with_reducible assumption) | assumption)
                            have q134 : x6_2 < (l0.length : Int) := of_decide_eq_true (by first | (with_reducible assumption) | assumption)
                            obtain ⟨ad134, e134, hx134_0, hx134_1, hx134_2, hx134_3⟩ := at_T27 HR0.out x6_2 p134 q134
                            cases e134
                            replace hx134_0 := (HB.out.cell (World.block_lt_of_cell? w _ hx134_0)).trans hx134_0
                            replace hx134_1 := (HB.out.cell (World.block_lt_of_cell? w _ hx134_1)).trans hx134_1
                            replace hx134_2 := (HB.out.cell (World.block_lt_of_cell? w _ hx134_2)).trans hx134_2
                            replace hx134_3 := (HB.out.cell (World.block_lt_of_cell? w _ hx134_3)).trans hx134_3
                            replace p134 := eq_true p134
                            replace q134 := eq_true q134
                            have p135 : 0 ≤ (x5_1 : Int) := of_decide_eq_true (by first | (with_reducible assumption) | assumption)
                            have q135 : x5_1 < (l0.length : Int) := of_decide_eq_true (by first | (with_reducible assumption) | assumption)
                            obtain ⟨ad135, e135, hx135_0, hx135_1, hx135_2, hx135_3⟩ := at_T27 HR0.out x5_1 p135 q135
                            obtain rfl : ad134 = ad135 := (by injection e135)
                            replace hx135_0 := (HB.out.cell (World.block_lt_of_cell? w _ hx135_0)).trans hx135_0
                            replace hx135_1 := (HB.out.cell (World.block_lt_of_cell? w _ hx135_1)).trans hx135_1
                            replace hx135_2 := (HB.out.cell (World.block_lt_of_cell? w _ hx135_2)).trans hx135_2
                            replace hx135_3 := (HB.out.cell (World.block_lt_of_cell? w _ hx135_3)).trans hx135_3
                            replace p135 := eq_true p135
                            replace q135 := eq_true q135
                            go_wp2
                            repeat (go_quiet (fail); try go_wp2)
                            go_ret
                            exact ⟨by first | rfl | (simp [errW_none, errW_some] <;> rfl) | (simp [*, errW_none, errW_some] <;> rfl), by repeat (first | (with_reducible first | exact HB.out | apply below_alloc | apply pw_below_drewN | apply below_drew1) | exact HB.out)⟩
                          · rw [if_neg c15] at H
                            have c15b0 : (((rd_T27 l0 x6_2).f1).toList == ((rd_T27 l0 x5_1).f1).toList) = false := beq_eq_false_iff_ne.mpr c15
                            have c15b1 : (((rd_T27 l0 x6_2).f1).toList != ((rd_T27 l0 x5_1).f1).toList) = true := bne_iff_ne.mpr c15
                            have H' := Aside0.mk H
                            clear H
                            have p134 : 0 ≤ (x6_2 : Int) := of_decide_eq_true (by first | (with_reducible assumption) | assumption)
                            have q134 : x6_2 < (l0.length : Int) := of_decide_eq_true (by first | (with_reducible assumption) | assumption)
                            obtain ⟨ad134, e134, hx134_0, hx134_1, hx134_2, hx134_3⟩ := at_T27 HR0.out x6_2 p134 q134
                            cases e134
                            replace hx134_0 := (HB.out.cell (World.block_lt_of_cell? w _ hx134_0)).trans hx134_0
                            replace hx134_1 := (HB.out.cell (World.block_lt_of_cell? w _ hx134_1)).trans hx134_1
                            replace hx134_2 := (HB.out.cell (World.block_lt_of_cell? w _ hx134_2)).trans hx134_2
                            replace hx134_3 := (HB.out.cell (World.block_lt_of_cell? w _ hx134_3)).trans hx134_3
                            replace p134 := eq_true p134
                            replace q134 := eq_true q134
                            have p135 : 0 ≤ (x5_1 : Int) := of_decide_eq_true (by first | (with_reducible assumption) | assumption)
                            have q135 : x5_1 < (l0.length : Int) := of_decide_eq_true (by first | (with_reducible assumption) | assumption)
                            obtain ⟨ad135, e135, hx135_0, hx135_1, hx135_2, hx135_3⟩ := at_T27 HR0.out x5_1 p135 q135
                            obtain rfl : ad134 = ad135 := (by injection e135)
                            replace hx135_0 := (HB.out.cell (World.block_lt_of_cell? w _ hx135_0)).trans hx135_0
                            replace hx135_1 := (HB.out.cell (World.block_lt_of_cell? w _ hx135_1)).trans hx135_1
                            replace hx135_2 := (HB.out.cell (World.block_lt_of_cell? w _ hx135_2)).trans hx135_2
                            replace hx135_3 := (HB.out.cell (World.block_lt_of_cell? w _ hx135_3)).trans hx135_3
                            replace p135 := eq_true p135
                            replace q135 := eq_true q135
                            go_wp2
                            repeat (go_quiet (fail); try go_wp2)
                            go_roundg k2
                            case measure => have := HK1.out; have := HK2.out; omega
                            case rel => exact ⟨(wrap64 (x6_2 + 1)), (by first | rfl | (simp; done) | (simp [*]; done)), H', ⟨by have := HK1.out; have := HK2.out; omega⟩, ⟨by (with_reducible repeat (first | apply Kd.R_alloc | apply Kd.R_drewN | apply Kd.R_drew)); exact HO_3.out⟩, ⟨by repeat (first | (with_reducible first | exact HB.out | apply below_alloc | apply pw_below_drewN | apply below_drew1) | exact HB.out)⟩⟩
                        · rw [if_neg c14] at H
                          exact absurd H (by simp)
                      · rw [if_neg c13] at H
                        exact absurd H (by simp)
                    · rw [if_neg c12] at H
                      exact absurd H (by simp)
                  · rw [if_neg c11] at H
                    exact absurd H (by simp)
                · rw [if_neg c10] at H
                  have c10b0 : decide (x6_2 < x5_1) = false := decide_eq_false c10
                  clear c10
                  have HC16 := Aside0.mk H
                  clear H
                  go_upto_region 15 with (fail)
                  repeat (go_quiet (fail); go_upto_region 15 with (fail))
                  go_cut [62] (fun v62 wc => ∃ (kq : Nat) (x62_15 : Bool), v62 = .bool x62_15 ∧ Aside0 (selvagelaw08_ActTiles.j2 kq l0 t131 x4_1 x5_1 x62_15 = some r) ∧ Aside0 (kq ≤ k2) ∧ Aside0 (Kd.R k31 31 wc w.heap.size (fun _ => True) v132 t131) ∧ Aside0 (Below w.heap.size w wc))
                  case first =>
                    have H := HC16.out
                    clear HC16
                    by_cases c17 : 0 ≤ x5_1
                    · rw [if_pos c17] at H
                      have c17b0 : decide (0 ≤ x5_1) = true := decide_eq_true c17
                      clear c17
                      (first | rw [c17b0] | (simp only [i64_w, i32_w]; rw [c17b0]) | skip)
                      by_cases c18 : x5_1 < (l0.length : Int)
                      · rw [if_pos c18] at H
                        have c18b0 : decide (x5_1 < (l0.length : Int)) = true := decide_eq_true c18
                        clear c18
                        by_cases c19 : ((rd_T27 l0 x5_1).f2) > 1000
                        · rw [if_pos c19] at H
                          have c19b0 : decide (1000 < ((rd_T27 l0 x5_1).f2)) = true := decide_eq_true c19
                          clear c19
                          have H' := Aside0.mk H
                          clear H
                          have p136 : 0 ≤ (x5_1 : Int) := of_decide_eq_true (by first | (with_reducible assumption) | assumption)
                          have q136 : x5_1 < (l0.length : Int) := of_decide_eq_true (by first | (with_reducible assumption) | assumption)
                          obtain ⟨ad136, e136, hx136_0, hx136_1, hx136_2, hx136_3⟩ := at_T27 HR0.out x5_1 p136 q136
                          cases e136
                          replace hx136_0 := (HB.out.cell (World.block_lt_of_cell? w _ hx136_0)).trans hx136_0
                          replace hx136_1 := (HB.out.cell (World.block_lt_of_cell? w _ hx136_1)).trans hx136_1
                          replace hx136_2 := (HB.out.cell (World.block_lt_of_cell? w _ hx136_2)).trans hx136_2
                          replace hx136_3 := (HB.out.cell (World.block_lt_of_cell? w _ hx136_3)).trans hx136_3
                          replace p136 := eq_true p136
                          replace q136 := eq_true q136
                          go_wp2
                          repeat (go_quiet (fail); try go_wp2)
                          go_meet
                          case rel => exact ⟨_, (true), (by first | rfl | (simp; done) | (simp [*]; done)), H', ⟨by have := HK1.out; have := HK2.out; first | omega | exact Nat.le_refl _⟩, ⟨by (with_reducible repeat (first | apply Kd.R_alloc | apply Kd.R_drewN | apply Kd.R_drew)); exact HO_3.out⟩, ⟨by repeat (first | (with_reducible first | exact HB.out | apply below_alloc | apply pw_below_drewN | apply below_drew1) | exact HB.out)⟩⟩
                        · rw [if_neg c19] at H
                          have c19b0 : decide (1000 < ((rd_T27 l0 x5_1).f2)) = false := decide_eq_false c19
                          clear c19
                          by_cases c20 : ((rd_T27 l0 x5_1).f0) < 1
                          · rw [if_pos c20] at H
                            have c20b0 : decide (((rd_T27 l0 x5_1).f0) < 1) = true := decide_eq_true c20
                            clear c20
                            have H' := Aside0.mk H
                            clear H
                            have p136 : 0 ≤ (x5_1 : Int) := of_decide_eq_true (by first | (with_reducible assumption) | assumption)
                            have q136 : x5_1 < (l0.length : Int) := of_decide_eq_true (by first | (with_reducible assumption) | assumption)
                            obtain ⟨ad136, e136, hx136_0, hx136_1, hx136_2, hx136_3⟩ := at_T27 HR0.out x5_1 p136 q136
                            cases e136
                            replace hx136_0 := (HB.out.cell (World.block_lt_of_cell? w _ hx136_0)).trans hx136_0
                            replace hx136_1 := (HB.out.cell (World.block_lt_of_cell? w _ hx136_1)).trans hx136_1
                            replace hx136_2 := (HB.out.cell (World.block_lt_of_cell? w _ hx136_2)).trans hx136_2
                            replace hx136_3 := (HB.out.cell (World.block_lt_of_cell? w _ hx136_3)).trans hx136_3
                            replace p136 := eq_true p136
                            replace q136 := eq_true q136
                            have p137 : 0 ≤ (x5_1 : Int) := of_decide_eq_true (by first | (with_reducible assumption) | assumption)
                            have q137 : x5_1 < (l0.length : Int) := of_decide_eq_true (by first | (with_reducible assumption) | assumption)
                            obtain ⟨ad137, e137, hx137_0, hx137_1, hx137_2, hx137_3⟩ := at_T27 HR0.out x5_1 p137 q137
                            obtain rfl : ad136 = ad137 := (by injection e137)
                            replace hx137_0 := (HB.out.cell (World.block_lt_of_cell? w _ hx137_0)).trans hx137_0
                            replace hx137_1 := (HB.out.cell (World.block_lt_of_cell? w _ hx137_1)).trans hx137_1
                            replace hx137_2 := (HB.out.cell (World.block_lt_of_cell? w _ hx137_2)).trans hx137_2
                            replace hx137_3 := (HB.out.cell (World.block_lt_of_cell? w _ hx137_3)).trans hx137_3
                            replace p137 := eq_true p137
                            replace q137 := eq_true q137
                            go_wp2
                            repeat (go_quiet (fail); try go_wp2)
                            go_meet
                            case rel => exact ⟨_, (true), (by first | rfl | (simp; done) | (simp [*]; done)), H', ⟨by have := HK1.out; have := HK2.out; first | omega | exact Nat.le_refl _⟩, ⟨by (with_reducible repeat (first | apply Kd.R_alloc | apply Kd.R_drewN | apply Kd.R_drew)); exact HO_3.out⟩, ⟨by repeat (first | (with_reducible first | exact HB.out | apply below_alloc | apply pw_below_drewN | apply below_drew1) | exact HB.out)⟩⟩
                          · rw [if_neg c20] at H
                            have c20b0 : decide (((rd_T27 l0 x5_1).f0) < 1) = false := decide_eq_false c20
                            clear c20
                            have H' := Aside0.mk H
                            clear H
                            have p136 : 0 ≤ (x5_1 : Int) := of_decide_eq_true (by first | (with_reducible assumption) | assumption)
                            have q136 : x5_1 < (l0.length : Int) := of_decide_eq_true (by first | (with_reducible assumption) | assumption)
                            obtain ⟨ad136, e136, hx136_0, hx136_1, hx136_2, hx136_3⟩ := at_T27 HR0.out x5_1 p136 q136
                            cases e136
                            replace hx136_0 := (HB.out.cell (World.block_lt_of_cell? w _ hx136_0)).trans hx136_0
                            replace hx136_1 := (HB.out.cell (World.block_lt_of_cell? w _ hx136_1)).trans hx136_1
                            replace hx136_2 := (HB.out.cell (World.block_lt_of_cell? w _ hx136_2)).trans hx136_2
                            replace hx136_3 := (HB.out.cell (World.block_lt_of_cell? w _ hx136_3)).trans hx136_3
                            replace p136 := eq_true p136
                            replace q136 := eq_true q136
                            have p137 : 0 ≤ (x5_1 : Int) := of_decide_eq_true (by first | (with_reducible assumption) | assumption)
                            have q137 : x5_1 < (l0.length : Int) := of_decide_eq_true (by first | (with_reducible assumption) | assumption)
                            obtain ⟨ad137, e137, hx137_0, hx137_1, hx137_2, hx137_3⟩ := at_T27 HR0.out x5_1 p137 q137
                            obtain rfl : ad136 = ad137 := (by injection e137)
                            replace hx137_0 := (HB.out.cell (World.block_lt_of_cell? w _ hx137_0)).trans hx137_0
                            replace hx137_1 := (HB.out.cell (World.block_lt_of_cell? w _ hx137_1)).trans hx137_1
                            replace hx137_2 := (HB.out.cell (World.block_lt_of_cell? w _ hx137_2)).trans hx137_2
                            replace hx137_3 := (HB.out.cell (World.block_lt_of_cell? w _ hx137_3)).trans hx137_3
                            replace p137 := eq_true p137
                            replace q137 := eq_true q137
                            have p138 : 0 ≤ (x5_1 : Int) := of_decide_eq_true (by first | (with_reducible assumption) | assumption)
                            have q138 : x5_1 < (l0.length : Int) := of_decide_eq_true (by first | (with_reducible assumption) | assumption)
                            obtain ⟨ad138, e138, hx138_0, hx138_1, hx138_2, hx138_3⟩ := at_T27 HR0.out x5_1 p138 q138
                            obtain rfl : ad136 = ad138 := (by injection e138)
                            replace hx138_0 := (HB.out.cell (World.block_lt_of_cell? w _ hx138_0)).trans hx138_0
                            replace hx138_1 := (HB.out.cell (World.block_lt_of_cell? w _ hx138_1)).trans hx138_1
                            replace hx138_2 := (HB.out.cell (World.block_lt_of_cell? w _ hx138_2)).trans hx138_2
                            replace hx138_3 := (HB.out.cell (World.block_lt_of_cell? w _ hx138_3)).trans hx138_3
                            replace p138 := eq_true p138
                            replace q138 := eq_true q138
                            go_wp2
                            repeat (go_quiet (fail); try go_wp2)
                            go_meet
                            case rel => exact ⟨_, (decide (((rd_T27 l0 x5_1).f0) > 3)), (by first | rfl | (simp; done) | (simp [*]; done)), H', ⟨by have := HK1.out; have := HK2.out; first | omega | exact Nat.le_refl _⟩, ⟨by (with_reducible repeat (first | apply Kd.R_alloc | apply Kd.R_drewN | apply Kd.R_drew)); exact HO_3.out⟩, ⟨by repeat (first | (with_reducible first | exact HB.out | apply below_alloc | apply pw_below_drewN | apply below_drew1) | exact HB.out)⟩⟩
                      · rw [if_neg c18] at H
                        exact absurd H (by simp)
                    · rw [if_neg c17] at H
                      exact absurd H (by simp)
                  case rest =>
                    clear HC16
                    try clear c1
                    try clear p1
                    try clear q1
                    try clear hx1
                    try clear c2
                    try clear p2
                    try clear c3
                    try clear c4
                    try clear c4b0
                    try clear c4b1
                    try clear p6
                    try clear c9
                    try clear c9b0
                    try clear c10
                    try clear c10b0
                    try clear c11
                    try clear c11b0
                    try clear c12
                    try clear c12b0
                    try clear c13
                    try clear c13b0
                    try clear p13
                    try clear q13
                    try clear hx13
                    try clear c14
                    try clear c14b0
                    try clear c15
                    try clear c15b0
                    try clear c15b1
                    try clear c17
                    try clear c17b0
                    try clear c18
                    try clear c18b0
                    try clear c19
                    try clear c19b0
                    try clear c20
                    try clear c20b0
                    try clear hx134_0
                    try clear hx134_1
                    try clear hx134_2
                    try clear hx134_3
                    try clear hx135_0
                    try clear hx135_1
                    try clear hx135_2
                    try clear hx135_3
                    try clear hx136_0
                    try clear hx136_1
                    try clear hx136_2
                    try clear hx136_3
                    try clear hx137_0
                    try clear hx137_1
                    try clear hx137_2
                    try clear hx137_3
                    try clear hx138_0
                    try clear hx138_1
                    try clear hx138_2
                    try clear hx138_3
                    try clear p134
                    try clear p135
                    try clear p136
                    try clear p137
                    try clear p138
                    try clear p2
                    try clear q134
                    try clear q135
                    try clear q136
                    try clear q137
                    try clear q138
                    obtain ⟨kq, x62_15, rfl, HA, HJ15, HO_3, HB⟩ := hcut
                    cases kq with
                    | zero => exact absurd HA.out (by simp [selvagelaw08_ActTiles.j2])
                    | succ kj15 =>
                      have H := HA.out
                      clear HA
                      simp only [selvagelaw08_ActTiles.j2] at H
                      by_cases c21 : x62_15 = true
                      · subst c21
                        have H1 : (some true) = some r := by rw [if_pos rfl] at H; exact H
                        clear H
                        have H := H1
                        clear H1
                        obtain rfl := Option.some.inj H
                        go_wp2
                        repeat (go_quiet (fail); try go_wp2)
                        go_ret
                        exact ⟨by first | rfl | (simp [errW_none, errW_some] <;> rfl) | (simp [*, errW_none, errW_some] <;> rfl), by repeat (first | (with_reducible first | exact HB.out | apply below_alloc | apply pw_below_drewN | apply below_drew1) | exact HB.out)⟩
                      · replace c21 := Bool.eq_false_iff.mpr c21
                        subst c21
                        have H1 : (if 0 ≤ x5_1 then (if x5_1 < (l0.length : Int) then ((act_Place.f kj15 l0 ((rd_T27 l0 x5_1).f1)).bind fun bt140 => (if bt140.2.2.2.2.2 = true then (if (!(bt140.1 == ((rd_T27 l0 x5_1).f0)) || (!(bt140.2.1.toList == (((rd_T27 l0 x5_1).f1).toList)) || (!(bt140.2.2.1 == ((rd_T27 l0 x5_1).f2)) || (!(bt140.2.2.2.1 == ((rd_T27 l0 x5_1).f3)))))) = true then (selvagelaw08_ActTiles.j3 kj15 l0 t131 x4_1 x5_1 true bt140.1 bt140.2.1 bt140.2.2.1 bt140.2.2.2.1) else (selvagelaw08_ActTiles.j3 kj15 l0 t131 x4_1 x5_1 (bt140.2.2.2.2.1 != x4_1) bt140.1 bt140.2.1 bt140.2.2.1 bt140.2.2.2.1)) else (selvagelaw08_ActTiles.j3 kj15 l0 t131 x4_1 x5_1 true bt140.1 bt140.2.1 bt140.2.2.1 bt140.2.2.2.1))) else (none)) else (none)) = some r := by rw [if_neg (show ¬ (false = true) by decide)] at H; exact H
                        clear H
                        have H := H1
                        clear H1
                        by_cases c22 : 0 ≤ x5_1
                        · rw [if_pos c22] at H
                          have c22b0 : decide (0 ≤ x5_1) = true := decide_eq_true c22
                          clear c22
                          by_cases c23 : x5_1 < (l0.length : Int)
                          · rw [if_pos c23] at H
                            have c23b0 : decide (x5_1 < (l0.length : Int)) = true := decide_eq_true c23
                            clear c23
                            replace H := Option.bind_eq_some_iff.mp H
                            obtain ⟨⟨t140, t141, t142, t143, t144, t145⟩, A240, H⟩ := H
                            replace H : (if t145 = true then (if (!(t140 == ((rd_T27 l0 x5_1).f0)) || (!(t141.toList == (((rd_T27 l0 x5_1).f1).toList)) || (!(t142 == ((rd_T27 l0 x5_1).f2)) || (!(t143 == ((rd_T27 l0 x5_1).f3)))))) = true then (selvagelaw08_ActTiles.j3 kj15 l0 t131 x4_1 x5_1 true t140 t141 t142 t143) else (selvagelaw08_ActTiles.j3 kj15 l0 t131 x4_1 x5_1 (t144 != x4_1) t140 t141 t142 t143)) else (selvagelaw08_ActTiles.j3 kj15 l0 t131 x4_1 x5_1 true t140 t141 t142 t143)) = some r := H
                            have A24 := Aside0.mk A240
                            clear A240
                            have HC25 := Aside0.mk H
                            clear H
                            have p139 : 0 ≤ (x5_1 : Int) := of_decide_eq_true (by first | (with_reducible assumption) | assumption)
                            have q139 : x5_1 < (l0.length : Int) := of_decide_eq_true (by first | (with_reducible assumption) | assumption)
                            obtain ⟨ad139, e139, hx139_0, hx139_1, hx139_2, hx139_3⟩ := at_T27 HR0.out x5_1 p139 q139
                            cases e139
                            replace hx139_0 := (HB.out.cell (World.block_lt_of_cell? w _ hx139_0)).trans hx139_0
                            replace hx139_1 := (HB.out.cell (World.block_lt_of_cell? w _ hx139_1)).trans hx139_1
                            replace hx139_2 := (HB.out.cell (World.block_lt_of_cell? w _ hx139_2)).trans hx139_2
                            replace hx139_3 := (HB.out.cell (World.block_lt_of_cell? w _ hx139_3)).trans hx139_3
                            replace p139 := eq_true p139
                            replace q139 := eq_true q139
                            go_upto_region 18 with (first | (go_at_call 9; (with_reducible refine (act_Place.calls kj15 _ _ l0 ((rd_T27 l0 x5_1).f1) t140 t141 t142 t143 t144 t145 _ ?side1 ?side2 A24.out).mono ?_); (case side1 => repeat (first | exact (Kd.C_below HR0.out HB.out) | (with_reducible refine Kd.C_alloc ?_ _) | (with_reducible refine Kd.C_drewN ?_ _) | (with_reducible refine Kd.C_drew ?_))); (case side2 => exact HC0.out); rintro e w26 ⟨rfl, hb⟩; have n0_ := Aside0.mk (Kd.R_below (by (with_reducible repeat (first | apply Kd.R_alloc | apply Kd.R_drewN | apply Kd.R_drew)); exact HO_3.out) hb); have n1_ := Aside0.mk (below_step (by repeat (first | (with_reducible first | exact HB.out | apply below_alloc | apply pw_below_drewN | apply below_drew1) | exact HB.out)) hb); clear HO_3; clear HB; have HO_3 := n0_; have HB := n1_; clear n0_ n1_; (try clear hb); (try clear hb2); (try clear hk); (try clear hi)) | ((with_reducible refine gate_dst (N := 7) rfl ?_); (try (refine gate_guard (by rfl) ?_; dsimp only)); refine box_event ?hg (N := 7) ?hd (cs := #[.int .i64 0, .string (⟨#[]⟩ : ByteArray), .int .i64 0, .int .i64 0]) (t := 27) ?hr ?_; (case hd => rfl); (case hg => rfl); (case hr => first | (go_simp; done) | (go_simp; rfl)); intro gb146 hg w27 hbox hb; have n0_ := Aside0.mk (Kd.R_below (by (with_reducible repeat (first | apply Kd.R_alloc | apply Kd.R_drewN | apply Kd.R_drew)); exact HO_3.out) hb); have n1_ := Aside0.mk (below_step (by repeat (first | (with_reducible first | exact HB.out | apply below_alloc | apply pw_below_drewN | apply below_drew1) | exact HB.out)) hb); have n2_ := Aside0.mk (hbox); have n3_ := Aside0.mk ((by rw [hg]; exact (below_size (by repeat (first | (with_reducible first | exact HB.out | apply below_alloc | apply pw_below_drewN | apply below_drew1) | exact HB.out))) : w.heap.size ≤ gb146)); have n4_ := Aside0.mk ((by rw [hg]; exact (below_size (by repeat (first | (with_reducible first | exact HB.out | apply below_alloc | apply pw_below_drewN | apply below_drew1) | exact HB.out))) : w.heap.size ≤ gb146)); clear HO_3; clear HB; have HO_3 := n0_; have HB := n1_; have BK146 := n2_; have GW146 := n3_; have GE146 := n4_; clear n0_ n1_ n2_ n3_ n4_; clear hb hbox hg; have hcz28_0 : w27.cell? ⟨gb146, 0, none⟩ = some (.int .i64 0) := (blk_cell BK146.out 0).trans rfl; have hcz28_1 : w27.cell? ⟨gb146, 1, none⟩ = some (.string (⟨#[]⟩ : ByteArray)) := (blk_cell BK146.out 1).trans rfl; have hcz28_2 : w27.cell? ⟨gb146, 2, none⟩ = some (.int .i64 0) := (blk_cell BK146.out 2).trans rfl; have hcz28_3 : w27.cell? ⟨gb146, 3, none⟩ = some (.int .i64 0) := (blk_cell BK146.out 3).trans rfl; have hfz28_0 := blk_frozen BK146.out 0; have hfz28_1 := blk_frozen BK146.out 1; have hfz28_2 := blk_frozen BK146.out 2; have hfz28_3 := blk_frozen BK146.out 3))
                            repeat (go_quiet (first | (go_at_call 9; (with_reducible refine (act_Place.calls kj15 _ _ l0 ((rd_T27 l0 x5_1).f1) t140 t141 t142 t143 t144 t145 _ ?side1 ?side2 A24.out).mono ?_); (case side1 => repeat (first | exact (Kd.C_below HR0.out HB.out) | (with_reducible refine Kd.C_alloc ?_ _) | (with_reducible refine Kd.C_drewN ?_ _) | (with_reducible refine Kd.C_drew ?_))); (case side2 => exact HC0.out); rintro e w26 ⟨rfl, hb⟩; have n0_ := Aside0.mk (Kd.R_below (by (with_reducible repeat (first | apply Kd.R_alloc | apply Kd.R_drewN | apply Kd.R_drew)); exact HO_3.out) hb); have n1_ := Aside0.mk (below_step (by repeat (first | (with_reducible first | exact HB.out | apply below_alloc | apply pw_below_drewN | apply below_drew1) | exact HB.out)) hb); clear HO_3; clear HB; have HO_3 := n0_; have HB := n1_; clear n0_ n1_; (try clear hb); (try clear hb2); (try clear hk); (try clear hi)) | ((with_reducible refine gate_dst (N := 7) rfl ?_); (try (refine gate_guard (by rfl) ?_; dsimp only)); refine box_event ?hg (N := 7) ?hd (cs := #[.int .i64 0, .string (⟨#[]⟩ : ByteArray), .int .i64 0, .int .i64 0]) (t := 27) ?hr ?_; (case hd => rfl); (case hg => rfl); (case hr => first | (go_simp; done) | (go_simp; rfl)); intro gb146 hg w27 hbox hb; have n0_ := Aside0.mk (Kd.R_below (by (with_reducible repeat (first | apply Kd.R_alloc | apply Kd.R_drewN | apply Kd.R_drew)); exact HO_3.out) hb); have n1_ := Aside0.mk (below_step (by repeat (first | (with_reducible first | exact HB.out | apply below_alloc | apply pw_below_drewN | apply below_drew1) | exact HB.out)) hb); have n2_ := Aside0.mk (hbox); have n3_ := Aside0.mk ((by rw [hg]; exact (below_size (by repeat (first | (with_reducible first | exact HB.out | apply below_alloc | apply pw_below_drewN | apply below_drew1) | exact HB.out))) : w.heap.size ≤ gb146)); have n4_ := Aside0.mk ((by rw [hg]; exact (below_size (by repeat (first | (with_reducible first | exact HB.out | apply below_alloc | apply pw_below_drewN | apply below_drew1) | exact HB.out))) : w.heap.size ≤ gb146)); clear HO_3; clear HB; have HO_3 := n0_; have HB := n1_; have BK146 := n2_; have GW146 := n3_; have GE146 := n4_; clear n0_ n1_ n2_ n3_ n4_; clear hb hbox hg; have hcz28_0 : w27.cell? ⟨gb146, 0, none⟩ = some (.int .i64 0) := (blk_cell BK146.out 0).trans rfl; have hcz28_1 : w27.cell? ⟨gb146, 1, none⟩ = some (.string (⟨#[]⟩ : ByteArray)) := (blk_cell BK146.out 1).trans rfl; have hcz28_2 : w27.cell? ⟨gb146, 2, none⟩ = some (.int .i64 0) := (blk_cell BK146.out 2).trans rfl; have hcz28_3 : w27.cell? ⟨gb146, 3, none⟩ = some (.int .i64 0) := (blk_cell BK146.out 3).trans rfl; have hfz28_0 := blk_frozen BK146.out 0; have hfz28_1 := blk_frozen BK146.out 1; have hfz28_2 := blk_frozen BK146.out 2; have hfz28_3 := blk_frozen BK146.out 3)); go_upto_region 18 with (first | (go_at_call 9; (with_reducible refine (act_Place.calls kj15 _ _ l0 ((rd_T27 l0 x5_1).f1) t140 t141 t142 t143 t144 t145 _ ?side1 ?side2 A24.out).mono ?_); (case side1 => repeat (first | exact (Kd.C_below HR0.out HB.out) | (with_reducible refine Kd.C_alloc ?_ _) | (with_reducible refine Kd.C_drewN ?_ _) | (with_reducible refine Kd.C_drew ?_))); (case side2 => exact HC0.out); rintro e w26 ⟨rfl, hb⟩; have n0_ := Aside0.mk (Kd.R_below (by (with_reducible repeat (first | apply Kd.R_alloc | apply Kd.R_drewN | apply Kd.R_drew)); exact HO_3.out) hb); have n1_ := Aside0.mk (below_step (by repeat (first | (with_reducible first | exact HB.out | apply below_alloc | apply pw_below_drewN | apply below_drew1) | exact HB.out)) hb); clear HO_3; clear HB; have HO_3 := n0_; have HB := n1_; clear n0_ n1_; (try clear hb); (try clear hb2); (try clear hk); (try clear hi)) | ((with_reducible refine gate_dst (N := 7) rfl ?_); (try (refine gate_guard (by rfl) ?_; dsimp only)); refine box_event ?hg (N := 7) ?hd (cs := #[.int .i64 0, .string (⟨#[]⟩ : ByteArray), .int .i64 0, .int .i64 0]) (t := 27) ?hr ?_; (case hd => rfl); (case hg => rfl); (case hr => first | (go_simp; done) | (go_simp; rfl)); intro gb146 hg w27 hbox hb; have n0_ := Aside0.mk (Kd.R_below (by (with_reducible repeat (first | apply Kd.R_alloc | apply Kd.R_drewN | apply Kd.R_drew)); exact HO_3.out) hb); have n1_ := Aside0.mk (below_step (by repeat (first | (with_reducible first | exact HB.out | apply below_alloc | apply pw_below_drewN | apply below_drew1) | exact HB.out)) hb); have n2_ := Aside0.mk (hbox); have n3_ := Aside0.mk ((by rw [hg]; exact (below_size (by repeat (first | (with_reducible first | exact HB.out | apply below_alloc | apply pw_below_drewN | apply below_drew1) | exact HB.out))) : w.heap.size ≤ gb146)); have n4_ := Aside0.mk ((by rw [hg]; exact (below_size (by repeat (first | (with_reducible first | exact HB.out | apply below_alloc | apply pw_below_drewN | apply below_drew1) | exact HB.out))) : w.heap.size ≤ gb146)); clear HO_3; clear HB; have HO_3 := n0_; have HB := n1_; have BK146 := n2_; have GW146 := n3_; have GE146 := n4_; clear n0_ n1_ n2_ n3_ n4_; clear hb hbox hg; have hcz28_0 : w27.cell? ⟨gb146, 0, none⟩ = some (.int .i64 0) := (blk_cell BK146.out 0).trans rfl; have hcz28_1 : w27.cell? ⟨gb146, 1, none⟩ = some (.string (⟨#[]⟩ : ByteArray)) := (blk_cell BK146.out 1).trans rfl; have hcz28_2 : w27.cell? ⟨gb146, 2, none⟩ = some (.int .i64 0) := (blk_cell BK146.out 2).trans rfl; have hcz28_3 : w27.cell? ⟨gb146, 3, none⟩ = some (.int .i64 0) := (blk_cell BK146.out 3).trans rfl; have hfz28_0 := blk_frozen BK146.out 0; have hfz28_1 := blk_frozen BK146.out 1; have hfz28_2 := blk_frozen BK146.out 2; have hfz28_3 := blk_frozen BK146.out 3)))
                            (try simp only [Act.put, List.setIfInBounds_toArray, List.set_cons_zero, List.set_cons_succ])
                            go_cut [88] (fun v88 wc => ∃ (kq : Nat) (x88_24 : Bool), v88 = .bool x88_24 ∧ Aside0 (selvagelaw08_ActTiles.j3 kq l0 t131 x4_1 x5_1 x88_24 t140 t141 t142 t143 = some r) ∧ Aside0 (kq ≤ kj15) ∧ Aside0 (Kd.R k31 31 wc w.heap.size (fun _ => True) v132 t131) ∧ Aside0 (wc.heap[gb146]? = some (.cells #[.int .i64 t140, .string t141, .int .i64 t142, .int .i64 t143] 27 (0, 0))) ∧ Aside0 (Below w.heap.size w wc))
                            case first =>
                              have H := HC25.out
                              clear HC25
                              by_cases c29 : t145 = true
                              · subst c29
                                have H1 : (if (!(t140 == ((rd_T27 l0 x5_1).f0)) || (!(t141.toList == (((rd_T27 l0 x5_1).f1).toList)) || (!(t142 == ((rd_T27 l0 x5_1).f2)) || (!(t143 == ((rd_T27 l0 x5_1).f3)))))) = true then (selvagelaw08_ActTiles.j3 kj15 l0 t131 x4_1 x5_1 true t140 t141 t142 t143) else (selvagelaw08_ActTiles.j3 kj15 l0 t131 x4_1 x5_1 (t144 != x4_1) t140 t141 t142 t143)) = some r := by rw [if_pos rfl] at H; exact H
                                clear H
                                have H := H1
                                clear H1
                                by_cases c30 : (!(t140 == ((rd_T27 l0 x5_1).f0)) || (!(t141.toList == (((rd_T27 l0 x5_1).f1).toList)) || (!(t142 == ((rd_T27 l0 x5_1).f2)) || (!(t143 == ((rd_T27 l0 x5_1).f3)))))) = true
                                · rw [if_pos c30] at H
                                  have c30b0 : (!(t140 == ((rd_T27 l0 x5_1).f0)) || (!(t141.toList == (((rd_T27 l0 x5_1).f1).toList)) || (!(t142 == ((rd_T27 l0 x5_1).f2)) || (!(t143 == ((rd_T27 l0 x5_1).f3)))))) = true := c30
                                  clear c30
                                  (first | rw [c30b0] | (simp only [i64_w, i32_w]; rw [c30b0]) | skip)
                                  have H' := Aside0.mk H
                                  clear H
                                  have hcz31_0 : w27.cell? ⟨gb146, 0, none⟩ = some (.int .i64 0) := (blk_cell BK146.out 0).trans rfl
                                  have hcz31_1 : w27.cell? ⟨gb146, 1, none⟩ = some (.string (⟨#[]⟩ : ByteArray)) := (blk_cell BK146.out 1).trans rfl
                                  have hcz31_2 : w27.cell? ⟨gb146, 2, none⟩ = some (.int .i64 0) := (blk_cell BK146.out 2).trans rfl
                                  have hcz31_3 : w27.cell? ⟨gb146, 3, none⟩ = some (.int .i64 0) := (blk_cell BK146.out 3).trans rfl
                                  have hfz31_0 := blk_frozen BK146.out 0
                                  have hfz31_1 := blk_frozen BK146.out 1
                                  have hfz31_2 := blk_frozen BK146.out 2
                                  have hfz31_3 := blk_frozen BK146.out 3
                                  have p147 : 0 ≤ (x5_1 : Int) := of_decide_eq_true (by first | (with_reducible assumption) | assumption)
                                  have q147 : x5_1 < (l0.length : Int) := of_decide_eq_true (by first | (with_reducible assumption) | assumption)
                                  obtain ⟨ad147, e147, hx147_0, hx147_1, hx147_2, hx147_3⟩ := at_T27 HR0.out x5_1 p147 q147
                                  obtain rfl : ad139 = ad147 := (by injection e147)
                                  have hn147_0 : ad139.block ≠ gb146 := Nat.ne_of_lt (Nat.lt_of_lt_of_le (by have := World.block_lt_of_cell? _ _ hx147_0; first | rwa [add_block] at this | exact this) GW146.out)
                                  have hn147_1 : ad139.block ≠ gb146 := Nat.ne_of_lt (Nat.lt_of_lt_of_le (by have := World.block_lt_of_cell? _ _ hx147_0; first | rwa [add_block] at this | exact this) GW146.out)
                                  have hn147_2 : ad139.block ≠ gb146 := Nat.ne_of_lt (Nat.lt_of_lt_of_le (by have := World.block_lt_of_cell? _ _ hx147_0; first | rwa [add_block] at this | exact this) GW146.out)
                                  have hn147_3 : ad139.block ≠ gb146 := Nat.ne_of_lt (Nat.lt_of_lt_of_le (by have := World.block_lt_of_cell? _ _ hx147_0; first | rwa [add_block] at this | exact this) GW146.out)
                                  replace hx147_0 := (HB.out.cell (World.block_lt_of_cell? w _ hx147_0)).trans hx147_0
                                  replace hx147_1 := (HB.out.cell (World.block_lt_of_cell? w _ hx147_1)).trans hx147_1
                                  replace hx147_2 := (HB.out.cell (World.block_lt_of_cell? w _ hx147_2)).trans hx147_2
                                  replace hx147_3 := (HB.out.cell (World.block_lt_of_cell? w _ hx147_3)).trans hx147_3
                                  replace hx147_0 := (cell_far (p := ⟨gb146, 0, none⟩) (by first | (rw [add_block]; exact hn147_0) | (show (Addr.add _ _).block ≠ _; rw [add_block]; exact hn147_0) | exact hn147_0) (.int .i64 t140)).trans hx147_0
                                  replace hx147_1 := (cell_far (p := ⟨gb146, 0, none⟩) (by first | (rw [add_block]; exact hn147_0) | (show (Addr.add _ _).block ≠ _; rw [add_block]; exact hn147_0) | exact hn147_0) (.int .i64 t140)).trans hx147_1
                                  replace hx147_2 := (cell_far (p := ⟨gb146, 0, none⟩) (by first | (rw [add_block]; exact hn147_0) | (show (Addr.add _ _).block ≠ _; rw [add_block]; exact hn147_0) | exact hn147_0) (.int .i64 t140)).trans hx147_2
                                  replace hx147_3 := (cell_far (p := ⟨gb146, 0, none⟩) (by first | (rw [add_block]; exact hn147_0) | (show (Addr.add _ _).block ≠ _; rw [add_block]; exact hn147_0) | exact hn147_0) (.int .i64 t140)).trans hx147_3
                                  replace hx147_0 := (cell_far (p := ⟨gb146, 1, none⟩) (by first | (rw [add_block]; exact hn147_1) | (show (Addr.add _ _).block ≠ _; rw [add_block]; exact hn147_1) | exact hn147_1) (.string t141)).trans hx147_0
                                  replace hx147_1 := (cell_far (p := ⟨gb146, 1, none⟩) (by first | (rw [add_block]; exact hn147_1) | (show (Addr.add _ _).block ≠ _; rw [add_block]; exact hn147_1) | exact hn147_1) (.string t141)).trans hx147_1
                                  replace hx147_2 := (cell_far (p := ⟨gb146, 1, none⟩) (by first | (rw [add_block]; exact hn147_1) | (show (Addr.add _ _).block ≠ _; rw [add_block]; exact hn147_1) | exact hn147_1) (.string t141)).trans hx147_2
                                  replace hx147_3 := (cell_far (p := ⟨gb146, 1, none⟩) (by first | (rw [add_block]; exact hn147_1) | (show (Addr.add _ _).block ≠ _; rw [add_block]; exact hn147_1) | exact hn147_1) (.string t141)).trans hx147_3
                                  replace hx147_0 := (cell_far (p := ⟨gb146, 2, none⟩) (by first | (rw [add_block]; exact hn147_2) | (show (Addr.add _ _).block ≠ _; rw [add_block]; exact hn147_2) | exact hn147_2) (.int .i64 t142)).trans hx147_0
                                  replace hx147_1 := (cell_far (p := ⟨gb146, 2, none⟩) (by first | (rw [add_block]; exact hn147_2) | (show (Addr.add _ _).block ≠ _; rw [add_block]; exact hn147_2) | exact hn147_2) (.int .i64 t142)).trans hx147_1
                                  replace hx147_2 := (cell_far (p := ⟨gb146, 2, none⟩) (by first | (rw [add_block]; exact hn147_2) | (show (Addr.add _ _).block ≠ _; rw [add_block]; exact hn147_2) | exact hn147_2) (.int .i64 t142)).trans hx147_2
                                  replace hx147_3 := (cell_far (p := ⟨gb146, 2, none⟩) (by first | (rw [add_block]; exact hn147_2) | (show (Addr.add _ _).block ≠ _; rw [add_block]; exact hn147_2) | exact hn147_2) (.int .i64 t142)).trans hx147_3
                                  replace hx147_0 := (cell_far (p := ⟨gb146, 3, none⟩) (by first | (rw [add_block]; exact hn147_3) | (show (Addr.add _ _).block ≠ _; rw [add_block]; exact hn147_3) | exact hn147_3) (.int .i64 t143)).trans hx147_0
                                  replace hx147_1 := (cell_far (p := ⟨gb146, 3, none⟩) (by first | (rw [add_block]; exact hn147_3) | (show (Addr.add _ _).block ≠ _; rw [add_block]; exact hn147_3) | exact hn147_3) (.int .i64 t143)).trans hx147_1
                                  replace hx147_2 := (cell_far (p := ⟨gb146, 3, none⟩) (by first | (rw [add_block]; exact hn147_3) | (show (Addr.add _ _).block ≠ _; rw [add_block]; exact hn147_3) | exact hn147_3) (.int .i64 t143)).trans hx147_2
                                  replace hx147_3 := (cell_far (p := ⟨gb146, 3, none⟩) (by first | (rw [add_block]; exact hn147_3) | (show (Addr.add _ _).block ≠ _; rw [add_block]; exact hn147_3) | exact hn147_3) (.int .i64 t143)).trans hx147_3
                                  (try have hy147_0 := fun (n_ : Nat) => (show ((((((w27.drewN n_).setCell ⟨gb146, 0, none⟩ (.int .i64 t140)).setCell ⟨gb146, 1, none⟩ (.string t141)).setCell ⟨gb146, 2, none⟩ (.int .i64 t142)).setCell ⟨gb146, 3, none⟩ (.int .i64 t143))).cell? _ = some _ from hx147_0))
                                  (try have hy147_1 := fun (n_ : Nat) => (show ((((((w27.drewN n_).setCell ⟨gb146, 0, none⟩ (.int .i64 t140)).setCell ⟨gb146, 1, none⟩ (.string t141)).setCell ⟨gb146, 2, none⟩ (.int .i64 t142)).setCell ⟨gb146, 3, none⟩ (.int .i64 t143))).cell? _ = some _ from hx147_1))
                                  (try have hy147_2 := fun (n_ : Nat) => (show ((((((w27.drewN n_).setCell ⟨gb146, 0, none⟩ (.int .i64 t140)).setCell ⟨gb146, 1, none⟩ (.string t141)).setCell ⟨gb146, 2, none⟩ (.int .i64 t142)).setCell ⟨gb146, 3, none⟩ (.int .i64 t143))).cell? _ = some _ from hx147_2))
                                  (try have hy147_3 := fun (n_ : Nat) => (show ((((((w27.drewN n_).setCell ⟨gb146, 0, none⟩ (.int .i64 t140)).setCell ⟨gb146, 1, none⟩ (.string t141)).setCell ⟨gb146, 2, none⟩ (.int .i64 t142)).setCell ⟨gb146, 3, none⟩ (.int .i64 t143))).cell? _ = some _ from hx147_3))
                                  clear hn147_0
                                  clear hn147_1
                                  clear hn147_2
                                  clear hn147_3
                                  replace p147 := eq_true p147
                                  replace q147 := eq_true q147
                                  go_wp2
                                  repeat (go_quiet (fail); try go_wp2)
                                  go_meet
                                  case rel => exact ⟨_, (true), (by first | rfl | (simp; done) | (simp [*]; done)), H', ⟨by have := HK1.out; have := HK2.out; have := HJ15.out; first | omega | exact Nat.le_refl _⟩, ⟨by (with_reducible repeat (first | apply Kd.R_alloc | apply Kd.R_drewN | apply Kd.R_drew)); exact Kd.R_mono (Kd.R_far (p := ⟨gb146, 3, none⟩) (Kd.R_far (p := ⟨gb146, 2, none⟩) (Kd.R_far (p := ⟨gb146, 1, none⟩) (Kd.R_far (p := ⟨gb146, 0, none⟩) (Kd.R_types HO_3.out BK146.out (by decide)) (fun _ hk => hk.2) (.int .i64 t140)) (fun _ hk => hk.2) (.string t141)) (fun _ hk => hk.2) (.int .i64 t142)) (fun _ hk => hk.2) (.int .i64 t143)) (fun _ hk => trivial)⟩, ⟨by (with_reducible repeat (first | refine blk_drewN ?_ _ | refine blk_drew ?_ | refine blk_alloc ?_ _)); refine blk_put (cs := #[.int .i64 t140, .string t141, .int .i64 t142, .int .i64 0]) ?_ 3 _ rfl; (with_reducible repeat (first | refine blk_drewN ?_ _ | refine blk_drew ?_ | refine blk_alloc ?_ _)); refine blk_put (cs := #[.int .i64 t140, .string t141, .int .i64 0, .int .i64 0]) ?_ 2 _ rfl; (with_reducible repeat (first | refine blk_drewN ?_ _ | refine blk_drew ?_ | refine blk_alloc ?_ _)); refine blk_put (cs := #[.int .i64 t140, .string (⟨#[]⟩ : ByteArray), .int .i64 0, .int .i64 0]) ?_ 1 _ rfl; (with_reducible repeat (first | refine blk_drewN ?_ _ | refine blk_drew ?_ | refine blk_alloc ?_ _)); refine blk_put (cs := #[.int .i64 0, .string (⟨#[]⟩ : ByteArray), .int .i64 0, .int .i64 0]) ?_ 0 _ rfl; (with_reducible repeat (first | refine blk_drewN ?_ _ | refine blk_drew ?_ | refine blk_alloc ?_ _)); exact BK146.out⟩, ⟨by repeat (first | (with_reducible first | exact HB.out | apply below_alloc | apply pw_below_drewN | apply below_drew1 | refine below_set ?_ GE146.out) | exact HB.out)⟩⟩
                                · rw [if_neg c30] at H
                                  have c30b0 : (!(t140 == ((rd_T27 l0 x5_1).f0)) || (!(t141.toList == (((rd_T27 l0 x5_1).f1).toList)) || (!(t142 == ((rd_T27 l0 x5_1).f2)) || (!(t143 == ((rd_T27 l0 x5_1).f3)))))) = false := by simpa using c30
                                  clear c30
                                  (first | rw [c30b0] | (simp only [i64_w, i32_w]; rw [c30b0]) | skip)
                                  have H' := Aside0.mk H
                                  clear H
                                  have hcz32_0 : w27.cell? ⟨gb146, 0, none⟩ = some (.int .i64 0) := (blk_cell BK146.out 0).trans rfl
                                  have hcz32_1 : w27.cell? ⟨gb146, 1, none⟩ = some (.string (⟨#[]⟩ : ByteArray)) := (blk_cell BK146.out 1).trans rfl
                                  have hcz32_2 : w27.cell? ⟨gb146, 2, none⟩ = some (.int .i64 0) := (blk_cell BK146.out 2).trans rfl
                                  have hcz32_3 : w27.cell? ⟨gb146, 3, none⟩ = some (.int .i64 0) := (blk_cell BK146.out 3).trans rfl
                                  have hfz32_0 := blk_frozen BK146.out 0
                                  have hfz32_1 := blk_frozen BK146.out 1
                                  have hfz32_2 := blk_frozen BK146.out 2
                                  have hfz32_3 := blk_frozen BK146.out 3
                                  have p147 : 0 ≤ (x5_1 : Int) := of_decide_eq_true (by first | (with_reducible assumption) | assumption)
                                  have q147 : x5_1 < (l0.length : Int) := of_decide_eq_true (by first | (with_reducible assumption) | assumption)
                                  obtain ⟨ad147, e147, hx147_0, hx147_1, hx147_2, hx147_3⟩ := at_T27 HR0.out x5_1 p147 q147
                                  obtain rfl : ad139 = ad147 := (by injection e147)
                                  have hn147_0 : ad139.block ≠ gb146 := Nat.ne_of_lt (Nat.lt_of_lt_of_le (by have := World.block_lt_of_cell? _ _ hx147_0; first | rwa [add_block] at this | exact this) GW146.out)
                                  have hn147_1 : ad139.block ≠ gb146 := Nat.ne_of_lt (Nat.lt_of_lt_of_le (by have := World.block_lt_of_cell? _ _ hx147_0; first | rwa [add_block] at this | exact this) GW146.out)
                                  have hn147_2 : ad139.block ≠ gb146 := Nat.ne_of_lt (Nat.lt_of_lt_of_le (by have := World.block_lt_of_cell? _ _ hx147_0; first | rwa [add_block] at this | exact this) GW146.out)
                                  have hn147_3 : ad139.block ≠ gb146 := Nat.ne_of_lt (Nat.lt_of_lt_of_le (by have := World.block_lt_of_cell? _ _ hx147_0; first | rwa [add_block] at this | exact this) GW146.out)
                                  replace hx147_0 := (HB.out.cell (World.block_lt_of_cell? w _ hx147_0)).trans hx147_0
                                  replace hx147_1 := (HB.out.cell (World.block_lt_of_cell? w _ hx147_1)).trans hx147_1
                                  replace hx147_2 := (HB.out.cell (World.block_lt_of_cell? w _ hx147_2)).trans hx147_2
                                  replace hx147_3 := (HB.out.cell (World.block_lt_of_cell? w _ hx147_3)).trans hx147_3
                                  replace hx147_0 := (cell_far (p := ⟨gb146, 0, none⟩) (by first | (rw [add_block]; exact hn147_0) | (show (Addr.add _ _).block ≠ _; rw [add_block]; exact hn147_0) | exact hn147_0) (.int .i64 t140)).trans hx147_0
                                  replace hx147_1 := (cell_far (p := ⟨gb146, 0, none⟩) (by first | (rw [add_block]; exact hn147_0) | (show (Addr.add _ _).block ≠ _; rw [add_block]; exact hn147_0) | exact hn147_0) (.int .i64 t140)).trans hx147_1
                                  replace hx147_2 := (cell_far (p := ⟨gb146, 0, none⟩) (by first | (rw [add_block]; exact hn147_0) | (show (Addr.add _ _).block ≠ _; rw [add_block]; exact hn147_0) | exact hn147_0) (.int .i64 t140)).trans hx147_2
                                  replace hx147_3 := (cell_far (p := ⟨gb146, 0, none⟩) (by first | (rw [add_block]; exact hn147_0) | (show (Addr.add _ _).block ≠ _; rw [add_block]; exact hn147_0) | exact hn147_0) (.int .i64 t140)).trans hx147_3
                                  replace hx147_0 := (cell_far (p := ⟨gb146, 1, none⟩) (by first | (rw [add_block]; exact hn147_1) | (show (Addr.add _ _).block ≠ _; rw [add_block]; exact hn147_1) | exact hn147_1) (.string t141)).trans hx147_0
                                  replace hx147_1 := (cell_far (p := ⟨gb146, 1, none⟩) (by first | (rw [add_block]; exact hn147_1) | (show (Addr.add _ _).block ≠ _; rw [add_block]; exact hn147_1) | exact hn147_1) (.string t141)).trans hx147_1
                                  replace hx147_2 := (cell_far (p := ⟨gb146, 1, none⟩) (by first | (rw [add_block]; exact hn147_1) | (show (Addr.add _ _).block ≠ _; rw [add_block]; exact hn147_1) | exact hn147_1) (.string t141)).trans hx147_2
                                  replace hx147_3 := (cell_far (p := ⟨gb146, 1, none⟩) (by first | (rw [add_block]; exact hn147_1) | (show (Addr.add _ _).block ≠ _; rw [add_block]; exact hn147_1) | exact hn147_1) (.string t141)).trans hx147_3
                                  replace hx147_0 := (cell_far (p := ⟨gb146, 2, none⟩) (by first | (rw [add_block]; exact hn147_2) | (show (Addr.add _ _).block ≠ _; rw [add_block]; exact hn147_2) | exact hn147_2) (.int .i64 t142)).trans hx147_0
                                  replace hx147_1 := (cell_far (p := ⟨gb146, 2, none⟩) (by first | (rw [add_block]; exact hn147_2) | (show (Addr.add _ _).block ≠ _; rw [add_block]; exact hn147_2) | exact hn147_2) (.int .i64 t142)).trans hx147_1
                                  replace hx147_2 := (cell_far (p := ⟨gb146, 2, none⟩) (by first | (rw [add_block]; exact hn147_2) | (show (Addr.add _ _).block ≠ _; rw [add_block]; exact hn147_2) | exact hn147_2) (.int .i64 t142)).trans hx147_2
                                  replace hx147_3 := (cell_far (p := ⟨gb146, 2, none⟩) (by first | (rw [add_block]; exact hn147_2) | (show (Addr.add _ _).block ≠ _; rw [add_block]; exact hn147_2) | exact hn147_2) (.int .i64 t142)).trans hx147_3
                                  replace hx147_0 := (cell_far (p := ⟨gb146, 3, none⟩) (by first | (rw [add_block]; exact hn147_3) | (show (Addr.add _ _).block ≠ _; rw [add_block]; exact hn147_3) | exact hn147_3) (.int .i64 t143)).trans hx147_0
                                  replace hx147_1 := (cell_far (p := ⟨gb146, 3, none⟩) (by first | (rw [add_block]; exact hn147_3) | (show (Addr.add _ _).block ≠ _; rw [add_block]; exact hn147_3) | exact hn147_3) (.int .i64 t143)).trans hx147_1
                                  replace hx147_2 := (cell_far (p := ⟨gb146, 3, none⟩) (by first | (rw [add_block]; exact hn147_3) | (show (Addr.add _ _).block ≠ _; rw [add_block]; exact hn147_3) | exact hn147_3) (.int .i64 t143)).trans hx147_2
                                  replace hx147_3 := (cell_far (p := ⟨gb146, 3, none⟩) (by first | (rw [add_block]; exact hn147_3) | (show (Addr.add _ _).block ≠ _; rw [add_block]; exact hn147_3) | exact hn147_3) (.int .i64 t143)).trans hx147_3
                                  (try have hy147_0 := fun (n_ : Nat) => (show ((((((w27.drewN n_).setCell ⟨gb146, 0, none⟩ (.int .i64 t140)).setCell ⟨gb146, 1, none⟩ (.string t141)).setCell ⟨gb146, 2, none⟩ (.int .i64 t142)).setCell ⟨gb146, 3, none⟩ (.int .i64 t143))).cell? _ = some _ from hx147_0))
                                  (try have hy147_1 := fun (n_ : Nat) => (show ((((((w27.drewN n_).setCell ⟨gb146, 0, none⟩ (.int .i64 t140)).setCell ⟨gb146, 1, none⟩ (.string t141)).setCell ⟨gb146, 2, none⟩ (.int .i64 t142)).setCell ⟨gb146, 3, none⟩ (.int .i64 t143))).cell? _ = some _ from hx147_1))
                                  (try have hy147_2 := fun (n_ : Nat) => (show ((((((w27.drewN n_).setCell ⟨gb146, 0, none⟩ (.int .i64 t140)).setCell ⟨gb146, 1, none⟩ (.string t141)).setCell ⟨gb146, 2, none⟩ (.int .i64 t142)).setCell ⟨gb146, 3, none⟩ (.int .i64 t143))).cell? _ = some _ from hx147_2))
                                  (try have hy147_3 := fun (n_ : Nat) => (show ((((((w27.drewN n_).setCell ⟨gb146, 0, none⟩ (.int .i64 t140)).setCell ⟨gb146, 1, none⟩ (.string t141)).setCell ⟨gb146, 2, none⟩ (.int .i64 t142)).setCell ⟨gb146, 3, none⟩ (.int .i64 t143))).cell? _ = some _ from hx147_3))
                                  clear hn147_0
                                  clear hn147_1
                                  clear hn147_2
                                  clear hn147_3
                                  replace p147 := eq_true p147
                                  replace q147 := eq_true q147
                                  go_wp2
                                  repeat (go_quiet (fail); try go_wp2)
                                  go_meet
                                  case rel => exact ⟨_, ((t144 != x4_1)), (by first | rfl | (simp; done) | (simp [*]; done)), H', ⟨by have := HK1.out; have := HK2.out; have := HJ15.out; first | omega | exact Nat.le_refl _⟩, ⟨by (with_reducible repeat (first | apply Kd.R_alloc | apply Kd.R_drewN | apply Kd.R_drew)); exact Kd.R_mono (Kd.R_far (p := ⟨gb146, 3, none⟩) (Kd.R_far (p := ⟨gb146, 2, none⟩) (Kd.R_far (p := ⟨gb146, 1, none⟩) (Kd.R_far (p := ⟨gb146, 0, none⟩) (Kd.R_types HO_3.out BK146.out (by decide)) (fun _ hk => hk.2) (.int .i64 t140)) (fun _ hk => hk.2) (.string t141)) (fun _ hk => hk.2) (.int .i64 t142)) (fun _ hk => hk.2) (.int .i64 t143)) (fun _ hk => trivial)⟩, ⟨by (with_reducible repeat (first | refine blk_drewN ?_ _ | refine blk_drew ?_ | refine blk_alloc ?_ _)); refine blk_put (cs := #[.int .i64 t140, .string t141, .int .i64 t142, .int .i64 0]) ?_ 3 _ rfl; (with_reducible repeat (first | refine blk_drewN ?_ _ | refine blk_drew ?_ | refine blk_alloc ?_ _)); refine blk_put (cs := #[.int .i64 t140, .string t141, .int .i64 0, .int .i64 0]) ?_ 2 _ rfl; (with_reducible repeat (first | refine blk_drewN ?_ _ | refine blk_drew ?_ | refine blk_alloc ?_ _)); refine blk_put (cs := #[.int .i64 t140, .string (⟨#[]⟩ : ByteArray), .int .i64 0, .int .i64 0]) ?_ 1 _ rfl; (with_reducible repeat (first | refine blk_drewN ?_ _ | refine blk_drew ?_ | refine blk_alloc ?_ _)); refine blk_put (cs := #[.int .i64 0, .string (⟨#[]⟩ : ByteArray), .int .i64 0, .int .i64 0]) ?_ 0 _ rfl; (with_reducible repeat (first | refine blk_drewN ?_ _ | refine blk_drew ?_ | refine blk_alloc ?_ _)); exact BK146.out⟩, ⟨by repeat (first | (with_reducible first | exact HB.out | apply below_alloc | apply pw_below_drewN | apply below_drew1 | refine below_set ?_ GE146.out) | exact HB.out)⟩⟩
                              · replace c29 := Bool.eq_false_iff.mpr c29
                                subst c29
                                have H1 : (selvagelaw08_ActTiles.j3 kj15 l0 t131 x4_1 x5_1 true t140 t141 t142 t143) = some r := by rw [if_neg (show ¬ (false = true) by decide)] at H; exact H
                                clear H
                                have H := H1
                                clear H1
                                have H' := Aside0.mk H
                                clear H
                                go_wp2
                                repeat (go_quiet (fail); try go_wp2)
                                go_meet
                                case rel => exact ⟨_, (true), (by first | rfl | (simp; done) | (simp [*]; done)), H', ⟨by have := HK1.out; have := HK2.out; have := HJ15.out; first | omega | exact Nat.le_refl _⟩, ⟨by (with_reducible repeat (first | apply Kd.R_alloc | apply Kd.R_drewN | apply Kd.R_drew)); exact Kd.R_mono (Kd.R_far (p := ⟨gb146, 3, none⟩) (Kd.R_far (p := ⟨gb146, 2, none⟩) (Kd.R_far (p := ⟨gb146, 1, none⟩) (Kd.R_far (p := ⟨gb146, 0, none⟩) (Kd.R_types HO_3.out BK146.out (by decide)) (fun _ hk => hk.2) (.int .i64 t140)) (fun _ hk => hk.2) (.string t141)) (fun _ hk => hk.2) (.int .i64 t142)) (fun _ hk => hk.2) (.int .i64 t143)) (fun _ hk => trivial)⟩, ⟨by (with_reducible repeat (first | refine blk_drewN ?_ _ | refine blk_drew ?_ | refine blk_alloc ?_ _)); refine blk_put (cs := #[.int .i64 t140, .string t141, .int .i64 t142, .int .i64 0]) ?_ 3 _ rfl; (with_reducible repeat (first | refine blk_drewN ?_ _ | refine blk_drew ?_ | refine blk_alloc ?_ _)); refine blk_put (cs := #[.int .i64 t140, .string t141, .int .i64 0, .int .i64 0]) ?_ 2 _ rfl; (with_reducible repeat (first | refine blk_drewN ?_ _ | refine blk_drew ?_ | refine blk_alloc ?_ _)); refine blk_put (cs := #[.int .i64 t140, .string (⟨#[]⟩ : ByteArray), .int .i64 0, .int .i64 0]) ?_ 1 _ rfl; (with_reducible repeat (first | refine blk_drewN ?_ _ | refine blk_drew ?_ | refine blk_alloc ?_ _)); refine blk_put (cs := #[.int .i64 0, .string (⟨#[]⟩ : ByteArray), .int .i64 0, .int .i64 0]) ?_ 0 _ rfl; (with_reducible repeat (first | refine blk_drewN ?_ _ | refine blk_drew ?_ | refine blk_alloc ?_ _)); exact BK146.out⟩, ⟨by repeat (first | (with_reducible first | exact HB.out | apply below_alloc | apply pw_below_drewN | apply below_drew1 | refine below_set ?_ GE146.out) | exact HB.out)⟩⟩
                            case rest =>
                              clear HC25
                              try clear c1
                              try clear p1
                              try clear q1
                              try clear hx1
                              try clear c2
                              try clear p2
                              try clear c3
                              try clear c4
                              try clear c4b0
                              try clear c4b1
                              try clear p6
                              try clear c9
                              try clear c9b0
                              try clear c10
                              try clear c10b0
                              try clear c11
                              try clear c11b0
                              try clear c12
                              try clear c12b0
                              try clear c13
                              try clear c13b0
                              try clear p13
                              try clear q13
                              try clear hx13
                              try clear c14
                              try clear c14b0
                              try clear p14
                              try clear q14
                              try clear hx14
                              try clear c15
                              try clear c15b0
                              try clear c15b1
                              try clear c17
                              try clear c17b0
                              try clear c18
                              try clear c18b0
                              try clear c19
                              try clear c19b0
                              try clear c20
                              try clear c20b0
                              try clear c21
                              try clear c22
                              try clear c22b0
                              try clear c23
                              try clear c23b0
                              try clear c29
                              try clear c30
                              try clear c30b0
                              try clear hcz28_0
                              try clear hcz28_1
                              try clear hcz28_2
                              try clear hcz28_3
                              try clear hcz31_0
                              try clear hcz31_1
                              try clear hcz31_2
                              try clear hcz31_3
                              try clear hcz32_0
                              try clear hcz32_1
                              try clear hcz32_2
                              try clear hcz32_3
                              try clear hfz28_0
                              try clear hfz28_1
                              try clear hfz28_2
                              try clear hfz28_3
                              try clear hfz31_0
                              try clear hfz31_1
                              try clear hfz31_2
                              try clear hfz31_3
                              try clear hfz32_0
                              try clear hfz32_1
                              try clear hfz32_2
                              try clear hfz32_3
                              try clear hx134_0
                              try clear hx134_1
                              try clear hx134_2
                              try clear hx134_3
                              try clear hx135_0
                              try clear hx135_1
                              try clear hx135_2
                              try clear hx135_3
                              try clear hx136_0
                              try clear hx136_1
                              try clear hx136_2
                              try clear hx136_3
                              try clear hx137_0
                              try clear hx137_1
                              try clear hx137_2
                              try clear hx137_3
                              try clear hx138_0
                              try clear hx138_1
                              try clear hx138_2
                              try clear hx138_3
                              try clear hx139_0
                              try clear hx139_1
                              try clear hx139_2
                              try clear hx139_3
                              try clear hx147_0
                              try clear hx147_1
                              try clear hx147_2
                              try clear hx147_3
                              try clear p1
                              try clear p13
                              try clear p134
                              try clear p135
                              try clear p136
                              try clear p137
                              try clear p138
                              try clear p139
                              try clear p147
                              try clear p2
                              try clear p6
                              try clear q1
                              try clear q13
                              try clear q134
                              try clear q135
                              try clear q136
                              try clear q137
                              try clear q138
                              try clear q139
                              try clear q147
                              obtain ⟨kq, x88_24, rfl, HA, HJ24, HO_3, BK146, HB⟩ := hcut
                              cases kq with
                              | zero => exact absurd HA.out (by simp [selvagelaw08_ActTiles.j3])
                              | succ kj24 =>
                                have H := HA.out
                                clear HA
                                simp only [selvagelaw08_ActTiles.j3] at H
                                by_cases c33 : x88_24 = true
                                · subst c33
                                  have H1 : (some false) = some r := by rw [if_pos rfl] at H; exact H
                                  clear H
                                  have H := H1
                                  clear H1
                                  obtain rfl := Option.some.inj H
                                  go_wp2
                                  repeat (go_quiet (fail); try go_wp2)
                                  go_ret
                                  exact ⟨by first | rfl | (simp [errW_none, errW_some] <;> rfl) | (simp [*, errW_none, errW_some] <;> rfl), by repeat (first | (with_reducible first | exact HB.out | apply below_alloc | apply pw_below_drewN | apply below_drew1 | refine below_set ?_ GE146.out) | exact HB.out)⟩
                                · replace c33 := Bool.eq_false_iff.mpr c33
                                  subst c33
                                  have H1 : (if t140 = 3 then (selvagelaw08_ActTiles.j4 kj24 l0 t131 x4_1 x5_1 (mx t142 0) t140 t141 t142 t143) else (selvagelaw08_ActTiles.j4 kj24 l0 t131 x4_1 x5_1 1 t140 t141 t142 t143)) = some r := by rw [if_neg (show ¬ (false = true) by decide)] at H; exact H
                                  clear H
                                  have H := H1
                                  clear H1
                                  have HC34 := Aside0.mk H
                                  clear H
                                  have hcz35_0 : wc.cell? ⟨gb146, 0, none⟩ = some (.int .i64 t140) := (blk_cell BK146.out 0).trans rfl
                                  have hcz35_1 : wc.cell? ⟨gb146, 1, none⟩ = some (.string t141) := (blk_cell BK146.out 1).trans rfl
                                  have hcz35_2 : wc.cell? ⟨gb146, 2, none⟩ = some (.int .i64 t142) := (blk_cell BK146.out 2).trans rfl
                                  have hcz35_3 : wc.cell? ⟨gb146, 3, none⟩ = some (.int .i64 t143) := (blk_cell BK146.out 3).trans rfl
                                  have hfz35_0 := blk_frozen BK146.out 0
                                  have hfz35_1 := blk_frozen BK146.out 1
                                  have hfz35_2 := blk_frozen BK146.out 2
                                  have hfz35_3 := blk_frozen BK146.out 3
                                  go_upto_if 91 with (fail)
                                  repeat (go_quiet (fail); go_upto_if 91 with (fail))
                                  go_cut [10] (fun v10 wc => ∃ (kq : Nat) (x10_33 : Int), v10 = .int .i64 x10_33 ∧ Aside0 (selvagelaw08_ActTiles.j4 kq l0 t131 x4_1 x5_1 x10_33 t140 t141 t142 t143 = some r) ∧ Aside0 (kq ≤ kj24) ∧ Aside0 (Kd.R k31 31 wc w.heap.size (fun _ => True) v132 t131) ∧ Aside0 (wc.heap[gb146]? = some (.cells #[.int .i64 t140, .string t141, .int .i64 t142, .int .i64 t143] 27 (0, 0))) ∧ Aside0 (Below w.heap.size w wc))
                                  case first =>
                                    have H := HC34.out
                                    clear HC34
                                    by_cases c36 : t140 = 3
                                    · rw [if_pos c36] at H
                                      have c36b0 : (t140 == 3) = true := beq_iff_eq.mpr c36
                                      have c36b1 : (t140 != 3) = false := bne_eq_false_iff_eq.mpr c36
                                      clear c36
                                      (first | rw [c36b0] | (simp only [i64_w, i32_w]; rw [c36b0]) | skip)
                                      obtain ⟨ji37, hji37⟩ : ∃ j_ : Int, (mx t142 0) = j_ := ⟨_, rfl⟩
                                      replace H : (selvagelaw08_ActTiles.j4 kj24 l0 t131 x4_1 x5_1 ji37 t140 t141 t142 t143) = some r := by first | (rw [hji37] at H; exact H) | (simp only [hji37] at H ⊢; exact H)
                                      have hji37_ : (if t142 < 0 then 0 else t142) = ji37 := hji37
                                      have H' := Aside0.mk H
                                      clear H
                                      have hcz38_0 : wc.cell? ⟨gb146, 0, none⟩ = some (.int .i64 t140) := (blk_cell BK146.out 0).trans rfl
                                      have hcz38_1 : wc.cell? ⟨gb146, 1, none⟩ = some (.string t141) := (blk_cell BK146.out 1).trans rfl
                                      have hcz38_2 : wc.cell? ⟨gb146, 2, none⟩ = some (.int .i64 t142) := (blk_cell BK146.out 2).trans rfl
                                      have hcz38_3 : wc.cell? ⟨gb146, 3, none⟩ = some (.int .i64 t143) := (blk_cell BK146.out 3).trans rfl
                                      have hfz38_0 := blk_frozen BK146.out 0
                                      have hfz38_1 := blk_frozen BK146.out 1
                                      have hfz38_2 := blk_frozen BK146.out 2
                                      have hfz38_3 := blk_frozen BK146.out 3
                                      go_wp2
                                      repeat (go_quiet (fail); try go_wp2)
                                      go_meet
                                      case rel => exact ⟨_, (ji37), (by first | rfl | (simp; done) | (simp only [← hji37] <;> (first | rfl | simp)) | (simp [*]; done)), H', ⟨by have := HK1.out; have := HK2.out; have := HJ15.out; have := HJ24.out; first | omega | exact Nat.le_refl _⟩, ⟨by (with_reducible repeat (first | apply Kd.R_alloc | apply Kd.R_drewN | apply Kd.R_drew)); exact HO_3.out⟩, ⟨by (with_reducible repeat (first | refine blk_drewN ?_ _ | refine blk_drew ?_ | refine blk_alloc ?_ _)); exact BK146.out⟩, ⟨by repeat (first | (with_reducible first | exact HB.out | apply below_alloc | apply pw_below_drewN | apply below_drew1 | refine below_set ?_ GE146.out) | exact HB.out)⟩⟩
                                    · rw [if_neg c36] at H
                                      have c36b0 : (t140 == 3) = false := beq_eq_false_iff_ne.mpr c36
                                      have c36b1 : (t140 != 3) = true := bne_iff_ne.mpr c36
                                      (first | rw [c36b0] | (simp only [i64_w, i32_w]; rw [c36b0]) | skip)
                                      have H' := Aside0.mk H
                                      clear H
                                      go_wp2
                                      repeat (go_quiet (fail); try go_wp2)
                                      go_meet
                                      case rel => exact ⟨_, (1), (by first | rfl | (simp; done) | (simp [*]; done)), H', ⟨by have := HK1.out; have := HK2.out; have := HJ15.out; have := HJ24.out; first | omega | exact Nat.le_refl _⟩, ⟨by (with_reducible repeat (first | apply Kd.R_alloc | apply Kd.R_drewN | apply Kd.R_drew)); exact HO_3.out⟩, ⟨by (with_reducible repeat (first | refine blk_drewN ?_ _ | refine blk_drew ?_ | refine blk_alloc ?_ _)); exact BK146.out⟩, ⟨by repeat (first | (with_reducible first | exact HB.out | apply below_alloc | apply pw_below_drewN | apply below_drew1 | refine below_set ?_ GE146.out) | exact HB.out)⟩⟩
                                  case rest =>
                                    clear HC34
                                    try clear c1
                                    try clear p1
                                    try clear q1
                                    try clear hx1
                                    try clear c2
                                    try clear p2
                                    try clear c3
                                    try clear c4
                                    try clear c4b0
                                    try clear c4b1
                                    try clear p6
                                    try clear c9
                                    try clear c9b0
                                    try clear c10
                                    try clear c10b0
                                    try clear c11
                                    try clear c11b0
                                    try clear c12
                                    try clear c12b0
                                    try clear c13
                                    try clear c13b0
                                    try clear p13
                                    try clear q13
                                    try clear hx13
                                    try clear c14
                                    try clear c14b0
                                    try clear p14
                                    try clear q14
                                    try clear hx14
                                    try clear c15
                                    try clear c15b0
                                    try clear c15b1
                                    try clear c17
                                    try clear c17b0
                                    try clear c18
                                    try clear c18b0
                                    try clear c19
                                    try clear c19b0
                                    try clear c20
                                    try clear c20b0
                                    try clear c21
                                    try clear c22
                                    try clear c22b0
                                    try clear c23
                                    try clear c23b0
                                    try clear c29
                                    try clear c30
                                    try clear c30b0
                                    try clear c33
                                    try clear c36
                                    try clear c36b0
                                    try clear c36b1
                                    try clear hcz28_0
                                    try clear hcz28_1
                                    try clear hcz28_2
                                    try clear hcz28_3
                                    try clear hcz31_0
                                    try clear hcz31_1
                                    try clear hcz31_2
                                    try clear hcz31_3
                                    try clear hcz32_0
                                    try clear hcz32_1
                                    try clear hcz32_2
                                    try clear hcz32_3
                                    try clear hcz35_0
                                    try clear hcz35_1
                                    try clear hcz35_2
                                    try clear hcz35_3
                                    try clear hcz38_0
                                    try clear hcz38_1
                                    try clear hcz38_2
                                    try clear hcz38_3
                                    try clear hfz28_0
                                    try clear hfz28_1
                                    try clear hfz28_2
                                    try clear hfz28_3
                                    try clear hfz31_0
                                    try clear hfz31_1
                                    try clear hfz31_2
                                    try clear hfz31_3
                                    try clear hfz32_0
                                    try clear hfz32_1
                                    try clear hfz32_2
                                    try clear hfz32_3
                                    try clear hfz35_0
                                    try clear hfz35_1
                                    try clear hfz35_2
                                    try clear hfz35_3
                                    try clear hfz38_0
                                    try clear hfz38_1
                                    try clear hfz38_2
                                    try clear hfz38_3
                                    try clear hx134_0
                                    try clear hx134_1
                                    try clear hx134_2
                                    try clear hx134_3
                                    try clear hx135_0
                                    try clear hx135_1
                                    try clear hx135_2
                                    try clear hx135_3
                                    try clear hx136_0
                                    try clear hx136_1
                                    try clear hx136_2
                                    try clear hx136_3
                                    try clear hx137_0
                                    try clear hx137_1
                                    try clear hx137_2
                                    try clear hx137_3
                                    try clear hx138_0
                                    try clear hx138_1
                                    try clear hx138_2
                                    try clear hx138_3
                                    try clear hx139_0
                                    try clear hx139_1
                                    try clear hx139_2
                                    try clear hx139_3
                                    try clear hx147_0
                                    try clear hx147_1
                                    try clear hx147_2
                                    try clear hx147_3
                                    try clear p1
                                    try clear p13
                                    try clear p134
                                    try clear p135
                                    try clear p136
                                    try clear p137
                                    try clear p138
                                    try clear p139
                                    try clear p14
                                    try clear p147
                                    try clear p2
                                    try clear p6
                                    try clear q1
                                    try clear q13
                                    try clear q134
                                    try clear q135
                                    try clear q136
                                    try clear q137
                                    try clear q138
                                    try clear q139
                                    try clear q14
                                    try clear q147
                                    obtain ⟨kq, x10_33, rfl, HA, HJ33, HO_3, BK146, HB⟩ := hcut
                                    cases kq with
                                    | zero => exact absurd HA.out (by simp [selvagelaw08_ActTiles.j4])
                                    | succ kj33 =>
                                      have H := HA.out
                                      clear HA
                                      simp only [selvagelaw08_ActTiles.j4] at H
                                      have H' := Aside0.mk H
                                      clear H
                                      go_wp2
                                      repeat (go_quiet (fail); try go_wp2)
                                      go_loopg [11] kj33 (fun kq v11 w' => ∃ (x11_6 : Int), v11 = .int .i64 x11_6 ∧ Aside0 (selvagelaw08_ActTiles.l2 kq l0 t131 x4_1 x5_1 x10_33 x11_6 t140 t141 t142 t143 = some r) ∧ Aside0 (kq ≤ kj33) ∧ Aside0 (Kd.R k31 31 w' w.heap.size (fun _ => True) v132 t131) ∧ Aside0 (w'.heap[gb146]? = some (.cells #[.int .i64 t140, .string t141, .int .i64 t142, .int .i64 t143] 27 (0, 0))) ∧ Aside0 (Below w.heap.size w w'))
                                      case atStart => exact ⟨(0), (by first | rfl | (simp; done) | (simp [*]; done)), H', ⟨Nat.le_refl _⟩, ⟨by (with_reducible repeat (first | apply Kd.R_alloc | apply Kd.R_drewN | apply Kd.R_drew)); exact HO_3.out⟩, ⟨by (with_reducible repeat (first | refine blk_drewN ?_ _ | refine blk_drew ?_ | refine blk_alloc ?_ _)); exact BK146.out⟩, ⟨by repeat (first | (with_reducible first | exact HB.out | apply below_alloc | apply pw_below_drewN | apply below_drew1 | refine below_set ?_ GE146.out) | exact HB.out)⟩⟩
                                      case round =>
                                        clear H'
                                        try clear c1
                                        try clear p1
                                        try clear q1
                                        try clear hx1
                                        try clear c2
                                        try clear p2
                                        try clear c3
                                        try clear c4
                                        try clear c4b0
                                        try clear c4b1
                                        try clear p6
                                        try clear c9
                                        try clear c9b0
                                        try clear c10
                                        try clear c10b0
                                        try clear c11
                                        try clear c11b0
                                        try clear c12
                                        try clear c12b0
                                        try clear c13
                                        try clear c13b0
                                        try clear p13
                                        try clear q13
                                        try clear hx13
                                        try clear c14
                                        try clear c14b0
                                        try clear p14
                                        try clear q14
                                        try clear hx14
                                        try clear c15
                                        try clear c15b0
                                        try clear c15b1
                                        try clear c17
                                        try clear c17b0
                                        try clear c18
                                        try clear c18b0
                                        try clear c19
                                        try clear c19b0
                                        try clear c20
                                        try clear c20b0
                                        try clear c21
                                        try clear c22
                                        try clear c22b0
                                        try clear c23
                                        try clear c23b0
                                        try clear c29
                                        try clear c30
                                        try clear c30b0
                                        try clear c33
                                        try clear c36
                                        try clear c36b0
                                        try clear c36b1
                                        try clear hcz28_0
                                        try clear hcz28_1
                                        try clear hcz28_2
                                        try clear hcz28_3
                                        try clear hcz31_0
                                        try clear hcz31_1
                                        try clear hcz31_2
                                        try clear hcz31_3
                                        try clear hcz32_0
                                        try clear hcz32_1
                                        try clear hcz32_2
                                        try clear hcz32_3
                                        try clear hcz35_0
                                        try clear hcz35_1
                                        try clear hcz35_2
                                        try clear hcz35_3
                                        try clear hcz38_0
                                        try clear hcz38_1
                                        try clear hcz38_2
                                        try clear hcz38_3
                                        try clear hfz28_0
                                        try clear hfz28_1
                                        try clear hfz28_2
                                        try clear hfz28_3
                                        try clear hfz31_0
                                        try clear hfz31_1
                                        try clear hfz31_2
                                        try clear hfz31_3
                                        try clear hfz32_0
                                        try clear hfz32_1
                                        try clear hfz32_2
                                        try clear hfz32_3
                                        try clear hfz35_0
                                        try clear hfz35_1
                                        try clear hfz35_2
                                        try clear hfz35_3
                                        try clear hfz38_0
                                        try clear hfz38_1
                                        try clear hfz38_2
                                        try clear hfz38_3
                                        try clear hx134_0
                                        try clear hx134_1
                                        try clear hx134_2
                                        try clear hx134_3
                                        try clear hx135_0
                                        try clear hx135_1
                                        try clear hx135_2
                                        try clear hx135_3
                                        try clear hx136_0
                                        try clear hx136_1
                                        try clear hx136_2
                                        try clear hx136_3
                                        try clear hx137_0
                                        try clear hx137_1
                                        try clear hx137_2
                                        try clear hx137_3
                                        try clear hx138_0
                                        try clear hx138_1
                                        try clear hx138_2
                                        try clear hx138_3
                                        try clear hx139_0
                                        try clear hx139_1
                                        try clear hx139_2
                                        try clear hx139_3
                                        try clear hx147_0
                                        try clear hx147_1
                                        try clear hx147_2
                                        try clear hx147_3
                                        try clear p1
                                        try clear p13
                                        try clear p134
                                        try clear p135
                                        try clear p136
                                        try clear p137
                                        try clear p138
                                        try clear p139
                                        try clear p14
                                        try clear p147
                                        try clear p2
                                        try clear p6
                                        try clear q1
                                        try clear q13
                                        try clear q134
                                        try clear q135
                                        try clear q136
                                        try clear q137
                                        try clear q138
                                        try clear q139
                                        try clear q14
                                        try clear q147
                                        obtain ⟨x11_6, rfl, HA, HK6, HO_3, BK146, HB⟩ := hrel
                                        cases gk with
                                        | zero => exact absurd HA.out (by simp [selvagelaw08_ActTiles.l2])
                                        | succ k6 =>
                                          have H := HA.out
                                          clear HA
                                          simp only [selvagelaw08_ActTiles.l2] at H
                                          have HC39 := Aside0.mk H
                                          clear H
                                          go_upto_region 24 with (fail)
                                          repeat (go_quiet (fail); go_upto_region 24 with (fail))
                                          go_cut [105] (fun v105 wc => ∃ (kq : Nat) (x105_38 : Bool), v105 = .bool x105_38 ∧ Aside0 (selvagelaw08_ActTiles.j6 kq l0 t131 x4_1 x5_1 x10_33 x11_6 x105_38 t140 t141 t142 t143 = some r) ∧ Aside0 (kq ≤ k6) ∧ Aside0 (Kd.R k31 31 wc w.heap.size (fun _ => True) v132 t131) ∧ Aside0 (wc.heap[gb146]? = some (.cells #[.int .i64 t140, .string t141, .int .i64 t142, .int .i64 t143] 27 (0, 0))) ∧ Aside0 (Below w.heap.size w wc))
                                          case first =>
                                            have H := HC39.out
                                            clear HC39
                                            by_cases c40 : x11_6 < x10_33
                                            · rw [if_pos c40] at H
                                              have c40b0 : decide (x11_6 < x10_33) = true := decide_eq_true c40
                                              clear c40
                                              (first | rw [c40b0] | (simp only [i64_w, i32_w]; rw [c40b0]) | skip)
                                              have H' := Aside0.mk H
                                              clear H
                                              obtain ⟨Ao41, co41, eo41⟩ := Kd.R_slice HO_3.out
                                              subst eo41
                                              go_wp2
                                              repeat (go_quiet (fail); try go_wp2)
                                              go_meet
                                              case rel => exact ⟨_, (decide ((wrap64 (x4_1 + x11_6)) < (t131.length : Int))), (by first | rfl | (simp; done) | (simp [*]; done)), H', ⟨by have := HK1.out; have := HK2.out; have := HJ15.out; have := HJ24.out; have := HJ33.out; have := HK6.out; first | omega | exact Nat.le_refl _⟩, ⟨by (with_reducible repeat (first | apply Kd.R_alloc | apply Kd.R_drewN | apply Kd.R_drew)); exact HO_3.out⟩, ⟨by (with_reducible repeat (first | refine blk_drewN ?_ _ | refine blk_drew ?_ | refine blk_alloc ?_ _)); exact BK146.out⟩, ⟨by repeat (first | (with_reducible first | exact HB.out | apply below_alloc | apply pw_below_drewN | apply below_drew1 | refine below_set ?_ GE146.out) | exact HB.out)⟩⟩
                                            · rw [if_neg c40] at H
                                              have c40b0 : decide (x11_6 < x10_33) = false := decide_eq_false c40
                                              clear c40
                                              (first | rw [c40b0] | (simp only [i64_w, i32_w]; rw [c40b0]) | skip)
                                              have H' := Aside0.mk H
                                              clear H
                                              go_wp2
                                              repeat (go_quiet (fail); try go_wp2)
                                              go_meet
                                              case rel => exact ⟨_, (false), (by first | rfl | (simp; done) | (simp [*]; done)), H', ⟨by have := HK1.out; have := HK2.out; have := HJ15.out; have := HJ24.out; have := HJ33.out; have := HK6.out; first | omega | exact Nat.le_refl _⟩, ⟨by (with_reducible repeat (first | apply Kd.R_alloc | apply Kd.R_drewN | apply Kd.R_drew)); exact HO_3.out⟩, ⟨by (with_reducible repeat (first | refine blk_drewN ?_ _ | refine blk_drew ?_ | refine blk_alloc ?_ _)); exact BK146.out⟩, ⟨by repeat (first | (with_reducible first | exact HB.out | apply below_alloc | apply pw_below_drewN | apply below_drew1 | refine below_set ?_ GE146.out) | exact HB.out)⟩⟩
                                          case rest =>
                                            clear HC39
                                            try clear c1
                                            try clear p1
                                            try clear q1
                                            try clear hx1
                                            try clear c2
                                            try clear p2
                                            try clear c3
                                            try clear c4
                                            try clear c4b0
                                            try clear c4b1
                                            try clear p6
                                            try clear c9
                                            try clear c9b0
                                            try clear c10
                                            try clear c10b0
                                            try clear c11
                                            try clear c11b0
                                            try clear c12
                                            try clear c12b0
                                            try clear c13
                                            try clear c13b0
                                            try clear p13
                                            try clear q13
                                            try clear hx13
                                            try clear c14
                                            try clear c14b0
                                            try clear p14
                                            try clear q14
                                            try clear hx14
                                            try clear c15
                                            try clear c15b0
                                            try clear c15b1
                                            try clear c17
                                            try clear c17b0
                                            try clear c18
                                            try clear c18b0
                                            try clear c19
                                            try clear c19b0
                                            try clear c20
                                            try clear c20b0
                                            try clear c21
                                            try clear c22
                                            try clear c22b0
                                            try clear c23
                                            try clear c23b0
                                            try clear c29
                                            try clear c30
                                            try clear c30b0
                                            try clear c33
                                            try clear c36
                                            try clear c36b0
                                            try clear c36b1
                                            try clear c40
                                            try clear c40b0
                                            try clear hcz28_0
                                            try clear hcz28_1
                                            try clear hcz28_2
                                            try clear hcz28_3
                                            try clear hcz31_0
                                            try clear hcz31_1
                                            try clear hcz31_2
                                            try clear hcz31_3
                                            try clear hcz32_0
                                            try clear hcz32_1
                                            try clear hcz32_2
                                            try clear hcz32_3
                                            try clear hcz35_0
                                            try clear hcz35_1
                                            try clear hcz35_2
                                            try clear hcz35_3
                                            try clear hcz38_0
                                            try clear hcz38_1
                                            try clear hcz38_2
                                            try clear hcz38_3
                                            try clear hfz28_0
                                            try clear hfz28_1
                                            try clear hfz28_2
                                            try clear hfz28_3
                                            try clear hfz31_0
                                            try clear hfz31_1
                                            try clear hfz31_2
                                            try clear hfz31_3
                                            try clear hfz32_0
                                            try clear hfz32_1
                                            try clear hfz32_2
                                            try clear hfz32_3
                                            try clear hfz35_0
                                            try clear hfz35_1
                                            try clear hfz35_2
                                            try clear hfz35_3
                                            try clear hfz38_0
                                            try clear hfz38_1
                                            try clear hfz38_2
                                            try clear hfz38_3
                                            try clear hx134_0
                                            try clear hx134_1
                                            try clear hx134_2
                                            try clear hx134_3
                                            try clear hx135_0
                                            try clear hx135_1
                                            try clear hx135_2
                                            try clear hx135_3
                                            try clear hx136_0
                                            try clear hx136_1
                                            try clear hx136_2
                                            try clear hx136_3
                                            try clear hx137_0
                                            try clear hx137_1
                                            try clear hx137_2
                                            try clear hx137_3
                                            try clear hx138_0
                                            try clear hx138_1
                                            try clear hx138_2
                                            try clear hx138_3
                                            try clear hx139_0
                                            try clear hx139_1
                                            try clear hx139_2
                                            try clear hx139_3
                                            try clear hx147_0
                                            try clear hx147_1
                                            try clear hx147_2
                                            try clear hx147_3
                                            try clear p1
                                            try clear p13
                                            try clear p134
                                            try clear p135
                                            try clear p136
                                            try clear p137
                                            try clear p138
                                            try clear p139
                                            try clear p14
                                            try clear p147
                                            try clear p2
                                            try clear p6
                                            try clear q1
                                            try clear q13
                                            try clear q134
                                            try clear q135
                                            try clear q136
                                            try clear q137
                                            try clear q138
                                            try clear q139
                                            try clear q14
                                            try clear q147
                                            obtain ⟨kq, x105_38, rfl, HA, HJ38, HO_3, BK146, HB⟩ := hcut
                                            cases kq with
                                            | zero => exact absurd HA.out (by simp [selvagelaw08_ActTiles.j6])
                                            | succ kj38 =>
                                              have H := HA.out
                                              clear HA
                                              simp only [selvagelaw08_ActTiles.j6] at H
                                              by_cases c42 : x105_38 = true
                                              · subst c42
                                                have H1 : (if 0 ≤ (wrap64 (x4_1 + x11_6)) then (if (wrap64 (x4_1 + x11_6)) < (t131.length : Int) then (if (((rd_T31 t131 (wrap64 (x4_1 + x11_6))).f0) != (t140 == 2)) = true then (some false) else (if t140 = 3 then (if ((rd_T31 t131 (wrap64 (x4_1 + x11_6))).f1) = 0 then (selvagelaw08_ActTiles.l2 kj38 l0 t131 x4_1 x5_1 x10_33 (wrap64 (x11_6 + 1)) t140 t141 t142 t143) else (some false)) else (if ((rd_T31 t131 (wrap64 (x4_1 + x11_6))).f1) = t142 then (selvagelaw08_ActTiles.l2 kj38 l0 t131 x4_1 x5_1 x10_33 (wrap64 (x11_6 + 1)) t140 t141 t142 t143) else (some false)))) else (none)) else (none)) = some r := by rw [if_pos rfl] at H; exact H
                                                clear H
                                                have H := H1
                                                clear H1
                                                obtain ⟨ji43, hji43⟩ : ∃ j_ : Int, (wrap64 (x4_1 + x11_6)) = j_ := ⟨_, rfl⟩
                                                replace H : (if 0 ≤ (ji43) then (if (ji43) < (t131.length : Int) then (if (((rd_T31 t131 (ji43)).f0) != (t140 == 2)) = true then (some false) else (if t140 = 3 then (if ((rd_T31 t131 (ji43)).f1) = 0 then (selvagelaw08_ActTiles.l2 kj38 l0 t131 x4_1 x5_1 x10_33 (wrap64 (x11_6 + 1)) t140 t141 t142 t143) else (some false)) else (if ((rd_T31 t131 (ji43)).f1) = t142 then (selvagelaw08_ActTiles.l2 kj38 l0 t131 x4_1 x5_1 x10_33 (wrap64 (x11_6 + 1)) t140 t141 t142 t143) else (some false)))) else (none)) else (none)) = some r := by first | (rw [hji43] at H; exact H) | (simp only [hji43] at H ⊢; exact H)
                                                have hji43w : (IntKind.i64.wrap (x4_1 + x11_6)) = ji43 := (i64_w _).trans hji43
                                                by_cases c44 : 0 ≤ (ji43)
                                                · rw [if_pos c44] at H
                                                  have c44b0 : decide (0 ≤ (ji43)) = true := decide_eq_true c44
                                                  clear c44
                                                  by_cases c45 : (ji43) < (t131.length : Int)
                                                  · rw [if_pos c45] at H
                                                    have c45b0 : decide ((ji43) < (t131.length : Int)) = true := decide_eq_true c45
                                                    clear c45
                                                    by_cases c46 : (((rd_T31 t131 (ji43)).f0) != (t140 == 2)) = true
                                                    · rw [if_pos c46] at H
                                                      have c46b0 : (((rd_T31 t131 (ji43)).f0) != (t140 == 2)) = true := c46
                                                      (try (have c46b1 : decide (((rd_T31 t131 (ji43)).f0) = (t140 == 2)) = false := by simpa using c46))
                                                      (try (have c46b2 : (((rd_T31 t131 (ji43)).f0) == (t140 == 2)) = false := by simpa using c46))
                                                      (try (have c46b3 : ¬ (((rd_T31 t131 (ji43)).f0) = (t140 == 2)) := by simpa using c46))
                                                      clear c46
                                                      obtain rfl := Option.some.inj H
                                                      obtain ⟨Ao47, co47, eo47⟩ := Kd.R_slice HO_3.out
                                                      subst eo47
                                                      have p148 : 0 ≤ ((ji43) : Int) := of_decide_eq_true (by first | (with_reducible assumption) | assumption)
                                                      have q148 : (ji43) < (t131.length : Int) := of_decide_eq_true (by first | (with_reducible assumption) | assumption)
                                                      obtain ⟨ad148, e148, hx148_0, hx148_1⟩ := at_T31 (Kd.R_reads' HO_3.out).2.2 (ji43) p148 q148
                                                      cases e148
                                                      replace p148 := eq_true p148
                                                      replace q148 := eq_true q148
                                                      have hcz48_0 : wc.cell? ⟨gb146, 0, none⟩ = some (.int .i64 t140) := (blk_cell BK146.out 0).trans rfl
                                                      have hcz48_1 : wc.cell? ⟨gb146, 1, none⟩ = some (.string t141) := (blk_cell BK146.out 1).trans rfl
                                                      have hcz48_2 : wc.cell? ⟨gb146, 2, none⟩ = some (.int .i64 t142) := (blk_cell BK146.out 2).trans rfl
                                                      have hcz48_3 : wc.cell? ⟨gb146, 3, none⟩ = some (.int .i64 t143) := (blk_cell BK146.out 3).trans rfl
                                                      have hfz48_0 := blk_frozen BK146.out 0
                                                      have hfz48_1 := blk_frozen BK146.out 1
                                                      have hfz48_2 := blk_frozen BK146.out 2
                                                      have hfz48_3 := blk_frozen BK146.out 3
                                                      go_wp2
                                                      repeat (go_quiet (fail); try go_wp2)
                                                      go_ret
                                                      exact ⟨by first | rfl | (simp [errW_none, errW_some] <;> rfl) | (simp only [← hji43]; first | rfl | (simp [errW_none, errW_some] <;> rfl)) | (simp [*, errW_none, errW_some] <;> rfl), by repeat (first | (with_reducible first | exact HB.out | apply below_alloc | apply pw_below_drewN | apply below_drew1 | refine below_set ?_ GE146.out) | exact HB.out)⟩
                                                    · rw [if_neg c46] at H
                                                      have c46b0 : (((rd_T31 t131 (ji43)).f0) != (t140 == 2)) = false := by simpa using c46
                                                      (try (have c46b1 : decide (((rd_T31 t131 (ji43)).f0) = (t140 == 2)) = true := by simpa using c46))
                                                      (try (have c46b2 : (((rd_T31 t131 (ji43)).f0) == (t140 == 2)) = true := by simpa using c46))
                                                      clear c46
                                                      by_cases c49 : t140 = 3
                                                      · rw [if_pos c49] at H
                                                        have c49b0 : (t140 == 3) = true := beq_iff_eq.mpr c49
                                                        have c49b1 : (t140 != 3) = false := bne_eq_false_iff_eq.mpr c49
                                                        clear c49
                                                        by_cases c50 : ((rd_T31 t131 (ji43)).f1) = 0
                                                        · rw [if_pos c50] at H
                                                          have c50b0 : (((rd_T31 t131 (ji43)).f1) == 0) = true := beq_iff_eq.mpr c50
                                                          have c50b1 : (((rd_T31 t131 (ji43)).f1) != 0) = false := bne_eq_false_iff_eq.mpr c50
                                                          clear c50
                                                          have H' := Aside0.mk H
                                                          clear H
                                                          obtain ⟨Ao51, co51, eo51⟩ := Kd.R_slice HO_3.out
                                                          subst eo51
                                                          have p148 : 0 ≤ ((ji43) : Int) := of_decide_eq_true (by first | (with_reducible assumption) | assumption)
                                                          have q148 : (ji43) < (t131.length : Int) := of_decide_eq_true (by first | (with_reducible assumption) | assumption)
                                                          obtain ⟨ad148, e148, hx148_0, hx148_1⟩ := at_T31 (Kd.R_reads' HO_3.out).2.2 (ji43) p148 q148
                                                          cases e148
                                                          replace p148 := eq_true p148
                                                          replace q148 := eq_true q148
                                                          have hcz52_0 : wc.cell? ⟨gb146, 0, none⟩ = some (.int .i64 t140) := (blk_cell BK146.out 0).trans rfl
                                                          have hcz52_1 : wc.cell? ⟨gb146, 1, none⟩ = some (.string t141) := (blk_cell BK146.out 1).trans rfl
                                                          have hcz52_2 : wc.cell? ⟨gb146, 2, none⟩ = some (.int .i64 t142) := (blk_cell BK146.out 2).trans rfl
                                                          have hcz52_3 : wc.cell? ⟨gb146, 3, none⟩ = some (.int .i64 t143) := (blk_cell BK146.out 3).trans rfl
                                                          have hfz52_0 := blk_frozen BK146.out 0
                                                          have hfz52_1 := blk_frozen BK146.out 1
                                                          have hfz52_2 := blk_frozen BK146.out 2
                                                          have hfz52_3 := blk_frozen BK146.out 3
                                                          have p149 : 0 ≤ ((ji43) : Int) := of_decide_eq_true (by first | (with_reducible assumption) | assumption)
                                                          have q149 : (ji43) < (t131.length : Int) := of_decide_eq_true (by first | (with_reducible assumption) | assumption)
                                                          obtain ⟨ad149, e149, hx149_0, hx149_1⟩ := at_T31 (Kd.R_reads' HO_3.out).2.2 (ji43) p149 q149
                                                          obtain rfl : ad148 = ad149 := (by injection e149)
                                                          replace p149 := eq_true p149
                                                          replace q149 := eq_true q149
                                                          go_wp2
                                                          repeat (go_quiet (fail); try go_wp2)
                                                          go_roundg kj38
                                                          case measure => have := HK1.out; have := HK2.out; have := HJ15.out; have := HJ24.out; have := HJ33.out; have := HK6.out; have := HJ38.out; omega
                                                          case rel => exact ⟨(wrap64 (x11_6 + 1)), (by first | rfl | (simp; done) | (simp [*]; done)), H', ⟨by have := HK1.out; have := HK2.out; have := HJ15.out; have := HJ24.out; have := HJ33.out; have := HK6.out; have := HJ38.out; omega⟩, ⟨by (with_reducible repeat (first | apply Kd.R_alloc | apply Kd.R_drewN | apply Kd.R_drew)); exact HO_3.out⟩, ⟨by (with_reducible repeat (first | refine blk_drewN ?_ _ | refine blk_drew ?_ | refine blk_alloc ?_ _)); exact BK146.out⟩, ⟨by repeat (first | (with_reducible first | exact HB.out | apply below_alloc | apply pw_below_drewN | apply below_drew1 | refine below_set ?_ GE146.out) | exact HB.out)⟩⟩
                                                        · rw [if_neg c50] at H
                                                          have c50b0 : (((rd_T31 t131 (ji43)).f1) == 0) = false := beq_eq_false_iff_ne.mpr c50
                                                          have c50b1 : (((rd_T31 t131 (ji43)).f1) != 0) = true := bne_iff_ne.mpr c50
                                                          obtain rfl := Option.some.inj H
                                                          obtain ⟨Ao53, co53, eo53⟩ := Kd.R_slice HO_3.out
                                                          subst eo53
                                                          have p148 : 0 ≤ ((ji43) : Int) := of_decide_eq_true (by first | (with_reducible assumption) | assumption)
                                                          have q148 : (ji43) < (t131.length : Int) := of_decide_eq_true (by first | (with_reducible assumption) | assumption)
                                                          obtain ⟨ad148, e148, hx148_0, hx148_1⟩ := at_T31 (Kd.R_reads' HO_3.out).2.2 (ji43) p148 q148
                                                          cases e148
                                                          replace p148 := eq_true p148
                                                          replace q148 := eq_true q148
                                                          have hcz54_0 : wc.cell? ⟨gb146, 0, none⟩ = some (.int .i64 t140) := (blk_cell BK146.out 0).trans rfl
                                                          have hcz54_1 : wc.cell? ⟨gb146, 1, none⟩ = some (.string t141) := (blk_cell BK146.out 1).trans rfl
                                                          have hcz54_2 : wc.cell? ⟨gb146, 2, none⟩ = some (.int .i64 t142) := (blk_cell BK146.out 2).trans rfl
                                                          have hcz54_3 : wc.cell? ⟨gb146, 3, none⟩ = some (.int .i64 t143) := (blk_cell BK146.out 3).trans rfl
                                                          have hfz54_0 := blk_frozen BK146.out 0
                                                          have hfz54_1 := blk_frozen BK146.out 1
                                                          have hfz54_2 := blk_frozen BK146.out 2
                                                          have hfz54_3 := blk_frozen BK146.out 3
                                                          have p149 : 0 ≤ ((ji43) : Int) := of_decide_eq_true (by first | (with_reducible assumption) | assumption)
                                                          have q149 : (ji43) < (t131.length : Int) := of_decide_eq_true (by first | (with_reducible assumption) | assumption)
                                                          obtain ⟨ad149, e149, hx149_0, hx149_1⟩ := at_T31 (Kd.R_reads' HO_3.out).2.2 (ji43) p149 q149
                                                          obtain rfl : ad148 = ad149 := (by injection e149)
                                                          replace p149 := eq_true p149
                                                          replace q149 := eq_true q149
                                                          go_wp2
                                                          repeat (go_quiet (fail); try go_wp2)
                                                          go_ret
                                                          exact ⟨by first | rfl | (simp [errW_none, errW_some] <;> rfl) | (simp only [← hji43]; first | rfl | (simp [errW_none, errW_some] <;> rfl)) | (simp [*, errW_none, errW_some] <;> rfl), by repeat (first | (with_reducible first | exact HB.out | apply below_alloc | apply pw_below_drewN | apply below_drew1 | refine below_set ?_ GE146.out) | exact HB.out)⟩
                                                      · rw [if_neg c49] at H
                                                        have c49b0 : (t140 == 3) = false := beq_eq_false_iff_ne.mpr c49
                                                        have c49b1 : (t140 != 3) = true := bne_iff_ne.mpr c49
                                                        by_cases c55 : ((rd_T31 t131 (ji43)).f1) = t142
                                                        · rw [if_pos c55] at H
                                                          have c55b0 : (((rd_T31 t131 (ji43)).f1) == t142) = true := beq_iff_eq.mpr c55
                                                          have c55b1 : (((rd_T31 t131 (ji43)).f1) != t142) = false := bne_eq_false_iff_eq.mpr c55
                                                          clear c55
                                                          have H' := Aside0.mk H
                                                          clear H
                                                          obtain ⟨Ao56, co56, eo56⟩ := Kd.R_slice HO_3.out
                                                          subst eo56
                                                          have p148 : 0 ≤ ((ji43) : Int) := of_decide_eq_true (by first | (with_reducible assumption) | assumption)
                                                          have q148 : (ji43) < (t131.length : Int) := of_decide_eq_true (by first | (with_reducible assumption) | assumption)
                                                          obtain ⟨ad148, e148, hx148_0, hx148_1⟩ := at_T31 (Kd.R_reads' HO_3.out).2.2 (ji43) p148 q148
                                                          cases e148
                                                          replace p148 := eq_true p148
                                                          replace q148 := eq_true q148
                                                          have hcz57_0 : wc.cell? ⟨gb146, 0, none⟩ = some (.int .i64 t140) := (blk_cell BK146.out 0).trans rfl
                                                          have hcz57_1 : wc.cell? ⟨gb146, 1, none⟩ = some (.string t141) := (blk_cell BK146.out 1).trans rfl
                                                          have hcz57_2 : wc.cell? ⟨gb146, 2, none⟩ = some (.int .i64 t142) := (blk_cell BK146.out 2).trans rfl
                                                          have hcz57_3 : wc.cell? ⟨gb146, 3, none⟩ = some (.int .i64 t143) := (blk_cell BK146.out 3).trans rfl
                                                          have hfz57_0 := blk_frozen BK146.out 0
                                                          have hfz57_1 := blk_frozen BK146.out 1
                                                          have hfz57_2 := blk_frozen BK146.out 2
                                                          have hfz57_3 := blk_frozen BK146.out 3
                                                          have p150 : 0 ≤ ((ji43) : Int) := of_decide_eq_true (by first | (with_reducible assumption) | assumption)
                                                          have q150 : (ji43) < (t131.length : Int) := of_decide_eq_true (by first | (with_reducible assumption) | assumption)
                                                          obtain ⟨ad150, e150, hx150_0, hx150_1⟩ := at_T31 (Kd.R_reads' HO_3.out).2.2 (ji43) p150 q150
                                                          obtain rfl : ad148 = ad150 := (by injection e150)
                                                          replace p150 := eq_true p150
                                                          replace q150 := eq_true q150
                                                          go_wp2
                                                          repeat (go_quiet (fail); try go_wp2)
                                                          go_roundg kj38
                                                          case measure => have := HK1.out; have := HK2.out; have := HJ15.out; have := HJ24.out; have := HJ33.out; have := HK6.out; have := HJ38.out; omega
                                                          case rel => exact ⟨(wrap64 (x11_6 + 1)), (by first | rfl | (simp; done) | (simp [*]; done)), H', ⟨by have := HK1.out; have := HK2.out; have := HJ15.out; have := HJ24.out; have := HJ33.out; have := HK6.out; have := HJ38.out; omega⟩, ⟨by (with_reducible repeat (first | apply Kd.R_alloc | apply Kd.R_drewN | apply Kd.R_drew)); exact HO_3.out⟩, ⟨by (with_reducible repeat (first | refine blk_drewN ?_ _ | refine blk_drew ?_ | refine blk_alloc ?_ _)); exact BK146.out⟩, ⟨by repeat (first | (with_reducible first | exact HB.out | apply below_alloc | apply pw_below_drewN | apply below_drew1 | refine below_set ?_ GE146.out) | exact HB.out)⟩⟩
                                                        · rw [if_neg c55] at H
                                                          have c55b0 : (((rd_T31 t131 (ji43)).f1) == t142) = false := beq_eq_false_iff_ne.mpr c55
                                                          have c55b1 : (((rd_T31 t131 (ji43)).f1) != t142) = true := bne_iff_ne.mpr c55
                                                          obtain rfl := Option.some.inj H
                                                          obtain ⟨Ao58, co58, eo58⟩ := Kd.R_slice HO_3.out
                                                          subst eo58
                                                          have p148 : 0 ≤ ((ji43) : Int) := of_decide_eq_true (by first | (with_reducible assumption) | assumption)
                                                          have q148 : (ji43) < (t131.length : Int) := of_decide_eq_true (by first | (with_reducible assumption) | assumption)
                                                          obtain ⟨ad148, e148, hx148_0, hx148_1⟩ := at_T31 (Kd.R_reads' HO_3.out).2.2 (ji43) p148 q148
                                                          cases e148
                                                          replace p148 := eq_true p148
                                                          replace q148 := eq_true q148
                                                          have hcz59_0 : wc.cell? ⟨gb146, 0, none⟩ = some (.int .i64 t140) := (blk_cell BK146.out 0).trans rfl
                                                          have hcz59_1 : wc.cell? ⟨gb146, 1, none⟩ = some (.string t141) := (blk_cell BK146.out 1).trans rfl
                                                          have hcz59_2 : wc.cell? ⟨gb146, 2, none⟩ = some (.int .i64 t142) := (blk_cell BK146.out 2).trans rfl
                                                          have hcz59_3 : wc.cell? ⟨gb146, 3, none⟩ = some (.int .i64 t143) := (blk_cell BK146.out 3).trans rfl
                                                          have hfz59_0 := blk_frozen BK146.out 0
                                                          have hfz59_1 := blk_frozen BK146.out 1
                                                          have hfz59_2 := blk_frozen BK146.out 2
                                                          have hfz59_3 := blk_frozen BK146.out 3
                                                          have p150 : 0 ≤ ((ji43) : Int) := of_decide_eq_true (by first | (with_reducible assumption) | assumption)
                                                          have q150 : (ji43) < (t131.length : Int) := of_decide_eq_true (by first | (with_reducible assumption) | assumption)
                                                          obtain ⟨ad150, e150, hx150_0, hx150_1⟩ := at_T31 (Kd.R_reads' HO_3.out).2.2 (ji43) p150 q150
                                                          obtain rfl : ad148 = ad150 := (by injection e150)
                                                          replace p150 := eq_true p150
                                                          replace q150 := eq_true q150
                                                          go_wp2
                                                          repeat (go_quiet (fail); try go_wp2)
                                                          go_ret
                                                          exact ⟨by first | rfl | (simp [errW_none, errW_some] <;> rfl) | (simp only [← hji43]; first | rfl | (simp [errW_none, errW_some] <;> rfl)) | (simp [*, errW_none, errW_some] <;> rfl), by repeat (first | (with_reducible first | exact HB.out | apply below_alloc | apply pw_below_drewN | apply below_drew1 | refine below_set ?_ GE146.out) | exact HB.out)⟩
                                                  · rw [if_neg c45] at H
                                                    exact absurd H (by simp)
                                                · rw [if_neg c44] at H
                                                  exact absurd H (by simp)
                                              · replace c42 := Bool.eq_false_iff.mpr c42
                                                subst c42
                                                have H1 : (selvagelaw08_ActTiles.l0 kj38 l0 t131 (wrap64 (x4_1 + x10_33)) (wrap64 (x5_1 + 1))) = some r := by rw [if_neg (show ¬ (false = true) by decide)] at H; exact H
                                                clear H
                                                have H := H1
                                                clear H1
                                                have H' := Aside0.mk H
                                                clear H
                                                go_wp2
                                                repeat (go_quiet (fail); try go_wp2)
                                                go_roundg kj38
                                                case measure => have := HK1.out; have := HK2.out; have := HJ15.out; have := HJ24.out; have := HJ33.out; have := HK6.out; have := HJ38.out; omega
                                                case rel => exact ⟨(wrap64 (x4_1 + x10_33)), (wrap64 (x5_1 + 1)), (by first | rfl | (simp; done) | (simp [*]; done)), (by first | rfl | (simp; done) | (simp [*]; done)), H', ⟨by have := HK1.out; have := HK2.out; have := HJ15.out; have := HJ24.out; have := HJ33.out; have := HK6.out; have := HJ38.out; omega⟩, ⟨by (with_reducible repeat (first | apply Kd.R_alloc | apply Kd.R_drewN | apply Kd.R_drew)); exact HO_3.out⟩, ⟨by repeat (first | (with_reducible first | exact HB.out | apply below_alloc | apply pw_below_drewN | apply below_drew1 | refine below_set ?_ GE146.out) | exact HB.out)⟩⟩
                          · rw [if_neg c23] at H
                            exact absurd H (by simp)
                        · rw [if_neg c22] at H
                          exact absurd H (by simp)
          · rw [if_neg c9] at H
            have c9b0 : decide (x5_1 < (l0.length : Int)) = false := decide_eq_false c9
            clear c9
            obtain ⟨ji60, hji60⟩ : ∃ j_ : Int, (mn x4_1 16) = j_ := ⟨_, rfl⟩
            replace H : (some ((t131.length : Int) == (ji60))) = some r := by first | (rw [hji60] at H; exact H) | (simp only [hji60] at H ⊢; exact H)
            have hji60_ : (if 16 < x4_1 then 16 else x4_1) = ji60 := hji60
            obtain rfl := Option.some.inj H
            obtain ⟨Ao61, co61, eo61⟩ := Kd.R_slice HO_3.out
            subst eo61
            go_wp2
            repeat (go_quiet (fail); try go_wp2)
            go_ret
            exact ⟨by first | rfl | (simp [errW_none, errW_some] <;> rfl) | (simp only [← hji60]; first | rfl | (simp [errW_none, errW_some] <;> rfl)) | (simp [*, errW_none, errW_some] <;> rfl), by repeat (first | (with_reducible first | exact HB.out | apply below_alloc | apply pw_below_drewN | apply below_drew1) | exact HB.out)⟩
  · replace c3 := Bool.eq_false_iff.mpr c3
    subst c3
    have H1 : (some false) = some r := by rw [if_neg (show ¬ (false = true) by decide)] at H; exact H
    clear H
    have H := H1
    clear H1
    obtain rfl := Option.some.inj H
    go_enter Try.func3, Try.ntmps3
    go_wp2_with (first | (go_at_call 7; (with_reducible refine (selvagelaw08_awake.calls k  false _ A2.out).mono ?_); rintro e w62 ⟨rfl, hb⟩; have n0_ := Aside0.mk (below_step (by repeat (first | (with_reducible first | exact HB.out | apply below_alloc | apply pw_below_drewN | apply below_drew1) | exact HB.out)) hb); clear HB; have HB := n0_; clear n0_; (try clear hb); (try clear hb2); (try clear hk); (try clear hi)))
    repeat (go_quiet (first | (go_at_call 7; (with_reducible refine (selvagelaw08_awake.calls k  false _ A2.out).mono ?_); rintro e w62 ⟨rfl, hb⟩; have n0_ := Aside0.mk (below_step (by repeat (first | (with_reducible first | exact HB.out | apply below_alloc | apply pw_below_drewN | apply below_drew1) | exact HB.out)) hb); clear HB; have HB := n0_; clear n0_; (try clear hb); (try clear hb2); (try clear hk); (try clear hi))); try go_wp2_with (first | (go_at_call 7; (with_reducible refine (selvagelaw08_awake.calls k  false _ A2.out).mono ?_); rintro e w62 ⟨rfl, hb⟩; have n0_ := Aside0.mk (below_step (by repeat (first | (with_reducible first | exact HB.out | apply below_alloc | apply pw_below_drewN | apply below_drew1) | exact HB.out)) hb); clear HB; have HB := n0_; clear n0_; (try clear hb); (try clear hb2); (try clear hk); (try clear hi))))
    go_ret
    exact ⟨by first | rfl | (simp [errW_none, errW_some] <;> rfl) | (simp [*, errW_none, errW_some] <;> rfl), by repeat (first | (with_reducible first | exact HB.out | apply below_alloc | apply pw_below_drewN | apply below_drew1) | exact HB.out)⟩

end Go.Proofs.Ytankmlddfcfkfaa.PActTiles
