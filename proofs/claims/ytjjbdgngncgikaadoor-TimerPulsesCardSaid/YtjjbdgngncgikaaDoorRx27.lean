-- Written by this claim's own program out of the translation; not trusted: Lean checks it.
import Derived.Test.YtjjbdgngncgikaaDoorRx0
import Derived.Test.YtjjbdgngncgikaaDoorRx1
import Derived.Test.YtjjbdgngncgikaaDoorRx19
import Derived.Test.YtjjbdgngncgikaaDoorRx20
import Derived.Test.YtjjbdgngncgikaaDoorRx21
import Derived.Test.YtjjbdgngncgikaaDoorRx25
namespace Go.Proofs.YtjjbdgngncgikaaDoor.R
open Go.RowKit Go.Proofs.YtjjbdgngncgikaaDoorW.PrintWords Go.Proofs.YtjjbdgngncgikaaDoorW.PrintLast Go.Proofs.YtjjbdgngncgikaaDoorW.PrintMore
attribute [local go_sem] max2_int min2_int max_two min_two max_three min_three max_four min_four   -- for this text's walks alone
set_option linter.unusedVariables false
set_option linter.unusedSimpArgs false

attribute [local go_sem high] eqA32
/-! ### plenumlaw19_TimerPulses: function 4 -/
mutual
def plenumlaw19_TimerPulses.j0 : Nat → Int → List Bool → Bool → Option (Bool)
 | 0, _, _, _ => none
 | k + 1, x0, x1, x24 => if x24 = true then (some true) else ((plenumlaw19_on.f k x1).bind fun t510 => ((timer_Run.f k (⟨#[112, 117, 108, 115, 101]⟩ : ByteArray) (([x0] : List Int)) t510 1).bind fun bt513 => ((plenumlaw19_on.f k x1).bind fun t517 => ((timer_Run.f k (⟨#[101, 100, 103, 101]⟩ : ByteArray) ([] : List Int) t517 1).bind fun bt520 => (if bt513.2 = 0 then (if bt520.2 = 0 then (if (bt513.1.length : Int) = (x1.length : Int) then (plenumlaw19_TimerPulses.j1 k x0 x1 bt513.1 bt520.1 ((bt520.1.length : Int) != (x1.length : Int))) else (plenumlaw19_TimerPulses.j1 k x0 x1 bt513.1 bt520.1 true)) else (plenumlaw19_TimerPulses.j1 k x0 x1 bt513.1 bt520.1 true)) else (plenumlaw19_TimerPulses.j1 k x0 x1 bt513.1 bt520.1 true))))))
def plenumlaw19_TimerPulses.j1 : Nat → Int → List Bool → List (S32) → List (S32) → Bool → Option (Bool)
 | 0, _, _, _, _, _ => none
 | k + 1, x0, x1, x5, x7, x58 => if x58 = true then (none) else (plenumlaw19_TimerPulses.l0 k x0 x1 x5 x7 0)
def plenumlaw19_TimerPulses.l0 : Nat → Int → List Bool → List (S32) → List (S32) → Int → Option (Bool)
 | 0, _, _, _, _, _ => none
 | k + 1, x0, x1, x5, x7, x9 => if x9 < (x1.length : Int) then (plenumlaw19_TimerPulses.l1 k x0 x1 x5 x7 x9 false x9) else (some true)
def plenumlaw19_TimerPulses.j4 : Nat → Int → List Bool → List (S32) → List (S32) → Int → Bool → Option (Bool)
 | 0, _, _, _, _, _, _ => none
 | k + 1, x0, x1, x5, x7, x9, x10 => if 0 ≤ x9 then (if x9 < (x5.length : Int) then ((plenumlaw19_bit.f x10).bind fun bt526 => (if (!(((rd_T32 x5 x9).f0) == bt526.1) || (!(((rd_T32 x5 x9).f1) == bt526.2))) = true then (none) else (if x9 < (x7.length : Int) then (if x9 < (x1.length : Int) then (if rdOf false x1 x9 = true then (if x9 = 0 then ((plenumlaw19_bit.f true).bind fun bt530 => (if (!(((rd_T32 x7 x9).f0) == bt530.1) || (!(((rd_T32 x7 x9).f1) == bt530.2))) = true then (none) else (plenumlaw19_TimerPulses.l0 k x0 x1 x5 x7 (wrap64 (x9 + 1))))) else (if 0 ≤ (wrap64 (x9 - 1)) then (if (wrap64 (x9 - 1)) < (x1.length : Int) then ((plenumlaw19_bit.f (!(rdOf false x1 (wrap64 (x9 - 1))))).bind fun bt533 => (if (!(((rd_T32 x7 x9).f0) == bt533.1) || (!(((rd_T32 x7 x9).f1) == bt533.2))) = true then (none) else (plenumlaw19_TimerPulses.l0 k x0 x1 x5 x7 (wrap64 (x9 + 1))))) else (none)) else (none))) else ((plenumlaw19_bit.f false).bind fun bt535 => (if (!(((rd_T32 x7 x9).f0) == bt535.1) || (!(((rd_T32 x7 x9).f1) == bt535.2))) = true then (none) else (plenumlaw19_TimerPulses.l0 k x0 x1 x5 x7 (wrap64 (x9 + 1)))))) else (none)) else (none)))) else (none)) else (none)
def plenumlaw19_TimerPulses.l1 : Nat → Int → List Bool → List (S32) → List (S32) → Int → Bool → Int → Option (Bool)
 | 0, _, _, _, _, _, _, _ => none
 | k + 1, x0, x1, x5, x7, x9, x10, x11 => if x11 ≥ 0 then (if x11 > (wrap64 (x9 - x0)) then (if x10 = true then (plenumlaw19_TimerPulses.l1 k x0 x1 x5 x7 x9 true (wrap64 (x11 - 1))) else (if 0 ≤ x11 then (if x11 < (x7.length : Int) then (plenumlaw19_TimerPulses.l1 k x0 x1 x5 x7 x9 (((rd_T32 x7 x11).f1) == 1) (wrap64 (x11 - 1))) else (none)) else (none))) else (plenumlaw19_TimerPulses.j4 k x0 x1 x5 x7 x9 x10)) else (plenumlaw19_TimerPulses.j4 k x0 x1 x5 x7 x9 x10)
end
def plenumlaw19_TimerPulses.f (k : Nat) (a0 : Int) (l1 : List Bool) : Option (Bool) := (plenumlaw19_awake.f k).bind fun t506 => (if t506 = true then (if (l1.length : Int) > 80 then (plenumlaw19_TimerPulses.j0 k a0 l1 true) else (if a0 < 0 then (plenumlaw19_TimerPulses.j0 k a0 l1 true) else (plenumlaw19_TimerPulses.j0 k a0 l1 (decide (a0 > 100))))) else (none))
theorem plenumlaw19_TimerPulses.mono_l : ∀ k, (∀ y0 y1 y2, LeO (plenumlaw19_TimerPulses.j0 k y0 y1 y2) (plenumlaw19_TimerPulses.j0 (k + 1) y0 y1 y2)) ∧ (∀ y0 y1 y2 y3 y4, LeO (plenumlaw19_TimerPulses.j1 k y0 y1 y2 y3 y4) (plenumlaw19_TimerPulses.j1 (k + 1) y0 y1 y2 y3 y4)) ∧ (∀ y0 y1 y2 y3 y4, LeO (plenumlaw19_TimerPulses.l0 k y0 y1 y2 y3 y4) (plenumlaw19_TimerPulses.l0 (k + 1) y0 y1 y2 y3 y4)) ∧ (∀ y0 y1 y2 y3 y4 y5, LeO (plenumlaw19_TimerPulses.j4 k y0 y1 y2 y3 y4 y5) (plenumlaw19_TimerPulses.j4 (k + 1) y0 y1 y2 y3 y4 y5)) ∧ (∀ y0 y1 y2 y3 y4 y5 y6, LeO (plenumlaw19_TimerPulses.l1 k y0 y1 y2 y3 y4 y5 y6) (plenumlaw19_TimerPulses.l1 (k + 1) y0 y1 y2 y3 y4 y5 y6))
 | 0 => ⟨fun _ _ _ r h => by simp [plenumlaw19_TimerPulses.j0] at h, fun _ _ _ _ _ r h => by simp [plenumlaw19_TimerPulses.j1] at h, fun _ _ _ _ _ r h => by simp [plenumlaw19_TimerPulses.l0] at h, fun _ _ _ _ _ _ r h => by simp [plenumlaw19_TimerPulses.j4] at h, fun _ _ _ _ _ _ _ r h => by simp [plenumlaw19_TimerPulses.l1] at h⟩
 | k + 1 => by
  obtain ⟨ih0, ih1, ih2, ih3, ih4⟩ := plenumlaw19_TimerPulses.mono_l k
  refine ⟨?_, ?_, ?_, ?_, ?_⟩
  ·
   intro y0 y1 y2
   unfold plenumlaw19_TimerPulses.j0
   repeat' first
   | (with_reducible exact ih0 _ _ _)
   | (with_reducible exact ih1 _ _ _ _ _)
   | (with_reducible exact ih2 _ _ _ _ _)
   | (with_reducible exact ih3 _ _ _ _ _ _)
   | (with_reducible exact ih4 _ _ _ _ _ _ _)
   | (with_reducible exact plenumlaw19_awake.mono _)
   | (with_reducible exact plenumlaw19_on.mono _ _)
   | (with_reducible exact timer_Run.mono _ _ _ _ _)
   | (with_reducible exact LeO.refl _)
   | (with_reducible exact LeO.none _)
   | (with_reducible refine LeO.ite ?_ ?_)
   | (with_reducible refine LeO.bind ?_ (fun _ => ?_))
   | exact ih0 _ _ _
   | exact ih1 _ _ _ _ _
   | exact ih2 _ _ _ _ _
   | exact ih3 _ _ _ _ _ _
   | exact ih4 _ _ _ _ _ _ _
   | exact plenumlaw19_awake.mono _
   | exact plenumlaw19_on.mono _ _
   | exact timer_Run.mono _ _ _ _ _
   | exact LeO.none _
   | refine LeO.ite ?_ ?_
   | refine LeO.bind ?_ (fun _ => ?_)
  ·
   intro y0 y1 y2 y3 y4
   unfold plenumlaw19_TimerPulses.j1
   repeat' first
   | (with_reducible exact ih0 _ _ _)
   | (with_reducible exact ih1 _ _ _ _ _)
   | (with_reducible exact ih2 _ _ _ _ _)
   | (with_reducible exact ih3 _ _ _ _ _ _)
   | (with_reducible exact ih4 _ _ _ _ _ _ _)
   | (with_reducible exact plenumlaw19_awake.mono _)
   | (with_reducible exact plenumlaw19_on.mono _ _)
   | (with_reducible exact timer_Run.mono _ _ _ _ _)
   | (with_reducible exact LeO.refl _)
   | (with_reducible exact LeO.none _)
   | (with_reducible refine LeO.ite ?_ ?_)
   | (with_reducible refine LeO.bind ?_ (fun _ => ?_))
   | exact ih0 _ _ _
   | exact ih1 _ _ _ _ _
   | exact ih2 _ _ _ _ _
   | exact ih3 _ _ _ _ _ _
   | exact ih4 _ _ _ _ _ _ _
   | exact plenumlaw19_awake.mono _
   | exact plenumlaw19_on.mono _ _
   | exact timer_Run.mono _ _ _ _ _
   | exact LeO.none _
   | refine LeO.ite ?_ ?_
   | refine LeO.bind ?_ (fun _ => ?_)
  ·
   intro y0 y1 y2 y3 y4
   unfold plenumlaw19_TimerPulses.l0
   repeat' first
   | (with_reducible exact ih0 _ _ _)
   | (with_reducible exact ih1 _ _ _ _ _)
   | (with_reducible exact ih2 _ _ _ _ _)
   | (with_reducible exact ih3 _ _ _ _ _ _)
   | (with_reducible exact ih4 _ _ _ _ _ _ _)
   | (with_reducible exact plenumlaw19_awake.mono _)
   | (with_reducible exact plenumlaw19_on.mono _ _)
   | (with_reducible exact timer_Run.mono _ _ _ _ _)
   | (with_reducible exact LeO.refl _)
   | (with_reducible exact LeO.none _)
   | (with_reducible refine LeO.ite ?_ ?_)
   | (with_reducible refine LeO.bind ?_ (fun _ => ?_))
   | exact ih0 _ _ _
   | exact ih1 _ _ _ _ _
   | exact ih2 _ _ _ _ _
   | exact ih3 _ _ _ _ _ _
   | exact ih4 _ _ _ _ _ _ _
   | exact plenumlaw19_awake.mono _
   | exact plenumlaw19_on.mono _ _
   | exact timer_Run.mono _ _ _ _ _
   | exact LeO.none _
   | refine LeO.ite ?_ ?_
   | refine LeO.bind ?_ (fun _ => ?_)
  ·
   intro y0 y1 y2 y3 y4 y5
   unfold plenumlaw19_TimerPulses.j4
   repeat' first
   | (with_reducible exact ih0 _ _ _)
   | (with_reducible exact ih1 _ _ _ _ _)
   | (with_reducible exact ih2 _ _ _ _ _)
   | (with_reducible exact ih3 _ _ _ _ _ _)
   | (with_reducible exact ih4 _ _ _ _ _ _ _)
   | (with_reducible exact plenumlaw19_awake.mono _)
   | (with_reducible exact plenumlaw19_on.mono _ _)
   | (with_reducible exact timer_Run.mono _ _ _ _ _)
   | (with_reducible exact LeO.refl _)
   | (with_reducible exact LeO.none _)
   | (with_reducible refine LeO.ite ?_ ?_)
   | (with_reducible refine LeO.bind ?_ (fun _ => ?_))
   | exact ih0 _ _ _
   | exact ih1 _ _ _ _ _
   | exact ih2 _ _ _ _ _
   | exact ih3 _ _ _ _ _ _
   | exact ih4 _ _ _ _ _ _ _
   | exact plenumlaw19_awake.mono _
   | exact plenumlaw19_on.mono _ _
   | exact timer_Run.mono _ _ _ _ _
   | exact LeO.none _
   | refine LeO.ite ?_ ?_
   | refine LeO.bind ?_ (fun _ => ?_)
  ·
   intro y0 y1 y2 y3 y4 y5 y6
   unfold plenumlaw19_TimerPulses.l1
   repeat' first
   | (with_reducible exact ih0 _ _ _)
   | (with_reducible exact ih1 _ _ _ _ _)
   | (with_reducible exact ih2 _ _ _ _ _)
   | (with_reducible exact ih3 _ _ _ _ _ _)
   | (with_reducible exact ih4 _ _ _ _ _ _ _)
   | (with_reducible exact plenumlaw19_awake.mono _)
   | (with_reducible exact plenumlaw19_on.mono _ _)
   | (with_reducible exact timer_Run.mono _ _ _ _ _)
   | (with_reducible exact LeO.refl _)
   | (with_reducible exact LeO.none _)
   | (with_reducible refine LeO.ite ?_ ?_)
   | (with_reducible refine LeO.bind ?_ (fun _ => ?_))
   | exact ih0 _ _ _
   | exact ih1 _ _ _ _ _
   | exact ih2 _ _ _ _ _
   | exact ih3 _ _ _ _ _ _
   | exact ih4 _ _ _ _ _ _ _
   | exact plenumlaw19_awake.mono _
   | exact plenumlaw19_on.mono _ _
   | exact timer_Run.mono _ _ _ _ _
   | exact LeO.none _
   | refine LeO.ite ?_ ?_
   | refine LeO.bind ?_ (fun _ => ?_)
theorem plenumlaw19_TimerPulses.mono : ∀ a0 a1 k, LeO (plenumlaw19_TimerPulses.f k a0 a1) (plenumlaw19_TimerPulses.f (k + 1) a0 a1) := by
 intro a0 a1 k
 obtain ⟨ih0, ih1, ih2, ih3, ih4⟩ := plenumlaw19_TimerPulses.mono_l k
 unfold plenumlaw19_TimerPulses.f
 repeat' first
   | (with_reducible exact ih0 _ _ _)
   | (with_reducible exact ih1 _ _ _ _ _)
   | (with_reducible exact ih2 _ _ _ _ _)
   | (with_reducible exact ih3 _ _ _ _ _ _)
   | (with_reducible exact ih4 _ _ _ _ _ _ _)
   | (with_reducible exact plenumlaw19_awake.mono _)
   | (with_reducible exact plenumlaw19_on.mono _ _)
   | (with_reducible exact timer_Run.mono _ _ _ _ _)
   | (with_reducible exact LeO.refl _)
   | (with_reducible exact LeO.none _)
   | (with_reducible refine LeO.ite ?_ ?_)
   | (with_reducible refine LeO.bind ?_ (fun _ => ?_))
   | exact ih0 _ _ _
   | exact ih1 _ _ _ _ _
   | exact ih2 _ _ _ _ _
   | exact ih3 _ _ _ _ _ _
   | exact ih4 _ _ _ _ _ _ _
   | exact plenumlaw19_awake.mono _
   | exact plenumlaw19_on.mono _ _
   | exact timer_Run.mono _ _ _ _ _
   | exact LeO.none _
   | refine LeO.ite ?_ ?_
   | refine LeO.bind ?_ (fun _ => ?_)
def plenumlaw19_TimerPulses.T17 : Bool × List (List Nat × List Nat) := (true, [([], []), ([], []), ([0, 1], [0, 1]), ([2], [2]), ([], []), ([4], [4]), ([3, 5], [3, 5]), ([6, 5], [6]), ([7], [7]), ([7], [7]), ([8, 9, 7], [7, 8, 9]), ([10, 7], [7, 10]), ([7], [7]), ([7], [7]), ([12, 13, 7], [7, 12, 13]), ([14, 7], [7, 14]), ([15, 7, 7], [7, 15]), ([16], [16]), ([17, 16], [16, 17]), ([18, 16, 16], [16, 18]), ([19], [19]), ([19], [19]), ([21, 19], [19, 21]), ([20, 22, 19], [19, 20, 22]), ([23, 19], [19, 23]), ([24, 19], [19, 24]), ([19, 25, 16], [16, 19, 25]), ([16, 26, 7], [7, 16, 26]), ([27, 19, 7], [7, 27]), ([11, 28, 7], [7, 11, 28]), ([7, 29], [7, 29])])
def plenumlaw19_TimerPulses.B17 : List Nat := [0, 0, 3, 7, 0, 16, 63, 127, 255, 255, 1023, 2047, 255, 255, 12543, 28927, 61695, 127231, 258303, 520447, 1044735, 1044735, 3141887, 8384767, 16773375, 33550591, 67105023, 134213887, 268431615, 536870911, 1073741823]
theorem plenumlaw19_TimerPulses.tab17 : rtab .any (opsOf Tryd.f4 17) = plenumlaw19_TimerPulses.T17 := by kernel_rfl
theorem plenumlaw19_TimerPulses.bits17 : waitsOk plenumlaw19_TimerPulses.T17.2 plenumlaw19_TimerPulses.B17 = true := by kernel_rfl
set_option maxHeartbeats 8000000 in
set_option maxRecDepth 100000 in
theorem plenumlaw19_TimerPulses.calls (k : Nat) (a0 : Int) (A1 : Option Addr) (c1 : Nat) (l1 : List Bool) (r : Bool) (w : World) (hr1 : Kd.C Kd.bool w A1 l1.length l1) (hc1 : l1.length ≤ c1) (hG : GW w) (h : plenumlaw19_TimerPulses.f k a0 l1 = some r) :
  Calls Tryd.prog 4 #[.int .i64 a0, .slice A1 l1.length c1] w fun e w' => e = .returned (.bool r) ∧ Below w.heap.size w w' := by
 have hu32 := Tryd.underlying32
 have HG := Aside0.mk hG
 clear hG
 have HR1 := Aside0.mk hr1
 have HC1 := Aside0.mk hc1
 clear hr1 hc1
 have HB := Aside0.mk (Below.refl w.heap.size w)
 have H : ((plenumlaw19_awake.f k).bind fun t506 => (if t506 = true then (if (l1.length : Int) > 80 then (plenumlaw19_TimerPulses.j0 k a0 l1 true) else (if a0 < 0 then (plenumlaw19_TimerPulses.j0 k a0 l1 true) else (plenumlaw19_TimerPulses.j0 k a0 l1 (decide (a0 > 100))))) else (none))) = some r := h
 clear h
 replace H := Option.bind_eq_some_iff.mp H
 obtain ⟨t506, A30, H⟩ := H
 (try dsimp only at H)
 have A3 := Aside0.mk A30
 clear A30
 by_cases c4 : t506 = true
 ·
  subst c4
  rw [if_pos rfl] at H
  have HC5 := Aside0.mk H
  clear H
  go_enter Tryd.func4, Tryd.ntmps4
  go_upto_region 3 with (first | ((with_reducible refine gate_callee (f := 8) rfl ?_); refine goesL_ (some 12) rfl rfl Tryd.func8 (by kernel_rfl) rfl #[] rfl aeq ?_; (with_reducible refine (plenumlaw19_awake.calls k  true _ ?side1 A3.out).mono ?_); (case side1 => exact GW.below HG.out bl); rintro e w6 ⟨rfl, hb⟩; refine ⟨_, rfl, ?_⟩; have n0_ := Aside0.mk (below_step bl hb); revert n0_; clear HB; intro HB; (try clear hb); (try clear hb2); (try clear hk); (try clear hi)))
  (try simp only [ap, sa, sb, sc])
  go_cut [24] (fun v24 wc => ∃ (kq : Nat) (x24_4 : Bool), v24 = .bool x24_4 ∧ Aside0 (plenumlaw19_TimerPulses.j0 kq a0 l1 x24_4 = some r) ∧ Aside0 (kq ≤ k) ∧ Aside0 (Below w.heap.size w wc))
  case first =>
   have H := HC5.out
   clear HC5
   by_cases c7 : (l1.length : Int) > 80
   ·
    rw [if_pos c7] at H
    have c7b0 : decide (80 < (l1.length : Int)) = true := decide_eq_true c7
    have c7b1 : decide (80 < l1.length) = true := decide_eq_true (by omega)
    clear c7
    (first | rw [c7b0] | (simp only [i64_w, i32_w]; rw [c7b0]) | skip)
    have H' := Aside0.mk H
    clear H
    go_wp2
    go_meet
    case rel => exact ⟨_, (true), (by first | rfl | (simp; done) | (simp [*]; done)), H', ⟨by first | omega | exact Nat.le_refl _⟩, ⟨bl⟩⟩
   rw [if_neg c7] at H
   have c7b0 : decide (80 < (l1.length : Int)) = false := decide_eq_false c7
   have c7b1 : decide (80 < l1.length) = false := decide_eq_false (by omega)
   clear c7
   (first | rw [c7b0] | (simp only [i64_w, i32_w]; rw [c7b0]) | skip)
   by_cases c8 : a0 < 0
   ·
    rw [if_pos c8] at H
    have c8b0 : decide (a0 < 0) = true := decide_eq_true c8
    clear c8
    have H' := Aside0.mk H
    clear H
    go_wp2
    go_meet
    case rel => exact ⟨_, (true), (by first | rfl | (simp; done) | (simp [*]; done)), H', ⟨by first | omega | exact Nat.le_refl _⟩, ⟨bl⟩⟩
   rw [if_neg c8] at H
   have c8b0 : decide (a0 < 0) = false := decide_eq_false c8
   clear c8
   have H' := Aside0.mk H
   clear H
   go_wp2
   go_meet
   case rel => exact ⟨_, (decide (a0 > 100)), (by first | rfl | (simp; done) | (simp [*]; done)), H', ⟨by first | omega | exact Nat.le_refl _⟩, ⟨bl⟩⟩
  clear HC5
  try clear c1
  try clear p2
  try clear c4
  try clear c7
  try clear c7b0
  try clear c7b1
  try clear c8
  try clear c8b0
  obtain ⟨kq, x24_4, rfl, HA, HJ4, HB⟩ := hcut
  cases kq with
  | zero => exact absurd HA.out (by simp [plenumlaw19_TimerPulses.j0])
  | succ kj4 =>
   have H := HA.out
   clear HA
   simp only [plenumlaw19_TimerPulses.j0] at H
   by_cases c9 : x24_4 = true
   ·
    subst c9
    rw [if_pos rfl] at H
    obtain rfl := Option.some.inj H
    go_wp2
    go_ret
    exact ⟨by first | rfl | (simp [errW_none, errW_some] <;> rfl) | (simp [*, errW_none, errW_some] <;> rfl), bl⟩
   replace c9 := Bool.eq_false_iff.mpr c9
   subst c9
   rw [if_neg (show ¬ (false = true) by decide)] at H
   obtain ⟨y507, hy507⟩ : ∃ y_ : List Int, y_ = (([a0] : List Int)) := ⟨_, rfl⟩
   replace H : ((plenumlaw19_on.f kj4 l1).bind fun t510 => ((timer_Run.f kj4 (⟨#[112, 117, 108, 115, 101]⟩ : ByteArray) y507 t510 1).bind fun bt513 => ((plenumlaw19_on.f kj4 l1).bind fun t517 => ((timer_Run.f kj4 (⟨#[101, 100, 103, 101]⟩ : ByteArray) ([] : List Int) t517 1).bind fun bt520 => (if bt513.2 = 0 then (if bt520.2 = 0 then (if (bt513.1.length : Int) = (l1.length : Int) then (plenumlaw19_TimerPulses.j1 kj4 a0 l1 bt513.1 bt520.1 ((bt520.1.length : Int) != (l1.length : Int))) else (plenumlaw19_TimerPulses.j1 kj4 a0 l1 bt513.1 bt520.1 true)) else (plenumlaw19_TimerPulses.j1 kj4 a0 l1 bt513.1 bt520.1 true)) else (plenumlaw19_TimerPulses.j1 kj4 a0 l1 bt513.1 bt520.1 true)))))) = some r := by first | (rw [hy507]; with_reducible exact H) | (have H2_ := (Option.bind_some _ _).symm.trans H; rw [hy507]; with_reducible exact H2_) | (have H2_ := (Option.bind_some _ _).symm.trans H; with_reducible exact H2_) | with_reducible exact H | (rw [hy507]; exact H) | exact H
   have Ny507 := Aside0.mk hy507
   clear hy507
   replace H := Option.bind_eq_some_iff.mp H
   obtain ⟨t510, A100, H⟩ := H
   (try dsimp only at H)
   have A10 := Aside0.mk A100
   clear A100
   replace H := Option.bind_eq_some_iff.mp H
   obtain ⟨⟨t513, t514⟩, A110, H⟩ := H
   (try dsimp only at H)
   have A11 := Aside0.mk A110
   clear A110
   replace H := Option.bind_eq_some_iff.mp H
   obtain ⟨t517, A120, H⟩ := H
   (try dsimp only at H)
   have A12 := Aside0.mk A120
   clear A120
   replace H := Option.bind_eq_some_iff.mp H
   obtain ⟨⟨t520, t521⟩, A130, H⟩ := H
   (try dsimp only at H)
   have A13 := Aside0.mk A130
   clear A130
   have HC14 := Aside0.mk H
   clear H
   go_upto_region 7 with (first | ((with_reducible refine gate_dst (N := 27) rfl ?_); (try (refine gate_guard (by rfl) ?_; dsimp only)); refine Kd.R_lit (Kd.int .i64) _ 2 ?hg (N := 27) ?hd (xs := ([a0] : List Int)) (inner := [.int .i64 a0]) (ok := fun _ => True) (okp := fun _ => True) ?hr ?hp (fun _ hk => hk) trivial (Below.refl _ _) (Nat.le_refl _) (by simp) ?_; (case hd => rfl); (case hg => rfl); (case hr => first | (go_simp; done) | (go_simp; rfl)); (case hp => exact (Reps.one (show Kd.M (Kd.int .i64) _ _ _ a0 [.int .i64 a0] from rfl) (Reps.none _ _))); intro v508 w15 ho16 hb hg_ hnew_; clear hg_ hnew_; (first | rw [← Ny507.out] at ho16 | (simp only [Int.reduceToNat] at ho16; rw [← Ny507.out] at ho16)); have n0_ := Aside0.mk (Kd.R_lower ho16 (below_size bl)); have n1_ := Aside0.mk (below_step bl hb); revert n0_ n1_; clear HB; intro HO509 HB; clear hb ho16) | ((with_reducible refine gate_callee (f := 10) rfl ?_); refine goesL_ (some 29) rfl rfl Tryd.func10 (by kernel_rfl) rfl #[.slice A1 l1.length c1] rfl aeq ?_; (with_reducible refine (plenumlaw19_on.calls kj4 _ _ l1 t510 _ ?side1 ?side2 A10.out).mono ?_); (case side1 => repeat (first | exact (Kd.C_below HR1.out HB.out) | (with_reducible refine Kd.C_alloc ?_ _) | (with_reducible refine Kd.C_drewN ?_ _) | (with_reducible refine Kd.C_drew ?_))); (case side2 => exact HC1.out); rintro e w17 ⟨v511, rfl, ho0, hb⟩; refine ⟨_, rfl, ?_⟩; have n0_ := Aside0.mk (Kd.R_below (rr HO509.out) hb); have n1_ := Aside0.mk (Kd.S_lower ho0 (below_size bl)); have n2_ := Aside0.mk (below_step bl hb); revert n0_ n1_ n2_; clear HO509 HB; intro HO509 HO512 HB; (try clear hb); (try clear hb2); (try clear hk); (try clear hi); (try clear ho0); obtain ⟨Ao18, co18, eo18⟩ := Kd.R_slice HO509.out; subst eo18; obtain ⟨Ao19, co19, eo19⟩ := Kd.S_slice HO512.out; subst eo19) | ((with_reducible refine gate_callee (f := 9) rfl ?_); refine goesL_ (some 30) rfl rfl Tryd.func9 (by kernel_rfl) rfl #[.string (⟨#[112, 117, 108, 115, 101]⟩ : ByteArray), .slice Ao18 y507.length co18, .slice Ao19 t510.length co19, .int .i64 1] rfl aeq ?_; (with_reducible refine (timer_Run.calls kj4 (⟨#[112, 117, 108, 115, 101]⟩ : ByteArray) _ _ y507 _ _ t510 1 t513 t514 _ ?side1 ?side2 ?side3 ?side4 ?side5 A11.out).mono ?_); (case side1 => repeat (first | exact (Kd.R_reads' HO509.out).2.2 | (with_reducible refine Kd.C_alloc ?_ _) | (with_reducible refine Kd.C_drewN ?_ _) | (with_reducible refine Kd.C_drew ?_))); (case side2 => exact (Kd.R_reads' HO509.out).2.1); (case side3 => repeat (first | exact (Kd.S_reads' HO512.out).2.2 | (with_reducible refine Kd.C_alloc ?_ _) | (with_reducible refine Kd.C_drewN ?_ _) | (with_reducible refine Kd.C_drew ?_))); (case side4 => exact (Kd.S_reads' HO512.out).2.1); (case side5 => exact GW.below HG.out bl); rintro e w20 ⟨v515, rfl, ho0, hb⟩; refine ⟨_, rfl, ?_⟩; have n0_ := Aside0.mk (Kd.R_below (rr HO509.out) hb); have n1_ := Aside0.mk (Kd.S_elder' (rs HO512.out) (Kd.R_base ho0) hb); have n2_ := Aside0.mk (Kd.R_lower ho0 (below_size bl)); have n3_ := Aside0.mk (below_step bl hb); revert n0_ n1_ n2_ n3_; clear HO509 HO512 HB; intro HO509 HO512 HO516 HB; (try clear hb); (try clear hb2); (try clear hk); (try clear hi); (try clear ho0)) | ((with_reducible refine gate_callee (f := 10) rfl ?_); refine goesL_ (some 35) rfl rfl Tryd.func10 (by kernel_rfl) rfl #[.slice A1 l1.length c1] rfl aeq ?_; (with_reducible refine (plenumlaw19_on.calls kj4 _ _ l1 t517 _ ?side1 ?side2 A12.out).mono ?_); (case side1 => repeat (first | exact (Kd.C_below HR1.out HB.out) | (with_reducible refine Kd.C_alloc ?_ _) | (with_reducible refine Kd.C_drewN ?_ _) | (with_reducible refine Kd.C_drew ?_))); (case side2 => exact HC1.out); rintro e w21 ⟨v518, rfl, ho0, hb⟩; refine ⟨_, rfl, ?_⟩; have n0_ := Aside0.mk (Kd.R_below (rr HO509.out) hb); have n1_ := Aside0.mk (Kd.S_elder' (rs HO512.out) (Kd.S_base ho0) hb); have n2_ := Aside0.mk (Kd.R_below (rr HO516.out) hb); have n3_ := Aside0.mk (Kd.S_lower (Kd.S_new' (Kd.S_new' ho0 (Kd.S_lt (rs HO512.out))) (Kd.R_lt (rr HO516.out))) (below_size bl)); have n4_ := Aside0.mk (below_step bl hb); revert n0_ n1_ n2_ n3_ n4_; clear HO509 HO512 HO516 HB; intro HO509 HO512 HO516 HO519 HB; (try clear hb); (try clear hb2); (try clear hk); (try clear hi); (try clear ho0); obtain ⟨Ao22, co22, eo22⟩ := Kd.S_slice HO519.out; subst eo22) | ((with_reducible refine gate_callee (f := 9) rfl ?_); refine goesL_ (some 36) rfl rfl Tryd.func9 (by kernel_rfl) rfl #[.string (⟨#[101, 100, 103, 101]⟩ : ByteArray), .slice none 0 0, .slice Ao22 t517.length co22, .int .i64 1] rfl aeq ?_; (refine (timer_Run.calls kj4 (⟨#[101, 100, 103, 101]⟩ : ByteArray) _ _ ([] : List Int) _ _ t517 1 t520 t521 _ ?side1 ?side2 ?side3 ?side4 ?side5 A13.out).mono ?_); (case side1 => exact Kd.C_nil _ _); (case side2 => exact Nat.le_refl _); (case side3 => repeat (first | exact (Kd.S_reads' HO519.out).2.2 | (with_reducible refine Kd.C_alloc ?_ _) | (with_reducible refine Kd.C_drewN ?_ _) | (with_reducible refine Kd.C_drew ?_))); (case side4 => exact (Kd.S_reads' HO519.out).2.1); (case side5 => exact GW.below HG.out bl); rintro e w23 ⟨v522, rfl, ho0, hb⟩; refine ⟨_, rfl, ?_⟩; have n0_ := Aside0.mk (Kd.R_below (rr HO509.out) hb); have n1_ := Aside0.mk (Kd.S_elder' (rs HO512.out) (Kd.R_base ho0) hb); have n2_ := Aside0.mk (Kd.R_elder' (rr HO516.out) (Kd.R_base ho0) hb); have n3_ := Aside0.mk (Kd.S_elder' (rs HO519.out) (Kd.R_base ho0) hb); have n4_ := Aside0.mk (Kd.R_lower (Kd.R_new' ho0 (Kd.R_lt (rr HO516.out))) (below_size bl)); have n5_ := Aside0.mk (below_step bl hb); revert n0_ n1_ n2_ n3_ n4_ n5_; clear HO509 HO512 HO516 HO519 HB; intro HO509 HO512 HO516 HO519 HO523 HB; (try clear hb); (try clear hb2); (try clear hk); (try clear hi); (try clear ho0)))
   (try simp only [ap, sa, sb, sc])
   go_cut [58] (fun v58 wc => ∃ (kq : Nat) (x58_13 : Bool), v58 = .bool x58_13 ∧ Aside0 (plenumlaw19_TimerPulses.j1 kq a0 l1 t513 t520 x58_13 = some r) ∧ Aside0 (kq ≤ kj4) ∧ Aside0 (Kd.R k32 32 wc w.heap.size (fun k_ => some k_ ≠ (v522 : Value).ownBlock) v515 t513) ∧ Aside0 (Kd.R k32 32 wc w.heap.size (fun k_ => some k_ ≠ (v515 : Value).ownBlock) v522 t520) ∧ Aside0 (Below w.heap.size w wc))
   case first =>
    have H := HC14.out
    clear HC14
    by_cases c24 : t514 = 0
    rotate_left
    ·
     rw [if_neg c24] at H
     have c24b0 : (t514 == 0) = false := beq_eq_false_iff_ne.mpr c24
     have c24b1 : (t514 != 0) = true := bne_iff_ne.mpr c24
     (first | rw [c24b0] | (simp only [i64_w, i32_w]; rw [c24b0]) | skip)
     have H' := Aside0.mk H
     clear H
     go_wp2
     go_meet
     case rel => exact ⟨_, (true), (by first | rfl | (simp; done) | (simp [*]; done)), H', ⟨by have := HJ4.out; first | omega | exact Nat.le_refl _⟩, ⟨rr (Kd.R_mono HO516.out (fun _ hk => hk.2))⟩, ⟨rr (Kd.R_mono HO523.out (fun _ hk => hk.2))⟩, ⟨bl⟩⟩
    rw [if_pos c24] at H
    have c24b0 : (t514 == 0) = true := beq_iff_eq.mpr c24
    have c24b1 : (t514 != 0) = false := bne_eq_false_iff_eq.mpr c24
    clear c24
    (first | rw [c24b0] | (simp only [i64_w, i32_w]; rw [c24b0]) | skip)
    by_cases c25 : t521 = 0
    rotate_left
    ·
     rw [if_neg c25] at H
     have c25b0 : (t521 == 0) = false := beq_eq_false_iff_ne.mpr c25
     have c25b1 : (t521 != 0) = true := bne_iff_ne.mpr c25
     have H' := Aside0.mk H
     clear H
     go_wp2
     go_meet
     case rel => exact ⟨_, (true), (by first | rfl | (simp; done) | (simp [*]; done)), H', ⟨by have := HJ4.out; first | omega | exact Nat.le_refl _⟩, ⟨rr (Kd.R_mono HO516.out (fun _ hk => hk.2))⟩, ⟨rr (Kd.R_mono HO523.out (fun _ hk => hk.2))⟩, ⟨bl⟩⟩
    rw [if_pos c25] at H
    have c25b0 : (t521 == 0) = true := beq_iff_eq.mpr c25
    have c25b1 : (t521 != 0) = false := bne_eq_false_iff_eq.mpr c25
    clear c25
    by_cases c26 : (t513.length : Int) = (l1.length : Int)
    rotate_left
    ·
     rw [if_neg c26] at H
     have c26b0 : ((t513.length : Int) == (l1.length : Int)) = false := beq_eq_false_iff_ne.mpr c26
     have c26b1 : ((t513.length : Int) != (l1.length : Int)) = true := bne_iff_ne.mpr c26
     have c26b2 : (t513.length == l1.length) = false := by first | simpa using c26 | (simp at c26 ⊢; omega)
     have H' := Aside0.mk H
     clear H
     obtain ⟨Ao29, co29, eo29⟩ := Kd.R_slice HO516.out
     subst eo29
     go_wp2
     go_meet
     case rel => exact ⟨_, (true), (by first | rfl | (simp; done) | (simp [*]; done)), H', ⟨by have := HJ4.out; first | omega | exact Nat.le_refl _⟩, ⟨rr (Kd.R_mono HO516.out (fun _ hk => hk.2))⟩, ⟨rr (Kd.R_mono HO523.out (fun _ hk => hk.2))⟩, ⟨bl⟩⟩
    rw [if_pos c26] at H
    have c26b0 : ((t513.length : Int) == (l1.length : Int)) = true := beq_iff_eq.mpr c26
    have c26b1 : ((t513.length : Int) != (l1.length : Int)) = false := bne_eq_false_iff_eq.mpr c26
    have c26b2 : (t513.length == l1.length) = true := by first | simpa using c26 | (simp at c26 ⊢; omega)
    clear c26
    have H' := Aside0.mk H
    clear H
    obtain ⟨Ao27, co27, eo27⟩ := Kd.R_slice HO516.out
    subst eo27
    obtain ⟨Ao28, co28, eo28⟩ := Kd.R_slice HO523.out
    subst eo28
    go_wp2
    go_meet
    case rel => exact ⟨_, (((t520.length : Int) != (l1.length : Int))), (by first | rfl | (simp; done) | (simp [*]; done)), H', ⟨by have := HJ4.out; first | omega | exact Nat.le_refl _⟩, ⟨rr (Kd.R_mono HO516.out (fun _ hk => hk.2))⟩, ⟨rr (Kd.R_mono HO523.out (fun _ hk => hk.2))⟩, ⟨bl⟩⟩
   clear HC14
   try clear c1
   try clear c2
   try clear p2
   try clear c4
   try clear c7
   try clear c7b0
   try clear c7b1
   try clear c8
   try clear c8b0
   try clear c9
   try clear c10
   try clear c24
   try clear c24b0
   try clear c24b1
   try clear c25
   try clear c25b0
   try clear c25b1
   try clear c26
   try clear c26b0
   try clear c26b1
   try clear c26b2
   try clear p2
   obtain ⟨kq, x58_13, rfl, HA, HJ13, HO_5, HO_7, HB⟩ := hcut
   cases kq with
   | zero => exact absurd HA.out (by simp [plenumlaw19_TimerPulses.j1])
   | succ kj13 =>
    have H := HA.out
    clear HA
    simp only [plenumlaw19_TimerPulses.j1] at H
    by_cases c30 : x58_13 = true
    ·
     subst c30
     rw [if_pos rfl] at H
     exact absurd H (by simp)
    replace c30 := Bool.eq_false_iff.mpr c30
    subst c30
    rw [if_neg (show ¬ (false = true) by decide)] at H
    have H' := Aside0.mk H
    clear H
    go_wp2
    go_loopg [9] kj13 (fun kq v9 w' => ∃ (x9_3 : Int), v9 = .int .i64 x9_3 ∧ Aside0 (plenumlaw19_TimerPulses.l0 kq a0 l1 t513 t520 x9_3 = some r) ∧ Aside0 (kq ≤ kj13) ∧ Aside0 (Kd.R k32 32 w' w.heap.size (fun k_ => some k_ ≠ (v522 : Value).ownBlock) v515 t513) ∧ Aside0 (Kd.R k32 32 w' w.heap.size (fun k_ => some k_ ≠ (v515 : Value).ownBlock) v522 t520) ∧ Aside0 (Below w.heap.size w w'))
    case atStart => exact ⟨(0), (by first | rfl | (simp; done) | (simp [*]; done)), H', ⟨Nat.le_refl _⟩, ⟨rr HO_5.out⟩, ⟨rr HO_7.out⟩, ⟨bl⟩⟩
    case round =>
     clear H'
     try clear c1
     try clear c2
     try clear p2
     try clear c3
     try clear c4
     try clear c7
     try clear c7b0
     try clear c7b1
     try clear c8
     try clear c8b0
     try clear c9
     try clear c10
     try clear c24
     try clear c24b0
     try clear c24b1
     try clear c25
     try clear c25b0
     try clear c25b1
     try clear c26
     try clear c26b0
     try clear c26b1
     try clear c26b2
     try clear c30
     try clear p2
     obtain ⟨x9_3, rfl, HA, HK3, HO_5, HO_7, HB⟩ := hrel
     cases gk with
     | zero => exact absurd HA.out (by simp [plenumlaw19_TimerPulses.l0])
     | succ k3 =>
      have H := HA.out
      clear HA
      simp only [plenumlaw19_TimerPulses.l0] at H
      by_cases c31 : x9_3 < (l1.length : Int)
      rotate_left
      ·
       rw [if_neg c31] at H
       have c31b0 : decide (x9_3 < (l1.length : Int)) = false := decide_eq_false c31
       clear c31
       obtain rfl := Option.some.inj H
       go_wp2
       go_ret
       exact ⟨by first | rfl | (simp [errW_none, errW_some] <;> rfl) | (simp [*, errW_none, errW_some] <;> rfl), bl⟩
      rw [if_pos c31] at H
      have c31b0 : decide (x9_3 < (l1.length : Int)) = true := decide_eq_true c31
      clear c31
      have HC32 := Aside0.mk H
      clear H
      go_upto_block 2 with (fail)
      go_cut [10] (fun v10 wc => ∃ (kq : Nat) (x10_31 : Bool), v10 = .bool x10_31 ∧ Aside0 (plenumlaw19_TimerPulses.j4 kq a0 l1 t513 t520 x9_3 x10_31 = some r) ∧ Aside0 (kq ≤ k3) ∧ Aside0 (Kd.R k32 32 wc w.heap.size (fun k_ => some k_ ≠ (v522 : Value).ownBlock) v515 t513) ∧ Aside0 (Kd.R k32 32 wc w.heap.size (fun k_ => some k_ ≠ (v515 : Value).ownBlock) v522 t520) ∧ Aside0 (Below w.heap.size w wc))
      case first =>
       have H := HC32.out
       clear HC32
       have H' := Aside0.mk H
       clear H
       go_wp2
       go_loopg [10, 11] k3 (fun kq v10 v11 w' => ∃ (x10_4 : Bool) (x11_4 : Int), v10 = .bool x10_4 ∧ v11 = .int .i64 x11_4 ∧ Aside0 (plenumlaw19_TimerPulses.l1 kq a0 l1 t513 t520 x9_3 x10_4 x11_4 = some r) ∧ Aside0 (kq ≤ k3) ∧ Aside0 (Kd.R k32 32 w' w.heap.size (fun k_ => some k_ ≠ (v522 : Value).ownBlock) v515 t513) ∧ Aside0 (Kd.R k32 32 w' w.heap.size (fun k_ => some k_ ≠ (v515 : Value).ownBlock) v522 t520) ∧ Aside0 (Below w.heap.size w w'))
       case atStart => exact ⟨(false), (x9_3), (by first | rfl | (simp; done) | (simp [*]; done)), (by first | rfl | (simp; done) | (simp [*]; done)), H', ⟨Nat.le_refl _⟩, ⟨rr HO_5.out⟩, ⟨rr HO_7.out⟩, ⟨bl⟩⟩
       case round =>
        clear H'
        try clear c1
        try clear c2
        try clear p2
        try clear c3
        try clear c4
        try clear c7
        try clear c7b0
        try clear c7b1
        try clear c8
        try clear c8b0
        try clear c9
        try clear c10
        try clear c24
        try clear c24b0
        try clear c24b1
        try clear c25
        try clear c25b0
        try clear c25b1
        try clear c26
        try clear c26b0
        try clear c26b1
        try clear c26b2
        try clear c30
        try clear c31
        try clear c31b0
        try clear p2
        obtain ⟨x10_4, x11_4, rfl, rfl, HA, HK4, HO_5, HO_7, HB⟩ := hrel
        cases gk with
        | zero => exact absurd HA.out (by simp [plenumlaw19_TimerPulses.l1])
        | succ k4 =>
         have H := HA.out
         clear HA
         simp only [plenumlaw19_TimerPulses.l1] at H
         by_cases c33 : x11_4 ≥ 0
         rotate_left
         ·
          rw [if_neg c33] at H
          have c33b0 : decide (0 ≤ x11_4) = false := decide_eq_false c33
          clear c33
          (first | rw [c33b0] | (simp only [i64_w, i32_w]; rw [c33b0]) | skip)
          have H' := Aside0.mk H
          clear H
          go_wp2
          go_meet
          case rel => exact ⟨_, (x10_4), (by first | rfl | (simp; done) | (simp [*]; done)), H', ⟨by have := HJ4.out; have := HJ13.out; have := HK3.out; have := HK4.out; first | omega | exact Nat.le_refl _⟩, ⟨rr HO_5.out⟩, ⟨rr HO_7.out⟩, ⟨bl⟩⟩
         rw [if_pos c33] at H
         have c33b0 : decide (0 ≤ x11_4) = true := decide_eq_true c33
         clear c33
         (first | rw [c33b0] | (simp only [i64_w, i32_w]; rw [c33b0]) | skip)
         by_cases c34 : x11_4 > (wrap64 (x9_3 - a0))
         rotate_left
         ·
          rw [if_neg c34] at H
          have c34b0 : decide ((wrap64 (x9_3 - a0)) < x11_4) = false := decide_eq_false c34
          clear c34
          have H' := Aside0.mk H
          clear H
          go_wp2
          go_meet
          case rel => exact ⟨_, (x10_4), (by first | rfl | (simp; done) | (simp [*]; done)), H', ⟨by have := HJ4.out; have := HJ13.out; have := HK3.out; have := HK4.out; first | omega | exact Nat.le_refl _⟩, ⟨rr HO_5.out⟩, ⟨rr HO_7.out⟩, ⟨bl⟩⟩
         rw [if_pos c34] at H
         have c34b0 : decide ((wrap64 (x9_3 - a0)) < x11_4) = true := decide_eq_true c34
         clear c34
         by_cases c35 : x10_4 = true
         ·
          subst c35
          rw [if_pos rfl] at H
          have H' := Aside0.mk H
          clear H
          go_wp2
          go_roundg k4
          case measure => have := HJ4.out; have := HJ13.out; have := HK3.out; have := HK4.out; omega
          case rel => exact ⟨(true), (wrap64 (x11_4 - 1)), (by first | rfl | (simp; done) | (simp [*]; done)), (by first | rfl | (simp; done) | (simp [*]; done)), H', ⟨by have := HJ4.out; have := HJ13.out; have := HK3.out; have := HK4.out; omega⟩, ⟨rr HO_5.out⟩, ⟨rr HO_7.out⟩, ⟨bl⟩⟩
         replace c35 := Bool.eq_false_iff.mpr c35
         subst c35
         rw [if_neg (show ¬ (false = true) by decide)] at H
         by_cases c36 : 0 ≤ x11_4
         rotate_left
         ·
          rw [if_neg c36] at H
          exact absurd H (by simp)
         rw [if_pos c36] at H
         have c36b0 : decide (0 ≤ x11_4) = true := decide_eq_true c36
         clear c36
         by_cases c37 : x11_4 < (t520.length : Int)
         rotate_left
         ·
          rw [if_neg c37] at H
          exact absurd H (by simp)
         rw [if_pos c37] at H
         have c37b0 : decide (x11_4 < (t520.length : Int)) = true := decide_eq_true c37
         clear c37
         have H' := Aside0.mk H
         clear H
         obtain ⟨Ao38, co38, eo38⟩ := Kd.R_slice HO_7.out
         subst eo38
         have p524 : 0 ≤ (x11_4 : Int) := ode
         have q524 : x11_4 < (t520.length : Int) := ode
         obtain ⟨ad524, e524, hx524_0, hx524_1⟩ := at_T32 (Kd.R_reads' HO_7.out).2.2 x11_4 p524 q524
         cases e524
         replace p524 := eq_true p524
         replace q524 := eq_true q524
         go_wp2
         go_roundg k4
         case measure => have := HJ4.out; have := HJ13.out; have := HK3.out; have := HK4.out; omega
         case rel => exact ⟨((((rd_T32 t520 x11_4).f1) == 1)), (wrap64 (x11_4 - 1)), (by first | rfl | (simp; done) | (simp [*]; done)), (by first | rfl | (simp; done) | (simp [*]; done)), H', ⟨by have := HJ4.out; have := HJ13.out; have := HK3.out; have := HK4.out; omega⟩, ⟨rr HO_5.out⟩, ⟨rr HO_7.out⟩, ⟨bl⟩⟩
      clear HC32
      try clear c1
      try clear c2
      try clear p2
      try clear c3
      try clear c4
      try clear p5
      try clear q5
      try clear hx5
      try clear p6
      try clear c7
      try clear c7b0
      try clear c7b1
      try clear c8
      try clear c8b0
      try clear c9
      try clear c10
      try clear c24
      try clear c24b0
      try clear c24b1
      try clear c25
      try clear c25b0
      try clear c25b1
      try clear c26
      try clear c26b0
      try clear c26b1
      try clear c26b2
      try clear c30
      try clear c31
      try clear c31b0
      try clear c33
      try clear c33b0
      try clear c34
      try clear c34b0
      try clear c35
      try clear c36
      try clear c36b0
      try clear c37
      try clear c37b0
      try clear hx524_0
      try clear hx524_1
      try clear p2
      try clear p524
      try clear q524
      obtain ⟨kq, x10_31, rfl, HA, HJ31, HO_5, HO_7, HB⟩ := hcut
      cases kq with
      | zero => exact absurd HA.out (by simp [plenumlaw19_TimerPulses.j4])
      | succ kj31 =>
       have H := HA.out
       clear HA
       simp only [plenumlaw19_TimerPulses.j4] at H
       by_cases c39 : 0 ≤ x9_3
       rotate_left
       ·
        rw [if_neg c39] at H
        exact absurd H (by simp)
       rw [if_pos c39] at H
       have c39b0 : decide (0 ≤ x9_3) = true := decide_eq_true c39
       clear c39
       by_cases c40 : x9_3 < (t513.length : Int)
       rotate_left
       ·
        rw [if_neg c40] at H
        exact absurd H (by simp)
       rw [if_pos c40] at H
       have c40b0 : decide (x9_3 < (t513.length : Int)) = true := decide_eq_true c40
       clear c40
       replace H := Option.bind_eq_some_iff.mp H
       obtain ⟨⟨t526, t527⟩, A410, H⟩ := H
       (try dsimp only at H)
       have A41 := Aside0.mk A410
       clear A410
       by_cases c42 : (!(((rd_T32 t513 x9_3).f0) == t526) || (!(((rd_T32 t513 x9_3).f1) == t527))) = true
       ·
        rw [if_pos c42] at H
        have c42b0 : (!(((rd_T32 t513 x9_3).f0) == t526) || (!(((rd_T32 t513 x9_3).f1) == t527))) = true := c42
        clear c42
        exact absurd H (by simp)
       rw [if_neg c42] at H
       have c42b0 : (!(((rd_T32 t513 x9_3).f0) == t526) || (!(((rd_T32 t513 x9_3).f1) == t527))) = false := by simpa using c42
       clear c42
       by_cases c43 : x9_3 < (t520.length : Int)
       rotate_left
       ·
        rw [if_neg c43] at H
        exact absurd H (by simp)
       rw [if_pos c43] at H
       have c43b0 : decide (x9_3 < (t520.length : Int)) = true := decide_eq_true c43
       clear c43
       by_cases c44 : x9_3 < (l1.length : Int)
       rotate_left
       ·
        rw [if_neg c44] at H
        exact absurd H (by simp)
       rw [if_pos c44] at H
       have c44b0 : decide (x9_3 < (l1.length : Int)) = true := decide_eq_true c44
       clear c44
       obtain ⟨bq45, hbq45⟩ : ∃ b_ : Bool, b_ = (rdOf false l1 x9_3) := ⟨_, rfl⟩
       replace H : (if bq45 = true then (if x9_3 = 0 then ((plenumlaw19_bit.f true).bind fun bt530 => (if (!(((rd_T32 t520 x9_3).f0) == bt530.1) || (!(((rd_T32 t520 x9_3).f1) == bt530.2))) = true then (none) else (plenumlaw19_TimerPulses.l0 kj31 a0 l1 t513 t520 (wrap64 (x9_3 + 1))))) else (if 0 ≤ (wrap64 (x9_3 - 1)) then (if (wrap64 (x9_3 - 1)) < (l1.length : Int) then ((plenumlaw19_bit.f (!(rdOf false l1 (wrap64 (x9_3 - 1))))).bind fun bt533 => (if (!(((rd_T32 t520 x9_3).f0) == bt533.1) || (!(((rd_T32 t520 x9_3).f1) == bt533.2))) = true then (none) else (plenumlaw19_TimerPulses.l0 kj31 a0 l1 t513 t520 (wrap64 (x9_3 + 1))))) else (none)) else (none))) else ((plenumlaw19_bit.f false).bind fun bt535 => (if (!(((rd_T32 t520 x9_3).f0) == bt535.1) || (!(((rd_T32 t520 x9_3).f1) == bt535.2))) = true then (none) else (plenumlaw19_TimerPulses.l0 kj31 a0 l1 t513 t520 (wrap64 (x9_3 + 1)))))) = some r := by rw [← hbq45] at H; exact H
       have Nbq45 := Aside0.mk hbq45
       clear hbq45
       by_cases c46 : bq45 = true
       rotate_left
       ·
        replace c46 := Bool.eq_false_iff.mpr c46
        subst c46
        rw [if_neg (show ¬ (false = true) by decide)] at H
        replace H := Option.bind_eq_some_iff.mp H
        obtain ⟨⟨t535, t536⟩, A650, H⟩ := H
        (try dsimp only at H)
        have A65 := Aside0.mk A650
        clear A650
        by_cases c66 : (!(((rd_T32 t520 x9_3).f0) == t535) || (!(((rd_T32 t520 x9_3).f1) == t536))) = true
        ·
         rw [if_pos c66] at H
         exact absurd H (by simp)
        rw [if_neg c66] at H
        have c66b0 : (!(((rd_T32 t520 x9_3).f0) == t535) || (!(((rd_T32 t520 x9_3).f1) == t536))) = false := by simpa using c66
        clear c66
        have H' := Aside0.mk H
        clear H
        try go_wp2
        have n0_ := Aside0.mk (Kd.R_drew HO_5.out)
        have n1_ := Aside0.mk (Kd.R_drew HO_7.out)
        have n2_ := Aside0.mk (below_drew1 HB.out)
        revert n0_ n1_ n2_; clear HO_5 HO_7 HB; intro HO_5 HO_7 HB
        obtain ⟨Ao68, co68, eo68⟩ := Kd.R_slice HO_5.out
        (first | subst eo68 | (injection eo68 with f1_ f2_ f3_; have f4_ := f1_.symm; have f5_ := f3_.symm; clear f1_ f2_ f3_; subst f4_; subst f5_))
        have p525 : 0 ≤ (x9_3 : Int) := ode
        have q525 : x9_3 < (t513.length : Int) := ode
        obtain ⟨ad525, e525, hx525_0, hx525_1⟩ := at_T32 (Kd.R_reads' HO_5.out).2.2 x9_3 p525 q525
        cases e525
        replace p525 := eq_true p525
        replace q525 := eq_true q525
        have p528 : 0 ≤ (x9_3 : Int) := ode
        have q528 : x9_3 < (t520.length : Int) := ode
        obtain ⟨Az1548, cz1548, ez1548⟩ := Kd.R_slice HO_7.out
        (first | subst ez1548 | (injection ez1548 with f1_ f2_ f3_; have f4_ := f1_.symm; have f5_ := f3_.symm; clear f1_ f2_ f3_; subst f4_; subst f5_))
        obtain ⟨ad528, e528, hx528_0, hx528_1⟩ := at_T32 (Kd.R_reads' HO_7.out).2.2 x9_3 p528 q528
        cases e528
        replace p528 := eq_true p528
        replace q528 := eq_true q528
        have p529 : 0 ≤ (x9_3 : Int) := ode
        have q529 : x9_3 < (l1.length : Int) := ode
        obtain ⟨ad529, e529, hx529_0⟩ := Kd.at_bool HR1.out x9_3 p529 q529
        (try rw [← Nbq45.out] at hx529_0)
        have hw529_0 := hx529_0
        cases e529
        replace hx529_0 := (HB.out.cell (World.block_lt_of_cell? w _ hx529_0)).trans hx529_0
        replace p529 := eq_true p529
        replace q529 := eq_true q529
        refine start_ (n := 31) (S := fun w' => w'.cell? (ad525.add ((x9_3).toNat * 2)) = some (.int .i64 ((rd_T32 t513 x9_3).f0)) ∧ w'.cell? ⟨(ad525.add ((x9_3).toNat * 2)).block, (ad525.add ((x9_3).toNat * 2)).off + 1, none⟩ = some (.int .i64 ((rd_T32 t513 x9_3).f1)) ∧ w'.cell? (ad528.add ((x9_3).toNat * 2)) = some (.int .i64 ((rd_T32 t520 x9_3).f0)) ∧ w'.cell? ⟨(ad528.add ((x9_3).toNat * 2)).block, (ad528.add ((x9_3).toNat * 2)).off + 1, none⟩ = some (.int .i64 ((rd_T32 t520 x9_3).f1)) ∧ w'.cell? (ad529.add (x9_3).toNat) = some (.bool false)) (ds := []) #[F, F, F, F, F, F, F, F, F, F, F, F, F, F, F, F, F, F, F, F, F, F, F, F, F, F, F, F, F, F, F] (by kernel_rfl) rfl rfl ⟨hx525_0, hx525_1, hx528_0, hx528_1, ((HB.out.cell (World.block_lt_of_cell? w _ hw529_0)).trans hw529_0)⟩ (fun hHeld => ?_); refine with_tabW plenumlaw19_TimerPulses.tab17 plenumlaw19_TimerPulses.bits17 (fun HT_ HW_ => ?_)
        generalize wc.drew = w67 at HO_5 HO_7 HB hx525_0 hx525_1 hx528_0 hx528_1 hx529_0 hHeld ⊢
        refine pure_ (i := 0) (N := some 86) (v := ?_) (a' := ?_) #[T, F, F, F, F, F, F, F, F, F, F, F, F, F, F, F, F, F, F, F, F, F, F, F, F, F, F, F, F, F, F] rfl rfl (any_of HT_.out (by kernel_rfl)) (fun _ _ _ h => h) (Or.inl ⟨by rfl, ?_⟩) ?_ ?_
        rotate_left
        ·
         intro w'
         go_simp
         with_reducible rfl
        rotate_left
        ·
         simp only [ap, sa, sb, sc, i64_w, i32_w]
         rfl
        refine pure_ (i := 1) (N := some 87) (v := ?_) (a' := ?_) #[T, T, F, F, F, F, F, F, F, F, F, F, F, F, F, F, F, F, F, F, F, F, F, F, F, F, F, F, F, F, F] rfl rfl (any_of HT_.out (by kernel_rfl)) (fun _ _ _ h => h) (Or.inl ⟨by rfl, ?_⟩) ?_ ?_
        rotate_left
        ·
         intro w'
         go_simp
         with_reducible rfl
        rotate_left
        ·
         simp only [ap, sa, sb, sc, i64_w, i32_w]
         rfl
        refine pure_ (i := 2) (N := some 88) (v := ?_) (a' := ?_) #[T, T, T, F, F, F, F, F, F, F, F, F, F, F, F, F, F, F, F, F, F, F, F, F, F, F, F, F, F, F, F] rfl rfl (any_of HT_.out (by kernel_rfl)) (fun _ _ _ h => h) (Or.inl ⟨by rfl, ?_⟩) ?_ ?_
        rotate_left
        ·
         intro w'
         go_simp
         with_reducible rfl
        rotate_left
        ·
         simp only [ap, sa, sb, sc, i64_w, i32_w]
         rfl
        refine pure_ (i := 4) (N := some 90) (v := ?_) (a' := ?_) #[T, T, T, F, T, F, F, F, F, F, F, F, F, F, F, F, F, F, F, F, F, F, F, F, F, F, F, F, F, F, F] rfl rfl (any_of HT_.out (by kernel_rfl)) (fun _ _ _ h => h) (Or.inl ⟨by rfl, ?_⟩) ?_ ?_
        rotate_left
        ·
         intro w'
         go_simp
         with_reducible rfl
        rotate_left
        ·
         simp only [ap, sa, sb, sc, i64_w, i32_w]
         rfl
        refine take_ (i := 3) (N := some 89) (v := ?_) (a' := ?_) #[T, T, T, T, T, F, F, F, F, F, F, F, F, F, F, F, F, F, F, F, F, F, F, F, F, F, F, F, F, F, F] rfl rfl (take_ofW HT_.out HW_.out (by kernel_rfl)) (fun _ _ _ h => h) (Or.inl ⟨by rfl, ?_⟩) hHeld ?_ ?_
        rotate_left
        ·
         rintro w' ⟨s0, s1, s2, s3, s4⟩
         go_simp
         with_reducible rfl
        rotate_left
        ·
         simp only [ap, sa, sb, sc, i64_w, i32_w]
         rfl
        refine one_ (i := 5) (N := some 91) #[T, T, T, T, T, T, F, F, F, F, F, F, F, F, F, F, F, F, F, F, F, F, F, F, F, F, F, F, F, F, F] rfl rfl (one_of HT_.out (by kernel_rfl)) (by decide) (fun K hK => ?_)
        refine goes_ Tryd.func11 (by kernel_rfl) rfl #[.bool x10_31] (by rfl) rfl rfl aeq ?_
        with_reducible refine (plenumlaw19_bit.calls x10_31 t526 t527 _ A41.out).mono ?_
        rintro e w69 ⟨rfl, hb⟩
        have HS0_ := (hb.cell (World.block_lt_of_cell? _ _ (hHeld.1))).trans (hHeld.1)
        have HS1_ := (hb.cell (World.block_lt_of_cell? _ _ (hHeld.2.1))).trans (hHeld.2.1)
        have HS2_ := (hb.cell (World.block_lt_of_cell? _ _ (hHeld.2.2.1))).trans (hHeld.2.2.1)
        have HS3_ := (hb.cell (World.block_lt_of_cell? _ _ (hHeld.2.2.2.1))).trans (hHeld.2.2.2.1)
        refine ⟨_, rfl, ?_⟩
        have n0_ := Aside0.mk (Kd.R_below (rr HO_5.out) hb)
        have n1_ := Aside0.mk (Kd.R_below (rr HO_7.out) hb)
        have n2_ := Aside0.mk (below_step bl hb)
        revert n0_ n1_ n2_; clear HO_5 HO_7 HB; intro HO_5 HO_7 HB
        (try clear hb)
        (try clear hb2)
        (try clear hk)
        (try clear hi)
        obtain ⟨Ao70, co70, eo70⟩ := Kd.R_slice HO_7.out
        (first | subst eo70 | (injection eo70 with f1_ f2_ f3_; have f4_ := f1_.symm; have f5_ := f3_.symm; clear f1_ f2_ f3_; subst f4_; subst f5_))
        refine hK.out _ _ ⟨HS0_, HS1_, HS2_, HS3_, ((HB.out.cell (World.block_lt_of_cell? w _ hw529_0)).trans hw529_0)⟩ (fun hHeld => ?_)
        clear hK K
        refine norm_ (a' := ?_) ?_ ?_
        rotate_left
        ·
         show Act.put _ (some 91) _ = _
         simp only [ap, sa, sb, sc, i64_w, i32_w]
         rfl
        refine pure_ (i := 6) (N := some 92) (v := ?_) (a' := ?_) #[T, T, T, T, T, T, T, F, F, F, F, F, F, F, F, F, F, F, F, F, F, F, F, F, F, F, F, F, F, F, F] rfl rfl (any_of HT_.out (by kernel_rfl)) (fun _ _ _ h => h) (Or.inl ⟨by rfl, ?_⟩) ?_ ?_
        rotate_left
        ·
         intro w'
         go_simp
         with_reducible rfl
        rotate_left
        ·
         simp only [ap, sa, sb, sc, i64_w, i32_w]
         rfl
        refine pure_ (i := 7) (N := some 93) (v := ?_) (a' := ?_) #[T, T, T, T, T, T, T, T, F, F, F, F, F, F, F, F, F, F, F, F, F, F, F, F, F, F, F, F, F, F, F] rfl rfl (any_of HT_.out (by kernel_rfl)) (fun _ _ _ h => h) (Or.inl ⟨by rfl, ?_⟩) ?_ ?_
        rotate_left
        ·
         intro w'
         go_simp
         with_reducible rfl
        rotate_left
        ·
         simp only [ap, sa, sb, sc, i64_w, i32_w]
         rfl
        refine pure_ (i := 8) (N := some 94) (v := ?_) (a' := ?_) #[T, T, T, T, T, T, T, T, T, F, F, F, F, F, F, F, F, F, F, F, F, F, F, F, F, F, F, F, F, F, F] rfl rfl (any_of HT_.out (by kernel_rfl)) (fun _ _ _ h => h) (Or.inl ⟨by rfl, ?_⟩) ?_ ?_
        rotate_left
        ·
         intro w'
         go_simp
         with_reducible rfl
        rotate_left
        ·
         simp only [ap, sa, sb, sc, i64_w, i32_w]
         rfl
        refine pure_ (i := 9) (N := some 95) (v := ?_) (a' := ?_) #[T, T, T, T, T, T, T, T, T, T, F, F, F, F, F, F, F, F, F, F, F, F, F, F, F, F, F, F, F, F, F] rfl rfl (any_of HT_.out (by kernel_rfl)) (fun _ _ _ h => h) (Or.inl ⟨by rfl, ?_⟩) ?_ ?_
        rotate_left
        ·
         intro w'
         go_simp
         with_reducible rfl
        rotate_left
        ·
         simp only [ap, sa, sb, sc, i64_w, i32_w]
         rfl
        refine pure_ (i := 10) (N := some 96) (v := ?_) (a' := ?_) #[T, T, T, T, T, T, T, T, T, T, T, F, F, F, F, F, F, F, F, F, F, F, F, F, F, F, F, F, F, F, F] rfl rfl (any_of HT_.out (by kernel_rfl)) (fun _ _ _ h => h) (Or.inl ⟨by rfl, ?_⟩) ?_ ?_
        rotate_left
        ·
         intro w'
         go_simp
         with_reducible rfl
        rotate_left
        ·
         simp only [ap, sa, sb, sc, i64_w, i32_w]
         rfl
        refine pure_ (i := 12) (N := some 98) (v := ?_) (a' := ?_) #[T, T, T, T, T, T, T, T, T, T, T, F, T, F, F, F, F, F, F, F, F, F, F, F, F, F, F, F, F, F, F] rfl rfl (any_of HT_.out (by kernel_rfl)) (fun _ _ _ h => h) (Or.inl ⟨by rfl, ?_⟩) ?_ ?_
        rotate_left
        ·
         intro w'
         go_simp
         with_reducible rfl
        rotate_left
        ·
         simp only [ap, sa, sb, sc, i64_w, i32_w]
         rfl
        refine pure_ (i := 13) (N := some 99) (v := ?_) (a' := ?_) #[T, T, T, T, T, T, T, T, T, T, T, F, T, T, F, F, F, F, F, F, F, F, F, F, F, F, F, F, F, F, F] rfl rfl (any_of HT_.out (by kernel_rfl)) (fun _ _ _ h => h) (Or.inl ⟨by rfl, ?_⟩) ?_ ?_
        rotate_left
        ·
         intro w'
         go_simp
         with_reducible rfl
        rotate_left
        ·
         simp only [ap, sa, sb, sc, i64_w, i32_w]
         rfl
        refine pure_ (i := 14) (N := some 100) (v := ?_) (a' := ?_) #[T, T, T, T, T, T, T, T, T, T, T, F, T, T, T, F, F, F, F, F, F, F, F, F, F, F, F, F, F, F, F] rfl rfl (any_of HT_.out (by kernel_rfl)) (fun _ _ _ h => h) (Or.inl ⟨by rfl, ?_⟩) ?_ ?_
        rotate_left
        ·
         intro w'
         go_simp
         with_reducible rfl
        rotate_left
        ·
         simp only [ap, sa, sb, sc, i64_w, i32_w]
         rfl
        refine take_ (i := 11) (N := some 97) (v := ?_) (a' := ?_) #[T, T, T, T, T, T, T, T, T, T, T, T, T, T, T, F, F, F, F, F, F, F, F, F, F, F, F, F, F, F, F] rfl rfl (take_ofW HT_.out HW_.out (by kernel_rfl)) (fun _ _ _ h => h) (Or.inl ⟨by rfl, ?_⟩) hHeld ?_ ?_
        rotate_left
        ·
         rintro w' ⟨s0, s1, s2, s3, s4⟩
         go_simp
         with_reducible rfl
        rotate_left
        ·
         simp only [ap, sa, sb, sc, i64_w, i32_w]
         rfl
        refine take_ (i := 15) (N := some 101) (v := ?_) (a' := ?_) #[T, T, T, T, T, T, T, T, T, T, T, T, T, T, T, T, F, F, F, F, F, F, F, F, F, F, F, F, F, F, F] rfl rfl (take_ofW HT_.out HW_.out (by kernel_rfl)) (fun _ _ _ h => h) (Or.inl ⟨by rfl, ?_⟩) hHeld ?_ ?_
        rotate_left
        ·
         rintro w' ⟨s0, s1, s2, s3, s4⟩
         go_simp
         with_reducible rfl
        rotate_left
        ·
         simp only [ap, sa, sb, sc, i64_w, i32_w]
         rfl
        refine pure_ (i := 16) (N := some 102) (v := ?_) (a' := ?_) #[T, T, T, T, T, T, T, T, T, T, T, T, T, T, T, T, T, F, F, F, F, F, F, F, F, F, F, F, F, F, F] rfl rfl (any_of HT_.out (by kernel_rfl)) (fun _ _ _ h => h) (Or.inl ⟨by rfl, ?_⟩) ?_ ?_
        rotate_left
        ·
         intro w'
         go_simp
         with_reducible rfl
        rotate_left
        ·
         simp only [ap, sa, sb, sc, i64_w, i32_w]
         rfl
        refine pure_ (i := 17) (N := some 103) (v := undef) (a' := ?_) #[T, T, T, T, T, T, T, T, T, T, T, T, T, T, T, T, T, T, F, F, F, F, F, F, F, F, F, F, F, F, F] rfl rfl (any_of HT_.out (by kernel_rfl)) (fun _ _ _ h => h) (Or.inr ⟨by rfl, rfl⟩) ?_ ?_
        rotate_left
        ·
         simp only [ap, sa, sb, sc, i64_w, i32_w]
         rfl
        refine pure_ (i := 18) (N := some 104) (v := undef) (a' := ?_) #[T, T, T, T, T, T, T, T, T, T, T, T, T, T, T, T, T, T, T, F, F, F, F, F, F, F, F, F, F, F, F] rfl rfl (any_of HT_.out (by kernel_rfl)) (fun _ _ _ h => h) (Or.inr ⟨by rfl, rfl⟩) ?_ ?_
        rotate_left
        ·
         simp only [ap, sa, sb, sc, i64_w, i32_w]
         rfl
        refine pure_ (i := 19) (N := some 105) (v := undef) (a' := ?_) #[T, T, T, T, T, T, T, T, T, T, T, T, T, T, T, T, T, T, T, T, F, F, F, F, F, F, F, F, F, F, F] rfl rfl (any_of HT_.out (by kernel_rfl)) (fun _ _ _ h => h) (Or.inr ⟨by rfl, rfl⟩) ?_ ?_
        rotate_left
        ·
         simp only [ap, sa, sb, sc, i64_w, i32_w]
         rfl
        refine pure_ (i := 20) (N := some 106) (v := undef) (a' := ?_) #[T, T, T, T, T, T, T, T, T, T, T, T, T, T, T, T, T, T, T, T, T, F, F, F, F, F, F, F, F, F, F] rfl rfl (any_of HT_.out (by kernel_rfl)) (fun _ _ _ h => h) (Or.inr ⟨by rfl, rfl⟩) ?_ ?_
        rotate_left
        ·
         simp only [ap, sa, sb, sc, i64_w, i32_w]
         rfl
        refine pure_ (i := 21) (N := some 107) (v := undef) (a' := ?_) #[T, T, T, T, T, T, T, T, T, T, T, T, T, T, T, T, T, T, T, T, T, T, F, F, F, F, F, F, F, F, F] rfl rfl (any_of HT_.out (by kernel_rfl)) (fun _ _ _ h => h) (Or.inr ⟨by rfl, rfl⟩) ?_ ?_
        rotate_left
        ·
         simp only [ap, sa, sb, sc, i64_w, i32_w]
         rfl
        refine pure_ (i := 22) (N := some 108) (v := undef) (a' := ?_) #[T, T, T, T, T, T, T, T, T, T, T, T, T, T, T, T, T, T, T, T, T, T, T, F, F, F, F, F, F, F, F] rfl rfl (any_of HT_.out (by kernel_rfl)) (fun _ _ _ h => h) (Or.inr ⟨by rfl, rfl⟩) ?_ ?_
        rotate_left
        ·
         simp only [ap, sa, sb, sc, i64_w, i32_w]
         rfl
        refine pure_ (i := 23) (N := some 109) (v := undef) (a' := ?_) #[T, T, T, T, T, T, T, T, T, T, T, T, T, T, T, T, T, T, T, T, T, T, T, T, F, F, F, F, F, F, F] rfl rfl (any_of HT_.out (by kernel_rfl)) (fun _ _ _ h => h) (Or.inr ⟨by rfl, rfl⟩) ?_ ?_
        rotate_left
        ·
         simp only [ap, sa, sb, sc, i64_w, i32_w]
         rfl
        refine pure_ (i := 24) (N := some 110) (v := undef) (a' := ?_) #[T, T, T, T, T, T, T, T, T, T, T, T, T, T, T, T, T, T, T, T, T, T, T, T, T, F, F, F, F, F, F] rfl rfl (any_of HT_.out (by kernel_rfl)) (fun _ _ _ h => h) (Or.inr ⟨by rfl, rfl⟩) ?_ ?_
        rotate_left
        ·
         simp only [ap, sa, sb, sc, i64_w, i32_w]
         rfl
        refine pure_ (i := 25) (N := some 111) (v := undef) (a' := ?_) #[T, T, T, T, T, T, T, T, T, T, T, T, T, T, T, T, T, T, T, T, T, T, T, T, T, T, F, F, F, F, F] rfl rfl (any_of HT_.out (by kernel_rfl)) (fun _ _ _ h => h) (Or.inr ⟨by rfl, rfl⟩) ?_ ?_
        rotate_left
        ·
         simp only [ap, sa, sb, sc, i64_w, i32_w]
         rfl
        refine pure_ (i := 26) (N := some 112) (v := undef) (a' := ?_) #[T, T, T, T, T, T, T, T, T, T, T, T, T, T, T, T, T, T, T, T, T, T, T, T, T, T, T, F, F, F, F] rfl rfl (any_of HT_.out (by kernel_rfl)) (fun _ _ _ h => h) (Or.inr ⟨by rfl, rfl⟩) ?_ ?_
        rotate_left
        ·
         simp only [ap, sa, sb, sc, i64_w, i32_w]
         rfl
        refine pure_ (i := 27) (N := some 113) (v := ?_) (a' := ?_) #[T, T, T, T, T, T, T, T, T, T, T, T, T, T, T, T, T, T, T, T, T, T, T, T, T, T, T, T, F, F, F] rfl rfl (any_of HT_.out (by kernel_rfl)) (fun _ _ _ h => h) (Or.inl ⟨by rfl, ?_⟩) ?_ ?_
        rotate_left
        ·
         intro w'
         go_simp
         with_reducible rfl
        rotate_left
        ·
         simp only [ap, sa, sb, sc, i64_w, i32_w]
         rfl
        refine one_ (i := 28) (N := some 114) #[T, T, T, T, T, T, T, T, T, T, T, T, T, T, T, T, T, T, T, T, T, T, T, T, T, T, T, T, T, F, F] rfl rfl (one_of HT_.out (by kernel_rfl)) (by decide) (fun K hK => ?_)
        refine goes_ Tryd.func11 (by kernel_rfl) rfl #[.bool false] (by rfl) rfl rfl aeq ?_
        with_reducible refine (plenumlaw19_bit.calls false t535 t536 _ A65.out).mono ?_
        rintro e w71 ⟨rfl, hb⟩
        have HS0_ := (hb.cell (World.block_lt_of_cell? _ _ (hHeld.1))).trans (hHeld.1)
        have HS1_ := (hb.cell (World.block_lt_of_cell? _ _ (hHeld.2.1))).trans (hHeld.2.1)
        have HS2_ := (hb.cell (World.block_lt_of_cell? _ _ (hHeld.2.2.1))).trans (hHeld.2.2.1)
        have HS3_ := (hb.cell (World.block_lt_of_cell? _ _ (hHeld.2.2.2.1))).trans (hHeld.2.2.2.1)
        refine ⟨_, rfl, ?_⟩
        have n0_ := Aside0.mk (Kd.R_below (rr HO_5.out) hb)
        have n1_ := Aside0.mk (Kd.R_below (rr HO_7.out) hb)
        have n2_ := Aside0.mk (below_step bl hb)
        revert n0_ n1_ n2_; clear HO_5 HO_7 HB; intro HO_5 HO_7 HB
        (try clear hb)
        (try clear hb2)
        (try clear hk)
        (try clear hi)
        refine hK.out _ _ ⟨HS0_, HS1_, HS2_, HS3_, ((HB.out.cell (World.block_lt_of_cell? w _ hw529_0)).trans hw529_0)⟩ (fun hHeld => ?_)
        clear hK K
        refine norm_ (a' := ?_) ?_ ?_
        rotate_left
        ·
         show Act.put _ (some 114) _ = _
         simp only [ap, sa, sb, sc, i64_w, i32_w]
         rfl
        refine pure_ (i := 29) (N := some 115) (v := ?_) (a' := ?_) #[T, T, T, T, T, T, T, T, T, T, T, T, T, T, T, T, T, T, T, T, T, T, T, T, T, T, T, T, T, T, F] rfl rfl (any_of HT_.out (by kernel_rfl)) (fun _ _ _ h => h) (Or.inl ⟨by rfl, ?_⟩) ?_ ?_
        rotate_left
        ·
         intro w'
         go_simp
         with_reducible rfl
        rotate_left
        ·
         simp only [ap, sa, sb, sc, i64_w, i32_w]
         rfl
        refine pure_ (i := 30) (N := some 116) (v := ?_) (a' := ?_) #[T, T, T, T, T, T, T, T, T, T, T, T, T, T, T, T, T, T, T, T, T, T, T, T, T, T, T, T, T, T, T] rfl rfl (any_of HT_.out (by kernel_rfl)) (fun _ _ _ h => h) (Or.inl ⟨by rfl, ?_⟩) ?_ ?_
        rotate_left
        ·
         intro w'
         go_simp
         with_reducible rfl
        rotate_left
        ·
         simp only [ap, sa, sb, sc, i64_w, i32_w]
         rfl
        refine done_ (done_of HT_.out (by kernel_rfl)) ?_
        try go_wp2
        go_roundg kj31
        case measure => have := HJ4.out; have := HJ13.out; have := HK3.out; have := HJ31.out; omega
        case rel => exact ⟨(wrap64 (x9_3 + 1)), (by first | rfl | (simp; done) | (simp [*]; done)), H', ⟨by have := HJ4.out; have := HJ13.out; have := HK3.out; have := HJ31.out; omega⟩, ⟨rr HO_5.out⟩, ⟨rr HO_7.out⟩, ⟨bl⟩⟩
       subst c46
       rw [if_pos rfl] at H
       by_cases c47 : x9_3 = 0
       ·
        rw [if_pos c47] at H
        have c47b0 : (x9_3 == 0) = true := beq_iff_eq.mpr c47
        have c47b1 : (x9_3 != 0) = false := bne_eq_false_iff_eq.mpr c47
        clear c47
        replace H := Option.bind_eq_some_iff.mp H
        obtain ⟨⟨t530, t531⟩, A480, H⟩ := H
        (try dsimp only at H)
        have A48 := Aside0.mk A480
        clear A480
        by_cases c49 : (!(((rd_T32 t520 x9_3).f0) == t530) || (!(((rd_T32 t520 x9_3).f1) == t531))) = true
        ·
         rw [if_pos c49] at H
         exact absurd H (by simp)
        rw [if_neg c49] at H
        have c49b0 : (!(((rd_T32 t520 x9_3).f0) == t530) || (!(((rd_T32 t520 x9_3).f1) == t531))) = false := by simpa using c49
        clear c49
        have H' := Aside0.mk H
        clear H
        try go_wp2
        have n0_ := Aside0.mk (Kd.R_drew HO_5.out)
        have n1_ := Aside0.mk (Kd.R_drew HO_7.out)
        have n2_ := Aside0.mk (below_drew1 HB.out)
        revert n0_ n1_ n2_; clear HO_5 HO_7 HB; intro HO_5 HO_7 HB
        obtain ⟨Ao51, co51, eo51⟩ := Kd.R_slice HO_5.out
        (first | subst eo51 | (injection eo51 with f1_ f2_ f3_; have f4_ := f1_.symm; have f5_ := f3_.symm; clear f1_ f2_ f3_; subst f4_; subst f5_))
        have p525 : 0 ≤ (x9_3 : Int) := ode
        have q525 : x9_3 < (t513.length : Int) := ode
        obtain ⟨ad525, e525, hx525_0, hx525_1⟩ := at_T32 (Kd.R_reads' HO_5.out).2.2 x9_3 p525 q525
        cases e525
        replace p525 := eq_true p525
        replace q525 := eq_true q525
        have p528 : 0 ≤ (x9_3 : Int) := ode
        have q528 : x9_3 < (t520.length : Int) := ode
        obtain ⟨Az721, cz721, ez721⟩ := Kd.R_slice HO_7.out
        (first | subst ez721 | (injection ez721 with f1_ f2_ f3_; have f4_ := f1_.symm; have f5_ := f3_.symm; clear f1_ f2_ f3_; subst f4_; subst f5_))
        obtain ⟨ad528, e528, hx528_0, hx528_1⟩ := at_T32 (Kd.R_reads' HO_7.out).2.2 x9_3 p528 q528
        cases e528
        replace p528 := eq_true p528
        replace q528 := eq_true q528
        have p529 : 0 ≤ (x9_3 : Int) := ode
        have q529 : x9_3 < (l1.length : Int) := ode
        obtain ⟨ad529, e529, hx529_0⟩ := Kd.at_bool HR1.out x9_3 p529 q529
        (try rw [← Nbq45.out] at hx529_0)
        have hw529_0 := hx529_0
        cases e529
        replace hx529_0 := (HB.out.cell (World.block_lt_of_cell? w _ hx529_0)).trans hx529_0
        replace p529 := eq_true p529
        replace q529 := eq_true q529
        refine start_ (n := 31) (S := fun w' => w'.cell? (ad525.add ((x9_3).toNat * 2)) = some (.int .i64 ((rd_T32 t513 x9_3).f0)) ∧ w'.cell? ⟨(ad525.add ((x9_3).toNat * 2)).block, (ad525.add ((x9_3).toNat * 2)).off + 1, none⟩ = some (.int .i64 ((rd_T32 t513 x9_3).f1)) ∧ w'.cell? (ad528.add ((x9_3).toNat * 2)) = some (.int .i64 ((rd_T32 t520 x9_3).f0)) ∧ w'.cell? ⟨(ad528.add ((x9_3).toNat * 2)).block, (ad528.add ((x9_3).toNat * 2)).off + 1, none⟩ = some (.int .i64 ((rd_T32 t520 x9_3).f1)) ∧ w'.cell? (ad529.add (x9_3).toNat) = some (.bool true)) (ds := []) #[F, F, F, F, F, F, F, F, F, F, F, F, F, F, F, F, F, F, F, F, F, F, F, F, F, F, F, F, F, F, F] (by kernel_rfl) rfl rfl ⟨hx525_0, hx525_1, hx528_0, hx528_1, ((HB.out.cell (World.block_lt_of_cell? w _ hw529_0)).trans hw529_0)⟩ (fun hHeld => ?_); refine with_tabW plenumlaw19_TimerPulses.tab17 plenumlaw19_TimerPulses.bits17 (fun HT_ HW_ => ?_)
        generalize wc.drew = w50 at HO_5 HO_7 HB hx525_0 hx525_1 hx528_0 hx528_1 hx529_0 hHeld ⊢
        refine pure_ (i := 0) (N := some 86) (v := ?_) (a' := ?_) #[T, F, F, F, F, F, F, F, F, F, F, F, F, F, F, F, F, F, F, F, F, F, F, F, F, F, F, F, F, F, F] rfl rfl (any_of HT_.out (by kernel_rfl)) (fun _ _ _ h => h) (Or.inl ⟨by rfl, ?_⟩) ?_ ?_
        rotate_left
        ·
         intro w'
         go_simp
         with_reducible rfl
        rotate_left
        ·
         simp only [ap, sa, sb, sc, i64_w, i32_w]
         rfl
        refine pure_ (i := 1) (N := some 87) (v := ?_) (a' := ?_) #[T, T, F, F, F, F, F, F, F, F, F, F, F, F, F, F, F, F, F, F, F, F, F, F, F, F, F, F, F, F, F] rfl rfl (any_of HT_.out (by kernel_rfl)) (fun _ _ _ h => h) (Or.inl ⟨by rfl, ?_⟩) ?_ ?_
        rotate_left
        ·
         intro w'
         go_simp
         with_reducible rfl
        rotate_left
        ·
         simp only [ap, sa, sb, sc, i64_w, i32_w]
         rfl
        refine pure_ (i := 2) (N := some 88) (v := ?_) (a' := ?_) #[T, T, T, F, F, F, F, F, F, F, F, F, F, F, F, F, F, F, F, F, F, F, F, F, F, F, F, F, F, F, F] rfl rfl (any_of HT_.out (by kernel_rfl)) (fun _ _ _ h => h) (Or.inl ⟨by rfl, ?_⟩) ?_ ?_
        rotate_left
        ·
         intro w'
         go_simp
         with_reducible rfl
        rotate_left
        ·
         simp only [ap, sa, sb, sc, i64_w, i32_w]
         rfl
        refine pure_ (i := 4) (N := some 90) (v := ?_) (a' := ?_) #[T, T, T, F, T, F, F, F, F, F, F, F, F, F, F, F, F, F, F, F, F, F, F, F, F, F, F, F, F, F, F] rfl rfl (any_of HT_.out (by kernel_rfl)) (fun _ _ _ h => h) (Or.inl ⟨by rfl, ?_⟩) ?_ ?_
        rotate_left
        ·
         intro w'
         go_simp
         with_reducible rfl
        rotate_left
        ·
         simp only [ap, sa, sb, sc, i64_w, i32_w]
         rfl
        refine take_ (i := 3) (N := some 89) (v := ?_) (a' := ?_) #[T, T, T, T, T, F, F, F, F, F, F, F, F, F, F, F, F, F, F, F, F, F, F, F, F, F, F, F, F, F, F] rfl rfl (take_ofW HT_.out HW_.out (by kernel_rfl)) (fun _ _ _ h => h) (Or.inl ⟨by rfl, ?_⟩) hHeld ?_ ?_
        rotate_left
        ·
         rintro w' ⟨s0, s1, s2, s3, s4⟩
         go_simp
         with_reducible rfl
        rotate_left
        ·
         simp only [ap, sa, sb, sc, i64_w, i32_w]
         rfl
        refine one_ (i := 5) (N := some 91) #[T, T, T, T, T, T, F, F, F, F, F, F, F, F, F, F, F, F, F, F, F, F, F, F, F, F, F, F, F, F, F] rfl rfl (one_of HT_.out (by kernel_rfl)) (by decide) (fun K hK => ?_)
        refine goes_ Tryd.func11 (by kernel_rfl) rfl #[.bool x10_31] (by rfl) rfl rfl aeq ?_
        with_reducible refine (plenumlaw19_bit.calls x10_31 t526 t527 _ A41.out).mono ?_
        rintro e w52 ⟨rfl, hb⟩
        have HS0_ := (hb.cell (World.block_lt_of_cell? _ _ (hHeld.1))).trans (hHeld.1)
        have HS1_ := (hb.cell (World.block_lt_of_cell? _ _ (hHeld.2.1))).trans (hHeld.2.1)
        have HS2_ := (hb.cell (World.block_lt_of_cell? _ _ (hHeld.2.2.1))).trans (hHeld.2.2.1)
        have HS3_ := (hb.cell (World.block_lt_of_cell? _ _ (hHeld.2.2.2.1))).trans (hHeld.2.2.2.1)
        refine ⟨_, rfl, ?_⟩
        have n0_ := Aside0.mk (Kd.R_below (rr HO_5.out) hb)
        have n1_ := Aside0.mk (Kd.R_below (rr HO_7.out) hb)
        have n2_ := Aside0.mk (below_step bl hb)
        revert n0_ n1_ n2_; clear HO_5 HO_7 HB; intro HO_5 HO_7 HB
        (try clear hb)
        (try clear hb2)
        (try clear hk)
        (try clear hi)
        obtain ⟨Ao53, co53, eo53⟩ := Kd.R_slice HO_7.out
        (first | subst eo53 | (injection eo53 with f1_ f2_ f3_; have f4_ := f1_.symm; have f5_ := f3_.symm; clear f1_ f2_ f3_; subst f4_; subst f5_))
        refine hK.out _ _ ⟨HS0_, HS1_, HS2_, HS3_, ((HB.out.cell (World.block_lt_of_cell? w _ hw529_0)).trans hw529_0)⟩ (fun hHeld => ?_)
        clear hK K
        refine norm_ (a' := ?_) ?_ ?_
        rotate_left
        ·
         show Act.put _ (some 91) _ = _
         simp only [ap, sa, sb, sc, i64_w, i32_w]
         rfl
        refine pure_ (i := 6) (N := some 92) (v := ?_) (a' := ?_) #[T, T, T, T, T, T, T, F, F, F, F, F, F, F, F, F, F, F, F, F, F, F, F, F, F, F, F, F, F, F, F] rfl rfl (any_of HT_.out (by kernel_rfl)) (fun _ _ _ h => h) (Or.inl ⟨by rfl, ?_⟩) ?_ ?_
        rotate_left
        ·
         intro w'
         go_simp
         with_reducible rfl
        rotate_left
        ·
         simp only [ap, sa, sb, sc, i64_w, i32_w]
         rfl
        refine pure_ (i := 7) (N := some 93) (v := ?_) (a' := ?_) #[T, T, T, T, T, T, T, T, F, F, F, F, F, F, F, F, F, F, F, F, F, F, F, F, F, F, F, F, F, F, F] rfl rfl (any_of HT_.out (by kernel_rfl)) (fun _ _ _ h => h) (Or.inl ⟨by rfl, ?_⟩) ?_ ?_
        rotate_left
        ·
         intro w'
         go_simp
         with_reducible rfl
        rotate_left
        ·
         simp only [ap, sa, sb, sc, i64_w, i32_w]
         rfl
        refine pure_ (i := 8) (N := some 94) (v := ?_) (a' := ?_) #[T, T, T, T, T, T, T, T, T, F, F, F, F, F, F, F, F, F, F, F, F, F, F, F, F, F, F, F, F, F, F] rfl rfl (any_of HT_.out (by kernel_rfl)) (fun _ _ _ h => h) (Or.inl ⟨by rfl, ?_⟩) ?_ ?_
        rotate_left
        ·
         intro w'
         go_simp
         with_reducible rfl
        rotate_left
        ·
         simp only [ap, sa, sb, sc, i64_w, i32_w]
         rfl
        refine pure_ (i := 9) (N := some 95) (v := ?_) (a' := ?_) #[T, T, T, T, T, T, T, T, T, T, F, F, F, F, F, F, F, F, F, F, F, F, F, F, F, F, F, F, F, F, F] rfl rfl (any_of HT_.out (by kernel_rfl)) (fun _ _ _ h => h) (Or.inl ⟨by rfl, ?_⟩) ?_ ?_
        rotate_left
        ·
         intro w'
         go_simp
         with_reducible rfl
        rotate_left
        ·
         simp only [ap, sa, sb, sc, i64_w, i32_w]
         rfl
        refine pure_ (i := 10) (N := some 96) (v := ?_) (a' := ?_) #[T, T, T, T, T, T, T, T, T, T, T, F, F, F, F, F, F, F, F, F, F, F, F, F, F, F, F, F, F, F, F] rfl rfl (any_of HT_.out (by kernel_rfl)) (fun _ _ _ h => h) (Or.inl ⟨by rfl, ?_⟩) ?_ ?_
        rotate_left
        ·
         intro w'
         go_simp
         with_reducible rfl
        rotate_left
        ·
         simp only [ap, sa, sb, sc, i64_w, i32_w]
         rfl
        refine pure_ (i := 12) (N := some 98) (v := ?_) (a' := ?_) #[T, T, T, T, T, T, T, T, T, T, T, F, T, F, F, F, F, F, F, F, F, F, F, F, F, F, F, F, F, F, F] rfl rfl (any_of HT_.out (by kernel_rfl)) (fun _ _ _ h => h) (Or.inl ⟨by rfl, ?_⟩) ?_ ?_
        rotate_left
        ·
         intro w'
         go_simp
         with_reducible rfl
        rotate_left
        ·
         simp only [ap, sa, sb, sc, i64_w, i32_w]
         rfl
        refine pure_ (i := 13) (N := some 99) (v := ?_) (a' := ?_) #[T, T, T, T, T, T, T, T, T, T, T, F, T, T, F, F, F, F, F, F, F, F, F, F, F, F, F, F, F, F, F] rfl rfl (any_of HT_.out (by kernel_rfl)) (fun _ _ _ h => h) (Or.inl ⟨by rfl, ?_⟩) ?_ ?_
        rotate_left
        ·
         intro w'
         go_simp
         with_reducible rfl
        rotate_left
        ·
         simp only [ap, sa, sb, sc, i64_w, i32_w]
         rfl
        refine pure_ (i := 14) (N := some 100) (v := ?_) (a' := ?_) #[T, T, T, T, T, T, T, T, T, T, T, F, T, T, T, F, F, F, F, F, F, F, F, F, F, F, F, F, F, F, F] rfl rfl (any_of HT_.out (by kernel_rfl)) (fun _ _ _ h => h) (Or.inl ⟨by rfl, ?_⟩) ?_ ?_
        rotate_left
        ·
         intro w'
         go_simp
         with_reducible rfl
        rotate_left
        ·
         simp only [ap, sa, sb, sc, i64_w, i32_w]
         rfl
        refine take_ (i := 11) (N := some 97) (v := ?_) (a' := ?_) #[T, T, T, T, T, T, T, T, T, T, T, T, T, T, T, F, F, F, F, F, F, F, F, F, F, F, F, F, F, F, F] rfl rfl (take_ofW HT_.out HW_.out (by kernel_rfl)) (fun _ _ _ h => h) (Or.inl ⟨by rfl, ?_⟩) hHeld ?_ ?_
        rotate_left
        ·
         rintro w' ⟨s0, s1, s2, s3, s4⟩
         go_simp
         with_reducible rfl
        rotate_left
        ·
         simp only [ap, sa, sb, sc, i64_w, i32_w]
         rfl
        refine take_ (i := 15) (N := some 101) (v := ?_) (a' := ?_) #[T, T, T, T, T, T, T, T, T, T, T, T, T, T, T, T, F, F, F, F, F, F, F, F, F, F, F, F, F, F, F] rfl rfl (take_ofW HT_.out HW_.out (by kernel_rfl)) (fun _ _ _ h => h) (Or.inl ⟨by rfl, ?_⟩) hHeld ?_ ?_
        rotate_left
        ·
         rintro w' ⟨s0, s1, s2, s3, s4⟩
         go_simp
         with_reducible rfl
        rotate_left
        ·
         simp only [ap, sa, sb, sc, i64_w, i32_w]
         rfl
        refine pure_ (i := 16) (N := some 102) (v := ?_) (a' := ?_) #[T, T, T, T, T, T, T, T, T, T, T, T, T, T, T, T, T, F, F, F, F, F, F, F, F, F, F, F, F, F, F] rfl rfl (any_of HT_.out (by kernel_rfl)) (fun _ _ _ h => h) (Or.inl ⟨by rfl, ?_⟩) ?_ ?_
        rotate_left
        ·
         intro w'
         go_simp
         with_reducible rfl
        rotate_left
        ·
         simp only [ap, sa, sb, sc, i64_w, i32_w]
         rfl
        refine pure_ (i := 17) (N := some 103) (v := ?_) (a' := ?_) #[T, T, T, T, T, T, T, T, T, T, T, T, T, T, T, T, T, T, F, F, F, F, F, F, F, F, F, F, F, F, F] rfl rfl (any_of HT_.out (by kernel_rfl)) (fun _ _ _ h => h) (Or.inl ⟨by rfl, ?_⟩) ?_ ?_
        rotate_left
        ·
         intro w'
         go_simp
         with_reducible rfl
        rotate_left
        ·
         simp only [ap, sa, sb, sc, i64_w, i32_w]
         rfl
        refine pure_ (i := 18) (N := some 104) (v := ?_) (a' := ?_) #[T, T, T, T, T, T, T, T, T, T, T, T, T, T, T, T, T, T, T, F, F, F, F, F, F, F, F, F, F, F, F] rfl rfl (any_of HT_.out (by kernel_rfl)) (fun _ _ _ h => h) (Or.inl ⟨by rfl, ?_⟩) ?_ ?_
        rotate_left
        ·
         intro w'
         go_simp
         with_reducible rfl
        rotate_left
        ·
         simp only [ap, sa, sb, sc, i64_w, i32_w]
         rfl
        refine pure_ (i := 19) (N := some 105) (v := ?_) (a' := ?_) #[T, T, T, T, T, T, T, T, T, T, T, T, T, T, T, T, T, T, T, T, F, F, F, F, F, F, F, F, F, F, F] rfl rfl (any_of HT_.out (by kernel_rfl)) (fun _ _ _ h => h) (Or.inl ⟨by rfl, ?_⟩) ?_ ?_
        rotate_left
        ·
         intro w'
         go_simp
         with_reducible rfl
        rotate_left
        ·
         simp only [ap, sa, sb, sc, i64_w, i32_w]
         rfl
        refine pure_ (i := 20) (N := some 106) (v := undef) (a' := ?_) #[T, T, T, T, T, T, T, T, T, T, T, T, T, T, T, T, T, T, T, T, T, F, F, F, F, F, F, F, F, F, F] rfl rfl (any_of HT_.out (by kernel_rfl)) (fun _ _ _ h => h) (Or.inr ⟨by rfl, rfl⟩) ?_ ?_
        rotate_left
        ·
         simp only [ap, sa, sb, sc, i64_w, i32_w]
         rfl
        refine pure_ (i := 21) (N := some 107) (v := undef) (a' := ?_) #[T, T, T, T, T, T, T, T, T, T, T, T, T, T, T, T, T, T, T, T, T, T, F, F, F, F, F, F, F, F, F] rfl rfl (any_of HT_.out (by kernel_rfl)) (fun _ _ _ h => h) (Or.inr ⟨by rfl, rfl⟩) ?_ ?_
        rotate_left
        ·
         simp only [ap, sa, sb, sc, i64_w, i32_w]
         rfl
        refine pure_ (i := 22) (N := some 108) (v := undef) (a' := ?_) #[T, T, T, T, T, T, T, T, T, T, T, T, T, T, T, T, T, T, T, T, T, T, T, F, F, F, F, F, F, F, F] rfl rfl (any_of HT_.out (by kernel_rfl)) (fun _ _ _ h => h) (Or.inr ⟨by rfl, rfl⟩) ?_ ?_
        rotate_left
        ·
         simp only [ap, sa, sb, sc, i64_w, i32_w]
         rfl
        refine pure_ (i := 23) (N := some 109) (v := undef) (a' := ?_) #[T, T, T, T, T, T, T, T, T, T, T, T, T, T, T, T, T, T, T, T, T, T, T, T, F, F, F, F, F, F, F] rfl rfl (any_of HT_.out (by kernel_rfl)) (fun _ _ _ h => h) (Or.inr ⟨by rfl, rfl⟩) ?_ ?_
        rotate_left
        ·
         simp only [ap, sa, sb, sc, i64_w, i32_w]
         rfl
        refine pure_ (i := 24) (N := some 110) (v := undef) (a' := ?_) #[T, T, T, T, T, T, T, T, T, T, T, T, T, T, T, T, T, T, T, T, T, T, T, T, T, F, F, F, F, F, F] rfl rfl (any_of HT_.out (by kernel_rfl)) (fun _ _ _ h => h) (Or.inr ⟨by rfl, rfl⟩) ?_ ?_
        rotate_left
        ·
         simp only [ap, sa, sb, sc, i64_w, i32_w]
         rfl
        refine pure_ (i := 25) (N := some 111) (v := undef) (a' := ?_) #[T, T, T, T, T, T, T, T, T, T, T, T, T, T, T, T, T, T, T, T, T, T, T, T, T, T, F, F, F, F, F] rfl rfl (any_of HT_.out (by kernel_rfl)) (fun _ _ _ h => h) (Or.inr ⟨by rfl, rfl⟩) ?_ ?_
        rotate_left
        ·
         simp only [ap, sa, sb, sc, i64_w, i32_w]
         rfl
        refine pure_ (i := 26) (N := some 112) (v := ?_) (a' := ?_) #[T, T, T, T, T, T, T, T, T, T, T, T, T, T, T, T, T, T, T, T, T, T, T, T, T, T, T, F, F, F, F] rfl rfl (any_of HT_.out (by kernel_rfl)) (fun _ _ _ h => h) (Or.inl ⟨by rfl, ?_⟩) ?_ ?_
        rotate_left
        ·
         intro w'
         go_simp
         with_reducible rfl
        rotate_left
        ·
         simp only [ap, sa, sb, sc, i64_w, i32_w]
         rfl
        refine pure_ (i := 27) (N := some 113) (v := ?_) (a' := ?_) #[T, T, T, T, T, T, T, T, T, T, T, T, T, T, T, T, T, T, T, T, T, T, T, T, T, T, T, T, F, F, F] rfl rfl (any_of HT_.out (by kernel_rfl)) (fun _ _ _ h => h) (Or.inl ⟨by rfl, ?_⟩) ?_ ?_
        rotate_left
        ·
         intro w'
         go_simp
         with_reducible rfl
        rotate_left
        ·
         simp only [ap, sa, sb, sc, i64_w, i32_w]
         rfl
        refine one_ (i := 28) (N := some 114) #[T, T, T, T, T, T, T, T, T, T, T, T, T, T, T, T, T, T, T, T, T, T, T, T, T, T, T, T, T, F, F] rfl rfl (one_of HT_.out (by kernel_rfl)) (by decide) (fun K hK => ?_)
        refine goes_ Tryd.func11 (by kernel_rfl) rfl #[.bool true] (by rfl) rfl rfl aeq ?_
        with_reducible refine (plenumlaw19_bit.calls true t530 t531 _ A48.out).mono ?_
        rintro e w54 ⟨rfl, hb⟩
        have HS0_ := (hb.cell (World.block_lt_of_cell? _ _ (hHeld.1))).trans (hHeld.1)
        have HS1_ := (hb.cell (World.block_lt_of_cell? _ _ (hHeld.2.1))).trans (hHeld.2.1)
        have HS2_ := (hb.cell (World.block_lt_of_cell? _ _ (hHeld.2.2.1))).trans (hHeld.2.2.1)
        have HS3_ := (hb.cell (World.block_lt_of_cell? _ _ (hHeld.2.2.2.1))).trans (hHeld.2.2.2.1)
        refine ⟨_, rfl, ?_⟩
        have n0_ := Aside0.mk (Kd.R_below (rr HO_5.out) hb)
        have n1_ := Aside0.mk (Kd.R_below (rr HO_7.out) hb)
        have n2_ := Aside0.mk (below_step bl hb)
        revert n0_ n1_ n2_; clear HO_5 HO_7 HB; intro HO_5 HO_7 HB
        (try clear hb)
        (try clear hb2)
        (try clear hk)
        (try clear hi)
        refine hK.out _ _ ⟨HS0_, HS1_, HS2_, HS3_, ((HB.out.cell (World.block_lt_of_cell? w _ hw529_0)).trans hw529_0)⟩ (fun hHeld => ?_)
        clear hK K
        refine norm_ (a' := ?_) ?_ ?_
        rotate_left
        ·
         show Act.put _ (some 114) _ = _
         simp only [ap, sa, sb, sc, i64_w, i32_w]
         rfl
        refine pure_ (i := 29) (N := some 115) (v := ?_) (a' := ?_) #[T, T, T, T, T, T, T, T, T, T, T, T, T, T, T, T, T, T, T, T, T, T, T, T, T, T, T, T, T, T, F] rfl rfl (any_of HT_.out (by kernel_rfl)) (fun _ _ _ h => h) (Or.inl ⟨by rfl, ?_⟩) ?_ ?_
        rotate_left
        ·
         intro w'
         go_simp
         with_reducible rfl
        rotate_left
        ·
         simp only [ap, sa, sb, sc, i64_w, i32_w]
         rfl
        refine pure_ (i := 30) (N := some 116) (v := ?_) (a' := ?_) #[T, T, T, T, T, T, T, T, T, T, T, T, T, T, T, T, T, T, T, T, T, T, T, T, T, T, T, T, T, T, T] rfl rfl (any_of HT_.out (by kernel_rfl)) (fun _ _ _ h => h) (Or.inl ⟨by rfl, ?_⟩) ?_ ?_
        rotate_left
        ·
         intro w'
         go_simp
         with_reducible rfl
        rotate_left
        ·
         simp only [ap, sa, sb, sc, i64_w, i32_w]
         rfl
        refine done_ (done_of HT_.out (by kernel_rfl)) ?_
        try go_wp2
        go_roundg kj31
        case measure => have := HJ4.out; have := HJ13.out; have := HK3.out; have := HJ31.out; omega
        case rel => exact ⟨(wrap64 (x9_3 + 1)), (by first | rfl | (simp; done) | (simp [*]; done)), H', ⟨by have := HJ4.out; have := HJ13.out; have := HK3.out; have := HJ31.out; omega⟩, ⟨rr HO_5.out⟩, ⟨rr HO_7.out⟩, ⟨bl⟩⟩
       rw [if_neg c47] at H
       have c47b0 : (x9_3 == 0) = false := beq_eq_false_iff_ne.mpr c47
       have c47b1 : (x9_3 != 0) = true := bne_iff_ne.mpr c47
       obtain ⟨ji55, hji55⟩ : ∃ j_ : Int, (wrap64 (x9_3 - 1)) = j_ := ⟨_, rfl⟩
       replace H : (if 0 ≤ (ji55) then (if (ji55) < (l1.length : Int) then ((plenumlaw19_bit.f (!(rdOf false l1 (ji55)))).bind fun bt533 => (if (!(((rd_T32 t520 x9_3).f0) == bt533.1) || (!(((rd_T32 t520 x9_3).f1) == bt533.2))) = true then (none) else (plenumlaw19_TimerPulses.l0 kj31 a0 l1 t513 t520 (wrap64 (x9_3 + 1))))) else (none)) else (none)) = some r := by first | (rw [hji55] at H; exact H) | (simp only [hji55] at H ⊢; exact H)
       (try rw [hji55] at A41)
       have hji55w : (IntKind.i64.wrap (x9_3 - 1)) = ji55 := (i64_w _).trans hji55
       by_cases c56 : 0 ≤ (ji55)
       rotate_left
       ·
        rw [if_neg c56] at H
        exact absurd H (by simp)
       rw [if_pos c56] at H
       have c56b0 : decide (0 ≤ (ji55)) = true := decide_eq_true c56
       clear c56
       by_cases c57 : (ji55) < (l1.length : Int)
       rotate_left
       ·
        rw [if_neg c57] at H
        exact absurd H (by simp)
       rw [if_pos c57] at H
       have c57b0 : decide ((ji55) < (l1.length : Int)) = true := decide_eq_true c57
       clear c57
       replace H := Option.bind_eq_some_iff.mp H
       obtain ⟨⟨t533, t534⟩, A580, H⟩ := H
       (try dsimp only at H)
       have A58 := Aside0.mk A580
       clear A580
       by_cases c59 : (!(((rd_T32 t520 x9_3).f0) == t533) || (!(((rd_T32 t520 x9_3).f1) == t534))) = true
       ·
        rw [if_pos c59] at H
        exact absurd H (by simp)
       rw [if_neg c59] at H
       have c59b0 : (!(((rd_T32 t520 x9_3).f0) == t533) || (!(((rd_T32 t520 x9_3).f1) == t534))) = false := by simpa using c59
       clear c59
       have H' := Aside0.mk H
       clear H
       try go_wp2
       have n0_ := Aside0.mk (Kd.R_drew HO_5.out)
       have n1_ := Aside0.mk (Kd.R_drew HO_7.out)
       have n2_ := Aside0.mk (below_drew1 HB.out)
       revert n0_ n1_ n2_; clear HO_5 HO_7 HB; intro HO_5 HO_7 HB
       obtain ⟨Ao61, co61, eo61⟩ := Kd.R_slice HO_5.out
       (first | subst eo61 | (injection eo61 with f1_ f2_ f3_; have f4_ := f1_.symm; have f5_ := f3_.symm; clear f1_ f2_ f3_; subst f4_; subst f5_))
       have p525 : 0 ≤ (x9_3 : Int) := ode
       have q525 : x9_3 < (t513.length : Int) := ode
       obtain ⟨ad525, e525, hx525_0, hx525_1⟩ := at_T32 (Kd.R_reads' HO_5.out).2.2 x9_3 p525 q525
       cases e525
       replace p525 := eq_true p525
       replace q525 := eq_true q525
       have p528 : 0 ≤ (x9_3 : Int) := ode
       have q528 : x9_3 < (t520.length : Int) := ode
       obtain ⟨Az1119, cz1119, ez1119⟩ := Kd.R_slice HO_7.out
       (first | subst ez1119 | (injection ez1119 with f1_ f2_ f3_; have f4_ := f1_.symm; have f5_ := f3_.symm; clear f1_ f2_ f3_; subst f4_; subst f5_))
       obtain ⟨ad528, e528, hx528_0, hx528_1⟩ := at_T32 (Kd.R_reads' HO_7.out).2.2 x9_3 p528 q528
       cases e528
       replace p528 := eq_true p528
       replace q528 := eq_true q528
       have p529 : 0 ≤ (x9_3 : Int) := ode
       have q529 : x9_3 < (l1.length : Int) := ode
       obtain ⟨ad529, e529, hx529_0⟩ := Kd.at_bool HR1.out x9_3 p529 q529
       (try rw [← Nbq45.out] at hx529_0)
       have hw529_0 := hx529_0
       cases e529
       replace hx529_0 := (HB.out.cell (World.block_lt_of_cell? w _ hx529_0)).trans hx529_0
       replace p529 := eq_true p529
       replace q529 := eq_true q529
       have p532 : 0 ≤ ((ji55) : Int) := ode
       have q532 : (ji55) < (l1.length : Int) := ode
       obtain ⟨ad532, e532, hx532_0⟩ := Kd.at_bool HR1.out (ji55) p532 q532
       (try rw [← Nbq45.out] at hx532_0)
       have hw532_0 := hx532_0
       obtain rfl : ad529 = ad532 := (by injection e532)
       replace hx532_0 := (HB.out.cell (World.block_lt_of_cell? w _ hx532_0)).trans hx532_0
       replace p532 := eq_true p532
       replace q532 := eq_true q532
       refine start_ (n := 31) (S := fun w' => w'.cell? (ad525.add ((x9_3).toNat * 2)) = some (.int .i64 ((rd_T32 t513 x9_3).f0)) ∧ w'.cell? ⟨(ad525.add ((x9_3).toNat * 2)).block, (ad525.add ((x9_3).toNat * 2)).off + 1, none⟩ = some (.int .i64 ((rd_T32 t513 x9_3).f1)) ∧ w'.cell? (ad528.add ((x9_3).toNat * 2)) = some (.int .i64 ((rd_T32 t520 x9_3).f0)) ∧ w'.cell? ⟨(ad528.add ((x9_3).toNat * 2)).block, (ad528.add ((x9_3).toNat * 2)).off + 1, none⟩ = some (.int .i64 ((rd_T32 t520 x9_3).f1)) ∧ w'.cell? (ad529.add (x9_3).toNat) = some (.bool true) ∧ w'.cell? (ad529.add ((ji55)).toNat) = some (.bool (rdOf false l1 (ji55)))) (ds := []) #[F, F, F, F, F, F, F, F, F, F, F, F, F, F, F, F, F, F, F, F, F, F, F, F, F, F, F, F, F, F, F] (by kernel_rfl) rfl rfl ⟨hx525_0, hx525_1, hx528_0, hx528_1, ((HB.out.cell (World.block_lt_of_cell? w _ hw529_0)).trans hw529_0), ((HB.out.cell (World.block_lt_of_cell? w _ hw532_0)).trans hw532_0)⟩ (fun hHeld => ?_); refine with_tabW plenumlaw19_TimerPulses.tab17 plenumlaw19_TimerPulses.bits17 (fun HT_ HW_ => ?_)
       generalize wc.drew = w60 at HO_5 HO_7 HB hx525_0 hx525_1 hx528_0 hx528_1 hx529_0 hx532_0 hHeld ⊢
       refine pure_ (i := 0) (N := some 86) (v := ?_) (a' := ?_) #[T, F, F, F, F, F, F, F, F, F, F, F, F, F, F, F, F, F, F, F, F, F, F, F, F, F, F, F, F, F, F] rfl rfl (any_of HT_.out (by kernel_rfl)) (fun _ _ _ h => h) (Or.inl ⟨by rfl, ?_⟩) ?_ ?_
       rotate_left
       ·
        intro w'
        go_simp
        with_reducible rfl
       rotate_left
       ·
        simp only [ap, sa, sb, sc, i64_w, i32_w]
        rfl
       refine pure_ (i := 1) (N := some 87) (v := ?_) (a' := ?_) #[T, T, F, F, F, F, F, F, F, F, F, F, F, F, F, F, F, F, F, F, F, F, F, F, F, F, F, F, F, F, F] rfl rfl (any_of HT_.out (by kernel_rfl)) (fun _ _ _ h => h) (Or.inl ⟨by rfl, ?_⟩) ?_ ?_
       rotate_left
       ·
        intro w'
        go_simp
        with_reducible rfl
       rotate_left
       ·
        simp only [ap, sa, sb, sc, i64_w, i32_w]
        rfl
       refine pure_ (i := 2) (N := some 88) (v := ?_) (a' := ?_) #[T, T, T, F, F, F, F, F, F, F, F, F, F, F, F, F, F, F, F, F, F, F, F, F, F, F, F, F, F, F, F] rfl rfl (any_of HT_.out (by kernel_rfl)) (fun _ _ _ h => h) (Or.inl ⟨by rfl, ?_⟩) ?_ ?_
       rotate_left
       ·
        intro w'
        go_simp
        with_reducible rfl
       rotate_left
       ·
        simp only [ap, sa, sb, sc, i64_w, i32_w]
        rfl
       refine pure_ (i := 4) (N := some 90) (v := ?_) (a' := ?_) #[T, T, T, F, T, F, F, F, F, F, F, F, F, F, F, F, F, F, F, F, F, F, F, F, F, F, F, F, F, F, F] rfl rfl (any_of HT_.out (by kernel_rfl)) (fun _ _ _ h => h) (Or.inl ⟨by rfl, ?_⟩) ?_ ?_
       rotate_left
       ·
        intro w'
        go_simp
        with_reducible rfl
       rotate_left
       ·
        simp only [ap, sa, sb, sc, i64_w, i32_w]
        rfl
       refine take_ (i := 3) (N := some 89) (v := ?_) (a' := ?_) #[T, T, T, T, T, F, F, F, F, F, F, F, F, F, F, F, F, F, F, F, F, F, F, F, F, F, F, F, F, F, F] rfl rfl (take_ofW HT_.out HW_.out (by kernel_rfl)) (fun _ _ _ h => h) (Or.inl ⟨by rfl, ?_⟩) hHeld ?_ ?_
       rotate_left
       ·
        rintro w' ⟨s0, s1, s2, s3, s4, s5⟩
        go_simp
        with_reducible rfl
       rotate_left
       ·
        simp only [ap, sa, sb, sc, i64_w, i32_w]
        rfl
       refine one_ (i := 5) (N := some 91) #[T, T, T, T, T, T, F, F, F, F, F, F, F, F, F, F, F, F, F, F, F, F, F, F, F, F, F, F, F, F, F] rfl rfl (one_of HT_.out (by kernel_rfl)) (by decide) (fun K hK => ?_)
       refine goes_ Tryd.func11 (by kernel_rfl) rfl #[.bool x10_31] (by rfl) rfl rfl aeq ?_
       with_reducible refine (plenumlaw19_bit.calls x10_31 t526 t527 _ A41.out).mono ?_
       rintro e w62 ⟨rfl, hb⟩
       have HS0_ := (hb.cell (World.block_lt_of_cell? _ _ (hHeld.1))).trans (hHeld.1)
       have HS1_ := (hb.cell (World.block_lt_of_cell? _ _ (hHeld.2.1))).trans (hHeld.2.1)
       have HS2_ := (hb.cell (World.block_lt_of_cell? _ _ (hHeld.2.2.1))).trans (hHeld.2.2.1)
       have HS3_ := (hb.cell (World.block_lt_of_cell? _ _ (hHeld.2.2.2.1))).trans (hHeld.2.2.2.1)
       refine ⟨_, rfl, ?_⟩
       have n0_ := Aside0.mk (Kd.R_below (rr HO_5.out) hb)
       have n1_ := Aside0.mk (Kd.R_below (rr HO_7.out) hb)
       have n2_ := Aside0.mk (below_step bl hb)
       revert n0_ n1_ n2_; clear HO_5 HO_7 HB; intro HO_5 HO_7 HB
       (try clear hb)
       (try clear hb2)
       (try clear hk)
       (try clear hi)
       obtain ⟨Ao63, co63, eo63⟩ := Kd.R_slice HO_7.out
       (first | subst eo63 | (injection eo63 with f1_ f2_ f3_; have f4_ := f1_.symm; have f5_ := f3_.symm; clear f1_ f2_ f3_; subst f4_; subst f5_))
       refine hK.out _ _ ⟨HS0_, HS1_, HS2_, HS3_, ((HB.out.cell (World.block_lt_of_cell? w _ hw529_0)).trans hw529_0), ((HB.out.cell (World.block_lt_of_cell? w _ hw532_0)).trans hw532_0)⟩ (fun hHeld => ?_)
       clear hK K
       refine norm_ (a' := ?_) ?_ ?_
       rotate_left
       ·
        show Act.put _ (some 91) _ = _
        simp only [ap, sa, sb, sc, i64_w, i32_w]
        rfl
       refine pure_ (i := 6) (N := some 92) (v := ?_) (a' := ?_) #[T, T, T, T, T, T, T, F, F, F, F, F, F, F, F, F, F, F, F, F, F, F, F, F, F, F, F, F, F, F, F] rfl rfl (any_of HT_.out (by kernel_rfl)) (fun _ _ _ h => h) (Or.inl ⟨by rfl, ?_⟩) ?_ ?_
       rotate_left
       ·
        intro w'
        go_simp
        with_reducible rfl
       rotate_left
       ·
        simp only [ap, sa, sb, sc, i64_w, i32_w]
        rfl
       refine pure_ (i := 7) (N := some 93) (v := ?_) (a' := ?_) #[T, T, T, T, T, T, T, T, F, F, F, F, F, F, F, F, F, F, F, F, F, F, F, F, F, F, F, F, F, F, F] rfl rfl (any_of HT_.out (by kernel_rfl)) (fun _ _ _ h => h) (Or.inl ⟨by rfl, ?_⟩) ?_ ?_
       rotate_left
       ·
        intro w'
        go_simp
        with_reducible rfl
       rotate_left
       ·
        simp only [ap, sa, sb, sc, i64_w, i32_w]
        rfl
       refine pure_ (i := 8) (N := some 94) (v := ?_) (a' := ?_) #[T, T, T, T, T, T, T, T, T, F, F, F, F, F, F, F, F, F, F, F, F, F, F, F, F, F, F, F, F, F, F] rfl rfl (any_of HT_.out (by kernel_rfl)) (fun _ _ _ h => h) (Or.inl ⟨by rfl, ?_⟩) ?_ ?_
       rotate_left
       ·
        intro w'
        go_simp
        with_reducible rfl
       rotate_left
       ·
        simp only [ap, sa, sb, sc, i64_w, i32_w]
        rfl
       refine pure_ (i := 9) (N := some 95) (v := ?_) (a' := ?_) #[T, T, T, T, T, T, T, T, T, T, F, F, F, F, F, F, F, F, F, F, F, F, F, F, F, F, F, F, F, F, F] rfl rfl (any_of HT_.out (by kernel_rfl)) (fun _ _ _ h => h) (Or.inl ⟨by rfl, ?_⟩) ?_ ?_
       rotate_left
       ·
        intro w'
        go_simp
        with_reducible rfl
       rotate_left
       ·
        simp only [ap, sa, sb, sc, i64_w, i32_w]
        rfl
       refine pure_ (i := 10) (N := some 96) (v := ?_) (a' := ?_) #[T, T, T, T, T, T, T, T, T, T, T, F, F, F, F, F, F, F, F, F, F, F, F, F, F, F, F, F, F, F, F] rfl rfl (any_of HT_.out (by kernel_rfl)) (fun _ _ _ h => h) (Or.inl ⟨by rfl, ?_⟩) ?_ ?_
       rotate_left
       ·
        intro w'
        go_simp
        with_reducible rfl
       rotate_left
       ·
        simp only [ap, sa, sb, sc, i64_w, i32_w]
        rfl
       refine pure_ (i := 12) (N := some 98) (v := ?_) (a' := ?_) #[T, T, T, T, T, T, T, T, T, T, T, F, T, F, F, F, F, F, F, F, F, F, F, F, F, F, F, F, F, F, F] rfl rfl (any_of HT_.out (by kernel_rfl)) (fun _ _ _ h => h) (Or.inl ⟨by rfl, ?_⟩) ?_ ?_
       rotate_left
       ·
        intro w'
        go_simp
        with_reducible rfl
       rotate_left
       ·
        simp only [ap, sa, sb, sc, i64_w, i32_w]
        rfl
       refine pure_ (i := 13) (N := some 99) (v := ?_) (a' := ?_) #[T, T, T, T, T, T, T, T, T, T, T, F, T, T, F, F, F, F, F, F, F, F, F, F, F, F, F, F, F, F, F] rfl rfl (any_of HT_.out (by kernel_rfl)) (fun _ _ _ h => h) (Or.inl ⟨by rfl, ?_⟩) ?_ ?_
       rotate_left
       ·
        intro w'
        go_simp
        with_reducible rfl
       rotate_left
       ·
        simp only [ap, sa, sb, sc, i64_w, i32_w]
        rfl
       refine pure_ (i := 14) (N := some 100) (v := ?_) (a' := ?_) #[T, T, T, T, T, T, T, T, T, T, T, F, T, T, T, F, F, F, F, F, F, F, F, F, F, F, F, F, F, F, F] rfl rfl (any_of HT_.out (by kernel_rfl)) (fun _ _ _ h => h) (Or.inl ⟨by rfl, ?_⟩) ?_ ?_
       rotate_left
       ·
        intro w'
        go_simp
        with_reducible rfl
       rotate_left
       ·
        simp only [ap, sa, sb, sc, i64_w, i32_w]
        rfl
       refine take_ (i := 11) (N := some 97) (v := ?_) (a' := ?_) #[T, T, T, T, T, T, T, T, T, T, T, T, T, T, T, F, F, F, F, F, F, F, F, F, F, F, F, F, F, F, F] rfl rfl (take_ofW HT_.out HW_.out (by kernel_rfl)) (fun _ _ _ h => h) (Or.inl ⟨by rfl, ?_⟩) hHeld ?_ ?_
       rotate_left
       ·
        rintro w' ⟨s0, s1, s2, s3, s4, s5⟩
        go_simp
        with_reducible rfl
       rotate_left
       ·
        simp only [ap, sa, sb, sc, i64_w, i32_w]
        rfl
       refine take_ (i := 15) (N := some 101) (v := ?_) (a' := ?_) #[T, T, T, T, T, T, T, T, T, T, T, T, T, T, T, T, F, F, F, F, F, F, F, F, F, F, F, F, F, F, F] rfl rfl (take_ofW HT_.out HW_.out (by kernel_rfl)) (fun _ _ _ h => h) (Or.inl ⟨by rfl, ?_⟩) hHeld ?_ ?_
       rotate_left
       ·
        rintro w' ⟨s0, s1, s2, s3, s4, s5⟩
        go_simp
        with_reducible rfl
       rotate_left
       ·
        simp only [ap, sa, sb, sc, i64_w, i32_w]
        rfl
       refine pure_ (i := 16) (N := some 102) (v := ?_) (a' := ?_) #[T, T, T, T, T, T, T, T, T, T, T, T, T, T, T, T, T, F, F, F, F, F, F, F, F, F, F, F, F, F, F] rfl rfl (any_of HT_.out (by kernel_rfl)) (fun _ _ _ h => h) (Or.inl ⟨by rfl, ?_⟩) ?_ ?_
       rotate_left
       ·
        intro w'
        go_simp
        with_reducible rfl
       rotate_left
       ·
        simp only [ap, sa, sb, sc, i64_w, i32_w]
        rfl
       refine pure_ (i := 17) (N := some 103) (v := ?_) (a' := ?_) #[T, T, T, T, T, T, T, T, T, T, T, T, T, T, T, T, T, T, F, F, F, F, F, F, F, F, F, F, F, F, F] rfl rfl (any_of HT_.out (by kernel_rfl)) (fun _ _ _ h => h) (Or.inl ⟨by rfl, ?_⟩) ?_ ?_
       rotate_left
       ·
        intro w'
        go_simp
        with_reducible rfl
       rotate_left
       ·
        simp only [ap, sa, sb, sc, i64_w, i32_w]
        rfl
       refine pure_ (i := 18) (N := some 104) (v := ?_) (a' := ?_) #[T, T, T, T, T, T, T, T, T, T, T, T, T, T, T, T, T, T, T, F, F, F, F, F, F, F, F, F, F, F, F] rfl rfl (any_of HT_.out (by kernel_rfl)) (fun _ _ _ h => h) (Or.inl ⟨by rfl, ?_⟩) ?_ ?_
       rotate_left
       ·
        intro w'
        go_simp
        with_reducible rfl
       rotate_left
       ·
        simp only [ap, sa, sb, sc, i64_w, i32_w]
        rfl
       refine pure_ (i := 19) (N := some 105) (v := ?_) (a' := ?_) #[T, T, T, T, T, T, T, T, T, T, T, T, T, T, T, T, T, T, T, T, F, F, F, F, F, F, F, F, F, F, F] rfl rfl (any_of HT_.out (by kernel_rfl)) (fun _ _ _ h => h) (Or.inl ⟨by rfl, ?_⟩) ?_ ?_
       rotate_left
       ·
        intro w'
        go_simp
        with_reducible rfl
       rotate_left
       ·
        simp only [ap, sa, sb, sc, i64_w, i32_w]
        rfl
       refine pure_ (i := 20) (N := some 106) (v := ?_) (a' := ?_) #[T, T, T, T, T, T, T, T, T, T, T, T, T, T, T, T, T, T, T, T, T, F, F, F, F, F, F, F, F, F, F] rfl rfl (any_of HT_.out (by kernel_rfl)) (fun _ _ _ h => h) (Or.inl ⟨by rfl, ?_⟩) ?_ ?_
       rotate_left
       ·
        intro w'
        go_simp
        with_reducible rfl
       rotate_left
       ·
        simp only [ap, sa, sb, sc, i64_w, i32_w]
        rfl
       refine pure_ (i := 21) (N := some 107) (v := ?_) (a' := ?_) #[T, T, T, T, T, T, T, T, T, T, T, T, T, T, T, T, T, T, T, T, T, T, F, F, F, F, F, F, F, F, F] rfl rfl (any_of HT_.out (by kernel_rfl)) (fun _ _ _ h => h) (Or.inl ⟨by rfl, ?_⟩) ?_ ?_
       rotate_left
       ·
        intro w'
        go_simp
        with_reducible rfl
       rotate_left
       ·
        simp only [ap, sa, sb, sc, i64_w, i32_w]
        rfl
       refine pure_ (i := 22) (N := some 108) (v := ?_) (a' := ?_) #[T, T, T, T, T, T, T, T, T, T, T, T, T, T, T, T, T, T, T, T, T, T, T, F, F, F, F, F, F, F, F] rfl rfl (any_of HT_.out (by kernel_rfl)) (fun _ _ _ h => h) (Or.inl ⟨by rfl, ?_⟩) ?_ ?_
       rotate_left
       ·
        intro w'
        go_simp
        with_reducible rfl
       rotate_left
       ·
        simp only [ap, sa, sb, sc, i64_w, i32_w]
        rfl
       refine pure_ (i := 23) (N := some 109) (v := ?_) (a' := ?_) #[T, T, T, T, T, T, T, T, T, T, T, T, T, T, T, T, T, T, T, T, T, T, T, T, F, F, F, F, F, F, F] rfl rfl (any_of HT_.out (by kernel_rfl)) (fun _ _ _ h => h) (Or.inl ⟨by rfl, ?_⟩) ?_ ?_
       rotate_left
       ·
        intro w'
        go_simp
        with_reducible rfl
       rotate_left
       ·
        simp only [ap, sa, sb, sc, i64_w, i32_w]
        rfl
       refine take_ (i := 24) (N := some 110) (v := ?_) (a' := ?_) #[T, T, T, T, T, T, T, T, T, T, T, T, T, T, T, T, T, T, T, T, T, T, T, T, T, F, F, F, F, F, F] rfl rfl (take_ofW HT_.out HW_.out (by kernel_rfl)) (fun _ _ _ h => h) (Or.inl ⟨by rfl, ?_⟩) hHeld ?_ ?_
       rotate_left
       ·
        rintro w' ⟨s0, s1, s2, s3, s4, s5⟩
        go_simp
        with_reducible rfl
       rotate_left
       ·
        simp only [ap, sa, sb, sc, i64_w, i32_w]
        rfl
       refine pure_ (i := 25) (N := some 111) (v := ?_) (a' := ?_) #[T, T, T, T, T, T, T, T, T, T, T, T, T, T, T, T, T, T, T, T, T, T, T, T, T, T, F, F, F, F, F] rfl rfl (any_of HT_.out (by kernel_rfl)) (fun _ _ _ h => h) (Or.inl ⟨by rfl, ?_⟩) ?_ ?_
       rotate_left
       ·
        intro w'
        go_simp
        with_reducible rfl
       rotate_left
       ·
        simp only [ap, sa, sb, sc, i64_w, i32_w]
        rfl
       refine pure_ (i := 26) (N := some 112) (v := ?_) (a' := ?_) #[T, T, T, T, T, T, T, T, T, T, T, T, T, T, T, T, T, T, T, T, T, T, T, T, T, T, T, F, F, F, F] rfl rfl (any_of HT_.out (by kernel_rfl)) (fun _ _ _ h => h) (Or.inl ⟨by rfl, ?_⟩) ?_ ?_
       rotate_left
       ·
        intro w'
        go_simp
        with_reducible rfl
       rotate_left
       ·
        simp only [ap, sa, sb, sc, i64_w, i32_w]
        rfl
       refine pure_ (i := 27) (N := some 113) (v := ?_) (a' := ?_) #[T, T, T, T, T, T, T, T, T, T, T, T, T, T, T, T, T, T, T, T, T, T, T, T, T, T, T, T, F, F, F] rfl rfl (any_of HT_.out (by kernel_rfl)) (fun _ _ _ h => h) (Or.inl ⟨by rfl, ?_⟩) ?_ ?_
       rotate_left
       ·
        intro w'
        go_simp
        with_reducible rfl
       rotate_left
       ·
        simp only [ap, sa, sb, sc, i64_w, i32_w]
        rfl
       refine one_ (i := 28) (N := some 114) #[T, T, T, T, T, T, T, T, T, T, T, T, T, T, T, T, T, T, T, T, T, T, T, T, T, T, T, T, T, F, F] rfl rfl (one_of HT_.out (by kernel_rfl)) (by decide) (fun K hK => ?_)
       refine goes_ Tryd.func11 (by kernel_rfl) rfl #[.bool (!(rdOf false l1 (ji55)))] (by rfl) rfl rfl (by (try simp only [List.map_toArray, List.map_cons, List.map_nil]); first | done | (simp only [hji55]; rfl) | rfl | (simp only [List.length_drop, List.length_take]; rfl)) ?_
       with_reducible refine (plenumlaw19_bit.calls (!(rdOf false l1 (ji55))) t533 t534 _ A58.out).mono ?_
       rintro e w64 ⟨rfl, hb⟩
       have HS0_ := (hb.cell (World.block_lt_of_cell? _ _ (hHeld.1))).trans (hHeld.1)
       have HS1_ := (hb.cell (World.block_lt_of_cell? _ _ (hHeld.2.1))).trans (hHeld.2.1)
       have HS2_ := (hb.cell (World.block_lt_of_cell? _ _ (hHeld.2.2.1))).trans (hHeld.2.2.1)
       have HS3_ := (hb.cell (World.block_lt_of_cell? _ _ (hHeld.2.2.2.1))).trans (hHeld.2.2.2.1)
       refine ⟨_, rfl, ?_⟩
       have n0_ := Aside0.mk (Kd.R_below (rr HO_5.out) hb)
       have n1_ := Aside0.mk (Kd.R_below (rr HO_7.out) hb)
       have n2_ := Aside0.mk (below_step bl hb)
       revert n0_ n1_ n2_; clear HO_5 HO_7 HB; intro HO_5 HO_7 HB
       (try clear hb)
       (try clear hb2)
       (try clear hk)
       (try clear hi)
       refine hK.out _ _ ⟨HS0_, HS1_, HS2_, HS3_, ((HB.out.cell (World.block_lt_of_cell? w _ hw529_0)).trans hw529_0), ((HB.out.cell (World.block_lt_of_cell? w _ hw532_0)).trans hw532_0)⟩ (fun hHeld => ?_)
       clear hK K
       refine norm_ (a' := ?_) ?_ ?_
       rotate_left
       ·
        show Act.put _ (some 114) _ = _
        simp only [ap, sa, sb, sc, i64_w, i32_w]
        rfl
       refine pure_ (i := 29) (N := some 115) (v := ?_) (a' := ?_) #[T, T, T, T, T, T, T, T, T, T, T, T, T, T, T, T, T, T, T, T, T, T, T, T, T, T, T, T, T, T, F] rfl rfl (any_of HT_.out (by kernel_rfl)) (fun _ _ _ h => h) (Or.inl ⟨by rfl, ?_⟩) ?_ ?_
       rotate_left
       ·
        intro w'
        go_simp
        with_reducible rfl
       rotate_left
       ·
        simp only [ap, sa, sb, sc, i64_w, i32_w]
        rfl
       refine pure_ (i := 30) (N := some 116) (v := ?_) (a' := ?_) #[T, T, T, T, T, T, T, T, T, T, T, T, T, T, T, T, T, T, T, T, T, T, T, T, T, T, T, T, T, T, T] rfl rfl (any_of HT_.out (by kernel_rfl)) (fun _ _ _ h => h) (Or.inl ⟨by rfl, ?_⟩) ?_ ?_
       rotate_left
       ·
        intro w'
        go_simp
        with_reducible rfl
       rotate_left
       ·
        simp only [ap, sa, sb, sc, i64_w, i32_w]
        rfl
       refine done_ (done_of HT_.out (by kernel_rfl)) ?_
       try go_wp2
       go_roundg kj31
       case measure => have := HJ4.out; have := HJ13.out; have := HK3.out; have := HJ31.out; omega
       case rel => exact ⟨(wrap64 (x9_3 + 1)), (by first | rfl | (simp; done) | (simp [*]; done)), H', ⟨by have := HJ4.out; have := HJ13.out; have := HK3.out; have := HJ31.out; omega⟩, ⟨rr HO_5.out⟩, ⟨rr HO_7.out⟩, ⟨bl⟩⟩
 ·
  replace c4 := Bool.eq_false_iff.mpr c4
  subst c4
  rw [if_neg (show ¬ (false = true) by decide)] at H
  exact absurd H (by simp)

end Go.Proofs.YtjjbdgngncgikaaDoor.R
