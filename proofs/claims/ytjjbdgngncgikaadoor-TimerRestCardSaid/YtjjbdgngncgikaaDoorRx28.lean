-- Written by this claim's own program out of the translation; not trusted: Lean checks it.
import Derived.Test.YtjjbdgngncgikaaDoorRx0
import Derived.Test.YtjjbdgngncgikaaDoorRx1
import Derived.Test.YtjjbdgngncgikaaDoorRx19
import Derived.Test.YtjjbdgngncgikaaDoorRx20
import Derived.Test.YtjjbdgngncgikaaDoorRx21
import Derived.Test.YtjjbdgngncgikaaDoorRx25
namespace Go.Proofs.YtjjbdgngncgikaaDoor.R
open Go.RowKit Go.Proofs.YtjjbdgngncgikaaDoorW.PrintWords Go.Proofs.YtjjbdgngncgikaaDoorW.PrintLast Go.Proofs.YtjjbdgngncgikaaDoorW.PrintMore
attribute [local go_sem] max2_int min2_int max_two min_two max_three min_three max_four min_four   -- for this text's walks alone
set_option linter.unusedVariables false
set_option linter.unusedSimpArgs false

attribute [local go_sem high] eqA32
/-! ### plenumlaw19_TimerRest: function 5 -/
mutual
def plenumlaw19_TimerRest.j0 : Nat → Int → Int → List Bool → Bool → Option (Bool)
 | 0, _, _, _, _ => none
 | k + 1, x0, x1, x2, x33 => if x33 = true then (some true) else ((plenumlaw19_on.f k x2).bind fun t541 => ((timer_Run.f k (⟨#[109, 105, 110, 114, 117, 110]⟩ : ByteArray) (([x0, x1] : List Int)) t541 1).bind fun bt544 => (if bt544.2 = 0 then (plenumlaw19_TimerRest.j1 k x0 x1 x2 bt544.1 ((bt544.1.length : Int) != (x2.length : Int))) else (plenumlaw19_TimerRest.j1 k x0 x1 x2 bt544.1 true))))
def plenumlaw19_TimerRest.j1 : Nat → Int → Int → List Bool → List (S32) → Bool → Option (Bool)
 | 0, _, _, _, _, _ => none
 | k + 1, x0, x1, x2, x7, x51 => if x51 = true then (none) else (plenumlaw19_TimerRest.l0 k x0 x1 x2 x7 0 (-1) 0)
def plenumlaw19_TimerRest.l0 : Nat → Int → Int → List Bool → List (S32) → Int → Int → Int → Option (Bool)
 | 0, _, _, _, _, _, _, _ => none
 | k + 1, x0, x1, x2, x7, x9, x10, x11 => if x11 < (x2.length : Int) then (if x9 = 1 then (plenumlaw19_TimerRest.j3 k x0 x1 x2 x7 x9 x10 x11 x0) else (plenumlaw19_TimerRest.j3 k x0 x1 x2 x7 x9 x10 x11 x1)) else (some true)
def plenumlaw19_TimerRest.j3 : Nat → Int → Int → List Bool → List (S32) → Int → Int → Int → Int → Option (Bool)
 | 0, _, _, _, _, _, _, _, _ => none
 | k + 1, x0, x1, x2, x7, x9, x10, x11, x12 => if x10 < 0 then (plenumlaw19_TimerRest.j4 k x0 x1 x2 x7 x9 x10 x11 true) else (plenumlaw19_TimerRest.j4 k x0 x1 x2 x7 x9 x10 x11 (decide ((wrap64 (x11 - x10)) ≥ x12)))
def plenumlaw19_TimerRest.j4 : Nat → Int → Int → List Bool → List (S32) → Int → Int → Int → Bool → Option (Bool)
 | 0, _, _, _, _, _, _, _, _ => none
 | k + 1, x0, x1, x2, x7, x9, x10, x11, x70 => if x70 = true then (if 0 ≤ x11 then (if x11 < (x7.length : Int) then (if x11 < (x2.length : Int) then ((plenumlaw19_bit.f (rdOf false x2 x11)).bind fun bt550 => (if (!(((rd_T32 x7 x11).f0) == bt550.1) || (!(((rd_T32 x7 x11).f1) == bt550.2))) = true then (none) else (if ((rd_T32 x7 x11).f1) = x9 then (plenumlaw19_TimerRest.l0 k x0 x1 x2 x7 x9 x10 (wrap64 (x11 + 1))) else (plenumlaw19_TimerRest.l0 k x0 x1 x2 x7 ((rd_T32 x7 x11).f1) x11 (wrap64 (x11 + 1)))))) else (none)) else (none)) else (none)) else (if 0 ≤ x11 then (if x11 < (x7.length : Int) then (if ((rd_T32 x7 x11).f1) = x9 then (plenumlaw19_TimerRest.l0 k x0 x1 x2 x7 x9 x10 (wrap64 (x11 + 1))) else (none)) else (none)) else (none))
end
def plenumlaw19_TimerRest.f (k : Nat) (a0 : Int) (a1 : Int) (l2 : List Bool) : Option (Bool) := (plenumlaw19_awake.f k).bind fun t537 => (if t537 = true then (if (l2.length : Int) > 80 then (plenumlaw19_TimerRest.j0 k a0 a1 l2 true) else (if a0 < 0 then (plenumlaw19_TimerRest.j0 k a0 a1 l2 true) else (if a0 > 100 then (plenumlaw19_TimerRest.j0 k a0 a1 l2 true) else (if a1 < 0 then (plenumlaw19_TimerRest.j0 k a0 a1 l2 true) else (plenumlaw19_TimerRest.j0 k a0 a1 l2 (decide (a1 > 100))))))) else (none))
theorem plenumlaw19_TimerRest.mono_l : ∀ k, (∀ y0 y1 y2 y3, LeO (plenumlaw19_TimerRest.j0 k y0 y1 y2 y3) (plenumlaw19_TimerRest.j0 (k + 1) y0 y1 y2 y3)) ∧ (∀ y0 y1 y2 y3 y4, LeO (plenumlaw19_TimerRest.j1 k y0 y1 y2 y3 y4) (plenumlaw19_TimerRest.j1 (k + 1) y0 y1 y2 y3 y4)) ∧ (∀ y0 y1 y2 y3 y4 y5 y6, LeO (plenumlaw19_TimerRest.l0 k y0 y1 y2 y3 y4 y5 y6) (plenumlaw19_TimerRest.l0 (k + 1) y0 y1 y2 y3 y4 y5 y6)) ∧ (∀ y0 y1 y2 y3 y4 y5 y6 y7, LeO (plenumlaw19_TimerRest.j3 k y0 y1 y2 y3 y4 y5 y6 y7) (plenumlaw19_TimerRest.j3 (k + 1) y0 y1 y2 y3 y4 y5 y6 y7)) ∧ (∀ y0 y1 y2 y3 y4 y5 y6 y7, LeO (plenumlaw19_TimerRest.j4 k y0 y1 y2 y3 y4 y5 y6 y7) (plenumlaw19_TimerRest.j4 (k + 1) y0 y1 y2 y3 y4 y5 y6 y7))
 | 0 => ⟨fun _ _ _ _ r h => by simp [plenumlaw19_TimerRest.j0] at h, fun _ _ _ _ _ r h => by simp [plenumlaw19_TimerRest.j1] at h, fun _ _ _ _ _ _ _ r h => by simp [plenumlaw19_TimerRest.l0] at h, fun _ _ _ _ _ _ _ _ r h => by simp [plenumlaw19_TimerRest.j3] at h, fun _ _ _ _ _ _ _ _ r h => by simp [plenumlaw19_TimerRest.j4] at h⟩
 | k + 1 => by
  obtain ⟨ih0, ih1, ih2, ih3, ih4⟩ := plenumlaw19_TimerRest.mono_l k
  refine ⟨?_, ?_, ?_, ?_, ?_⟩
  ·
   intro y0 y1 y2 y3
   unfold plenumlaw19_TimerRest.j0
   repeat' first
   | (with_reducible exact ih0 _ _ _ _)
   | (with_reducible exact ih1 _ _ _ _ _)
   | (with_reducible exact ih2 _ _ _ _ _ _ _)
   | (with_reducible exact ih3 _ _ _ _ _ _ _ _)
   | (with_reducible exact ih4 _ _ _ _ _ _ _ _)
   | (with_reducible exact plenumlaw19_awake.mono _)
   | (with_reducible exact plenumlaw19_on.mono _ _)
   | (with_reducible exact timer_Run.mono _ _ _ _ _)
   | (with_reducible exact LeO.refl _)
   | (with_reducible exact LeO.none _)
   | (with_reducible refine LeO.ite ?_ ?_)
   | (with_reducible refine LeO.bind ?_ (fun _ => ?_))
   | exact ih0 _ _ _ _
   | exact ih1 _ _ _ _ _
   | exact ih2 _ _ _ _ _ _ _
   | exact ih3 _ _ _ _ _ _ _ _
   | exact ih4 _ _ _ _ _ _ _ _
   | exact plenumlaw19_awake.mono _
   | exact plenumlaw19_on.mono _ _
   | exact timer_Run.mono _ _ _ _ _
   | exact LeO.none _
   | refine LeO.ite ?_ ?_
   | refine LeO.bind ?_ (fun _ => ?_)
  ·
   intro y0 y1 y2 y3 y4
   unfold plenumlaw19_TimerRest.j1
   repeat' first
   | (with_reducible exact ih0 _ _ _ _)
   | (with_reducible exact ih1 _ _ _ _ _)
   | (with_reducible exact ih2 _ _ _ _ _ _ _)
   | (with_reducible exact ih3 _ _ _ _ _ _ _ _)
   | (with_reducible exact ih4 _ _ _ _ _ _ _ _)
   | (with_reducible exact plenumlaw19_awake.mono _)
   | (with_reducible exact plenumlaw19_on.mono _ _)
   | (with_reducible exact timer_Run.mono _ _ _ _ _)
   | (with_reducible exact LeO.refl _)
   | (with_reducible exact LeO.none _)
   | (with_reducible refine LeO.ite ?_ ?_)
   | (with_reducible refine LeO.bind ?_ (fun _ => ?_))
   | exact ih0 _ _ _ _
   | exact ih1 _ _ _ _ _
   | exact ih2 _ _ _ _ _ _ _
   | exact ih3 _ _ _ _ _ _ _ _
   | exact ih4 _ _ _ _ _ _ _ _
   | exact plenumlaw19_awake.mono _
   | exact plenumlaw19_on.mono _ _
   | exact timer_Run.mono _ _ _ _ _
   | exact LeO.none _
   | refine LeO.ite ?_ ?_
   | refine LeO.bind ?_ (fun _ => ?_)
  ·
   intro y0 y1 y2 y3 y4 y5 y6
   unfold plenumlaw19_TimerRest.l0
   repeat' first
   | (with_reducible exact ih0 _ _ _ _)
   | (with_reducible exact ih1 _ _ _ _ _)
   | (with_reducible exact ih2 _ _ _ _ _ _ _)
   | (with_reducible exact ih3 _ _ _ _ _ _ _ _)
   | (with_reducible exact ih4 _ _ _ _ _ _ _ _)
   | (with_reducible exact plenumlaw19_awake.mono _)
   | (with_reducible exact plenumlaw19_on.mono _ _)
   | (with_reducible exact timer_Run.mono _ _ _ _ _)
   | (with_reducible exact LeO.refl _)
   | (with_reducible exact LeO.none _)
   | (with_reducible refine LeO.ite ?_ ?_)
   | (with_reducible refine LeO.bind ?_ (fun _ => ?_))
   | exact ih0 _ _ _ _
   | exact ih1 _ _ _ _ _
   | exact ih2 _ _ _ _ _ _ _
   | exact ih3 _ _ _ _ _ _ _ _
   | exact ih4 _ _ _ _ _ _ _ _
   | exact plenumlaw19_awake.mono _
   | exact plenumlaw19_on.mono _ _
   | exact timer_Run.mono _ _ _ _ _
   | exact LeO.none _
   | refine LeO.ite ?_ ?_
   | refine LeO.bind ?_ (fun _ => ?_)
  ·
   intro y0 y1 y2 y3 y4 y5 y6 y7
   unfold plenumlaw19_TimerRest.j3
   repeat' first
   | (with_reducible exact ih0 _ _ _ _)
   | (with_reducible exact ih1 _ _ _ _ _)
   | (with_reducible exact ih2 _ _ _ _ _ _ _)
   | (with_reducible exact ih3 _ _ _ _ _ _ _ _)
   | (with_reducible exact ih4 _ _ _ _ _ _ _ _)
   | (with_reducible exact plenumlaw19_awake.mono _)
   | (with_reducible exact plenumlaw19_on.mono _ _)
   | (with_reducible exact timer_Run.mono _ _ _ _ _)
   | (with_reducible exact LeO.refl _)
   | (with_reducible exact LeO.none _)
   | (with_reducible refine LeO.ite ?_ ?_)
   | (with_reducible refine LeO.bind ?_ (fun _ => ?_))
   | exact ih0 _ _ _ _
   | exact ih1 _ _ _ _ _
   | exact ih2 _ _ _ _ _ _ _
   | exact ih3 _ _ _ _ _ _ _ _
   | exact ih4 _ _ _ _ _ _ _ _
   | exact plenumlaw19_awake.mono _
   | exact plenumlaw19_on.mono _ _
   | exact timer_Run.mono _ _ _ _ _
   | exact LeO.none _
   | refine LeO.ite ?_ ?_
   | refine LeO.bind ?_ (fun _ => ?_)
  ·
   intro y0 y1 y2 y3 y4 y5 y6 y7
   unfold plenumlaw19_TimerRest.j4
   repeat' first
   | (with_reducible exact ih0 _ _ _ _)
   | (with_reducible exact ih1 _ _ _ _ _)
   | (with_reducible exact ih2 _ _ _ _ _ _ _)
   | (with_reducible exact ih3 _ _ _ _ _ _ _ _)
   | (with_reducible exact ih4 _ _ _ _ _ _ _ _)
   | (with_reducible exact plenumlaw19_awake.mono _)
   | (with_reducible exact plenumlaw19_on.mono _ _)
   | (with_reducible exact timer_Run.mono _ _ _ _ _)
   | (with_reducible exact LeO.refl _)
   | (with_reducible exact LeO.none _)
   | (with_reducible refine LeO.ite ?_ ?_)
   | (with_reducible refine LeO.bind ?_ (fun _ => ?_))
   | exact ih0 _ _ _ _
   | exact ih1 _ _ _ _ _
   | exact ih2 _ _ _ _ _ _ _
   | exact ih3 _ _ _ _ _ _ _ _
   | exact ih4 _ _ _ _ _ _ _ _
   | exact plenumlaw19_awake.mono _
   | exact plenumlaw19_on.mono _ _
   | exact timer_Run.mono _ _ _ _ _
   | exact LeO.none _
   | refine LeO.ite ?_ ?_
   | refine LeO.bind ?_ (fun _ => ?_)
theorem plenumlaw19_TimerRest.mono : ∀ a0 a1 a2 k, LeO (plenumlaw19_TimerRest.f k a0 a1 a2) (plenumlaw19_TimerRest.f (k + 1) a0 a1 a2) := by
 intro a0 a1 a2 k
 obtain ⟨ih0, ih1, ih2, ih3, ih4⟩ := plenumlaw19_TimerRest.mono_l k
 unfold plenumlaw19_TimerRest.f
 repeat' first
   | (with_reducible exact ih0 _ _ _ _)
   | (with_reducible exact ih1 _ _ _ _ _)
   | (with_reducible exact ih2 _ _ _ _ _ _ _)
   | (with_reducible exact ih3 _ _ _ _ _ _ _ _)
   | (with_reducible exact ih4 _ _ _ _ _ _ _ _)
   | (with_reducible exact plenumlaw19_awake.mono _)
   | (with_reducible exact plenumlaw19_on.mono _ _)
   | (with_reducible exact timer_Run.mono _ _ _ _ _)
   | (with_reducible exact LeO.refl _)
   | (with_reducible exact LeO.none _)
   | (with_reducible refine LeO.ite ?_ ?_)
   | (with_reducible refine LeO.bind ?_ (fun _ => ?_))
   | exact ih0 _ _ _ _
   | exact ih1 _ _ _ _ _
   | exact ih2 _ _ _ _ _ _ _
   | exact ih3 _ _ _ _ _ _ _ _
   | exact ih4 _ _ _ _ _ _ _ _
   | exact plenumlaw19_awake.mono _
   | exact plenumlaw19_on.mono _ _
   | exact timer_Run.mono _ _ _ _ _
   | exact LeO.none _
   | refine LeO.ite ?_ ?_
   | refine LeO.bind ?_ (fun _ => ?_)
def plenumlaw19_TimerRest.T16 : Bool × List (List Nat × List Nat) := (true, [([], []), ([], []), ([0, 1], [0, 1]), ([2], [2]), ([], []), ([], []), ([4, 5], [4, 5]), ([6], [6]), ([7], [7]), ([3, 8], [3, 8])])
def plenumlaw19_TimerRest.B16 : List Nat := [0, 0, 3, 7, 0, 0, 48, 112, 240, 511]
theorem plenumlaw19_TimerRest.tab16 : rtab .any (opsOf Tryd.f5 16) = plenumlaw19_TimerRest.T16 := by kernel_rfl
theorem plenumlaw19_TimerRest.bits16 : waitsOk plenumlaw19_TimerRest.T16.2 plenumlaw19_TimerRest.B16 = true := by kernel_rfl
set_option maxHeartbeats 8000000 in
set_option maxRecDepth 100000 in
theorem plenumlaw19_TimerRest.calls (k : Nat) (a0 : Int) (a1 : Int) (A2 : Option Addr) (c2 : Nat) (l2 : List Bool) (r : Bool) (w : World) (hr2 : Kd.C Kd.bool w A2 l2.length l2) (hc2 : l2.length ≤ c2) (hG : GW w) (h : plenumlaw19_TimerRest.f k a0 a1 l2 = some r) :
  Calls Tryd.prog 5 #[.int .i64 a0, .int .i64 a1, .slice A2 l2.length c2] w fun e w' => e = .returned (.bool r) ∧ Below w.heap.size w w' := by
 have hu32 := Tryd.underlying32
 have HG := Aside0.mk hG
 clear hG
 have HR2 := Aside0.mk hr2
 have HC2 := Aside0.mk hc2
 clear hr2 hc2
 have HB := Aside0.mk (Below.refl w.heap.size w)
 have H : ((plenumlaw19_awake.f k).bind fun t537 => (if t537 = true then (if (l2.length : Int) > 80 then (plenumlaw19_TimerRest.j0 k a0 a1 l2 true) else (if a0 < 0 then (plenumlaw19_TimerRest.j0 k a0 a1 l2 true) else (if a0 > 100 then (plenumlaw19_TimerRest.j0 k a0 a1 l2 true) else (if a1 < 0 then (plenumlaw19_TimerRest.j0 k a0 a1 l2 true) else (plenumlaw19_TimerRest.j0 k a0 a1 l2 (decide (a1 > 100))))))) else (none))) = some r := h
 clear h
 replace H := Option.bind_eq_some_iff.mp H
 obtain ⟨t537, A40, H⟩ := H
 (try dsimp only at H)
 have A4 := Aside0.mk A40
 clear A40
 by_cases c5 : t537 = true
 ·
  subst c5
  rw [if_pos rfl] at H
  have HC6 := Aside0.mk H
  clear H
  go_enter Tryd.func5, Tryd.ntmps5
  go_upto_region 3 with (first | ((with_reducible refine gate_callee (f := 8) rfl ?_); refine goesL_ (some 13) rfl rfl Tryd.func8 (by kernel_rfl) rfl #[] rfl aeq ?_; (with_reducible refine (plenumlaw19_awake.calls k  true _ ?side1 A4.out).mono ?_); (case side1 => exact GW.below HG.out bl); rintro e w7 ⟨rfl, hb⟩; refine ⟨_, rfl, ?_⟩; have n0_ := Aside0.mk (below_step bl hb); revert n0_; clear HB; intro HB; (try clear hb); (try clear hb2); (try clear hk); (try clear hi)))
  (try simp only [ap, sa, sb, sc])
  go_cut [33] (fun v33 wc => ∃ (kq : Nat) (x33_5 : Bool), v33 = .bool x33_5 ∧ Aside0 (plenumlaw19_TimerRest.j0 kq a0 a1 l2 x33_5 = some r) ∧ Aside0 (kq ≤ k) ∧ Aside0 (Below w.heap.size w wc))
  case first =>
   have H := HC6.out
   clear HC6
   by_cases c8 : (l2.length : Int) > 80
   ·
    rw [if_pos c8] at H
    have c8b0 : decide (80 < (l2.length : Int)) = true := decide_eq_true c8
    have c8b1 : decide (80 < l2.length) = true := decide_eq_true (by omega)
    clear c8
    (first | rw [c8b0] | (simp only [i64_w, i32_w]; rw [c8b0]) | skip)
    have H' := Aside0.mk H
    clear H
    go_wp2
    go_meet
    case rel => exact ⟨_, (true), (by first | rfl | (simp; done) | (simp [*]; done)), H', ⟨by first | omega | exact Nat.le_refl _⟩, ⟨bl⟩⟩
   rw [if_neg c8] at H
   have c8b0 : decide (80 < (l2.length : Int)) = false := decide_eq_false c8
   have c8b1 : decide (80 < l2.length) = false := decide_eq_false (by omega)
   clear c8
   (first | rw [c8b0] | (simp only [i64_w, i32_w]; rw [c8b0]) | skip)
   by_cases c9 : a0 < 0
   ·
    rw [if_pos c9] at H
    have c9b0 : decide (a0 < 0) = true := decide_eq_true c9
    clear c9
    have H' := Aside0.mk H
    clear H
    go_wp2
    go_meet
    case rel => exact ⟨_, (true), (by first | rfl | (simp; done) | (simp [*]; done)), H', ⟨by first | omega | exact Nat.le_refl _⟩, ⟨bl⟩⟩
   rw [if_neg c9] at H
   have c9b0 : decide (a0 < 0) = false := decide_eq_false c9
   clear c9
   by_cases c10 : a0 > 100
   ·
    rw [if_pos c10] at H
    have c10b0 : decide (100 < a0) = true := decide_eq_true c10
    clear c10
    have H' := Aside0.mk H
    clear H
    go_wp2
    go_meet
    case rel => exact ⟨_, (true), (by first | rfl | (simp; done) | (simp [*]; done)), H', ⟨by first | omega | exact Nat.le_refl _⟩, ⟨bl⟩⟩
   rw [if_neg c10] at H
   have c10b0 : decide (100 < a0) = false := decide_eq_false c10
   clear c10
   by_cases c11 : a1 < 0
   ·
    rw [if_pos c11] at H
    have c11b0 : decide (a1 < 0) = true := decide_eq_true c11
    clear c11
    have H' := Aside0.mk H
    clear H
    go_wp2
    go_meet
    case rel => exact ⟨_, (true), (by first | rfl | (simp; done) | (simp [*]; done)), H', ⟨by first | omega | exact Nat.le_refl _⟩, ⟨bl⟩⟩
   rw [if_neg c11] at H
   have c11b0 : decide (a1 < 0) = false := decide_eq_false c11
   clear c11
   have H' := Aside0.mk H
   clear H
   go_wp2
   go_meet
   case rel => exact ⟨_, (decide (a1 > 100)), (by first | rfl | (simp; done) | (simp [*]; done)), H', ⟨by first | omega | exact Nat.le_refl _⟩, ⟨bl⟩⟩
  clear HC6
  try clear c1
  try clear c2
  try clear p2
  try clear c5
  try clear c8
  try clear c8b0
  try clear c8b1
  try clear c9
  try clear c9b0
  try clear c10
  try clear c10b0
  try clear c11
  try clear c11b0
  obtain ⟨kq, x33_5, rfl, HA, HJ5, HB⟩ := hcut
  cases kq with
  | zero => exact absurd HA.out (by simp [plenumlaw19_TimerRest.j0])
  | succ kj5 =>
   have H := HA.out
   clear HA
   simp only [plenumlaw19_TimerRest.j0] at H
   by_cases c12 : x33_5 = true
   ·
    subst c12
    rw [if_pos rfl] at H
    obtain rfl := Option.some.inj H
    go_wp2
    go_ret
    exact ⟨by first | rfl | (simp [errW_none, errW_some] <;> rfl) | (simp [*, errW_none, errW_some] <;> rfl), bl⟩
   replace c12 := Bool.eq_false_iff.mpr c12
   subst c12
   rw [if_neg (show ¬ (false = true) by decide)] at H
   obtain ⟨y538, hy538⟩ : ∃ y_ : List Int, y_ = (([a0, a1] : List Int)) := ⟨_, rfl⟩
   replace H : ((plenumlaw19_on.f kj5 l2).bind fun t541 => ((timer_Run.f kj5 (⟨#[109, 105, 110, 114, 117, 110]⟩ : ByteArray) y538 t541 1).bind fun bt544 => (if bt544.2 = 0 then (plenumlaw19_TimerRest.j1 kj5 a0 a1 l2 bt544.1 ((bt544.1.length : Int) != (l2.length : Int))) else (plenumlaw19_TimerRest.j1 kj5 a0 a1 l2 bt544.1 true)))) = some r := by first | (rw [hy538]; with_reducible exact H) | (have H2_ := (Option.bind_some _ _).symm.trans H; rw [hy538]; with_reducible exact H2_) | (have H2_ := (Option.bind_some _ _).symm.trans H; with_reducible exact H2_) | with_reducible exact H | (rw [hy538]; exact H) | exact H
   have Ny538 := Aside0.mk hy538
   clear hy538
   replace H := Option.bind_eq_some_iff.mp H
   obtain ⟨t541, A130, H⟩ := H
   (try dsimp only at H)
   have A13 := Aside0.mk A130
   clear A130
   replace H := Option.bind_eq_some_iff.mp H
   obtain ⟨⟨t544, t545⟩, A140, H⟩ := H
   (try dsimp only at H)
   have A14 := Aside0.mk A140
   clear A140
   have HC15 := Aside0.mk H
   clear H
   go_upto_region 6 with (first | ((with_reducible refine gate_dst (N := 37) rfl ?_); (try (refine gate_guard (by rfl) ?_; dsimp only)); refine Kd.R_lit (Kd.int .i64) _ 2 ?hg (N := 37) ?hd (xs := ([a0, a1] : List Int)) (inner := [.int .i64 a0, .int .i64 a1]) (ok := fun _ => True) (okp := fun _ => True) ?hr ?hp (fun _ hk => hk) trivial (Below.refl _ _) (Nat.le_refl _) (by simp) ?_; (case hd => rfl); (case hg => rfl); (case hr => first | (go_simp; done) | (go_simp; rfl)); (case hp => exact (Reps.one (show Kd.M (Kd.int .i64) _ _ _ a0 [.int .i64 a0] from rfl) (Reps.one (show Kd.M (Kd.int .i64) _ _ _ a1 [.int .i64 a1] from rfl) (Reps.none _ _)))); intro v539 w16 ho17 hb hg_ hnew_; clear hg_ hnew_; (first | rw [← Ny538.out] at ho17 | (simp only [Int.reduceToNat] at ho17; rw [← Ny538.out] at ho17)); have n0_ := Aside0.mk (Kd.R_lower ho17 (below_size bl)); have n1_ := Aside0.mk (below_step bl hb); revert n0_ n1_; clear HB; intro HO540 HB; clear hb ho17) | ((with_reducible refine gate_callee (f := 10) rfl ?_); refine goesL_ (some 39) rfl rfl Tryd.func10 (by kernel_rfl) rfl #[.slice A2 l2.length c2] rfl aeq ?_; (with_reducible refine (plenumlaw19_on.calls kj5 _ _ l2 t541 _ ?side1 ?side2 A13.out).mono ?_); (case side1 => repeat (first | exact (Kd.C_below HR2.out HB.out) | (with_reducible refine Kd.C_alloc ?_ _) | (with_reducible refine Kd.C_drewN ?_ _) | (with_reducible refine Kd.C_drew ?_))); (case side2 => exact HC2.out); rintro e w18 ⟨v542, rfl, ho0, hb⟩; refine ⟨_, rfl, ?_⟩; have n0_ := Aside0.mk (Kd.R_below (rr HO540.out) hb); have n1_ := Aside0.mk (Kd.S_lower ho0 (below_size bl)); have n2_ := Aside0.mk (below_step bl hb); revert n0_ n1_ n2_; clear HO540 HB; intro HO540 HO543 HB; (try clear hb); (try clear hb2); (try clear hk); (try clear hi); (try clear ho0); obtain ⟨Ao19, co19, eo19⟩ := Kd.R_slice HO540.out; subst eo19; obtain ⟨Ao20, co20, eo20⟩ := Kd.S_slice HO543.out; subst eo20) | ((with_reducible refine gate_callee (f := 9) rfl ?_); refine goesL_ (some 40) rfl rfl Tryd.func9 (by kernel_rfl) rfl #[.string (⟨#[109, 105, 110, 114, 117, 110]⟩ : ByteArray), .slice Ao19 y538.length co19, .slice Ao20 t541.length co20, .int .i64 1] rfl aeq ?_; (with_reducible refine (timer_Run.calls kj5 (⟨#[109, 105, 110, 114, 117, 110]⟩ : ByteArray) _ _ y538 _ _ t541 1 t544 t545 _ ?side1 ?side2 ?side3 ?side4 ?side5 A14.out).mono ?_); (case side1 => repeat (first | exact (Kd.R_reads' HO540.out).2.2 | (with_reducible refine Kd.C_alloc ?_ _) | (with_reducible refine Kd.C_drewN ?_ _) | (with_reducible refine Kd.C_drew ?_))); (case side2 => exact (Kd.R_reads' HO540.out).2.1); (case side3 => repeat (first | exact (Kd.S_reads' HO543.out).2.2 | (with_reducible refine Kd.C_alloc ?_ _) | (with_reducible refine Kd.C_drewN ?_ _) | (with_reducible refine Kd.C_drew ?_))); (case side4 => exact (Kd.S_reads' HO543.out).2.1); (case side5 => exact GW.below HG.out bl); rintro e w21 ⟨v546, rfl, ho0, hb⟩; refine ⟨_, rfl, ?_⟩; have n0_ := Aside0.mk (Kd.R_below (rr HO540.out) hb); have n1_ := Aside0.mk (Kd.S_elder' (rs HO543.out) (Kd.R_base ho0) hb); have n2_ := Aside0.mk (Kd.R_lower ho0 (below_size bl)); have n3_ := Aside0.mk (below_step bl hb); revert n0_ n1_ n2_ n3_; clear HO540 HO543 HB; intro HO540 HO543 HO547 HB; (try clear hb); (try clear hb2); (try clear hk); (try clear hi); (try clear ho0)))
   (try simp only [ap, sa, sb, sc])
   go_cut [51] (fun v51 wc => ∃ (kq : Nat) (x51_14 : Bool), v51 = .bool x51_14 ∧ Aside0 (plenumlaw19_TimerRest.j1 kq a0 a1 l2 t544 x51_14 = some r) ∧ Aside0 (kq ≤ kj5) ∧ Aside0 (Kd.R k32 32 wc w.heap.size (fun _ => True) v546 t544) ∧ Aside0 (Below w.heap.size w wc))
   case first =>
    have H := HC15.out
    clear HC15
    by_cases c22 : t545 = 0
    rotate_left
    ·
     rw [if_neg c22] at H
     have c22b0 : (t545 == 0) = false := beq_eq_false_iff_ne.mpr c22
     have c22b1 : (t545 != 0) = true := bne_iff_ne.mpr c22
     (first | rw [c22b0] | (simp only [i64_w, i32_w]; rw [c22b0]) | skip)
     have H' := Aside0.mk H
     clear H
     go_wp2
     go_meet
     case rel => exact ⟨_, (true), (by first | rfl | (simp; done) | (simp [*]; done)), H', ⟨by have := HJ5.out; first | omega | exact Nat.le_refl _⟩, ⟨rr HO547.out⟩, ⟨bl⟩⟩
    rw [if_pos c22] at H
    have c22b0 : (t545 == 0) = true := beq_iff_eq.mpr c22
    have c22b1 : (t545 != 0) = false := bne_eq_false_iff_eq.mpr c22
    clear c22
    (first | rw [c22b0] | (simp only [i64_w, i32_w]; rw [c22b0]) | skip)
    have H' := Aside0.mk H
    clear H
    obtain ⟨Ao23, co23, eo23⟩ := Kd.R_slice HO547.out
    subst eo23
    go_wp2
    go_meet
    case rel => exact ⟨_, (((t544.length : Int) != (l2.length : Int))), (by first | rfl | (simp; done) | (simp [*]; done)), H', ⟨by have := HJ5.out; first | omega | exact Nat.le_refl _⟩, ⟨rr HO547.out⟩, ⟨bl⟩⟩
   clear HC15
   try clear c1
   try clear c2
   try clear p2
   try clear c5
   try clear c8
   try clear c8b0
   try clear c8b1
   try clear c9
   try clear c9b0
   try clear c10
   try clear c10b0
   try clear c11
   try clear c11b0
   try clear c12
   try clear c22
   try clear c22b0
   try clear c22b1
   try clear p2
   obtain ⟨kq, x51_14, rfl, HA, HJ14, HO_7, HB⟩ := hcut
   cases kq with
   | zero => exact absurd HA.out (by simp [plenumlaw19_TimerRest.j1])
   | succ kj14 =>
    have H := HA.out
    clear HA
    simp only [plenumlaw19_TimerRest.j1] at H
    by_cases c24 : x51_14 = true
    ·
     subst c24
     rw [if_pos rfl] at H
     exact absurd H (by simp)
    replace c24 := Bool.eq_false_iff.mpr c24
    subst c24
    rw [if_neg (show ¬ (false = true) by decide)] at H
    have H' := Aside0.mk H
    clear H
    go_wp2
    go_loopg [9, 10, 11] kj14 (fun kq v9 v10 v11 w' => ∃ (x9_3 : Int) (x10_3 : Int) (x11_3 : Int), v9 = .int .i64 x9_3 ∧ v10 = .int .i64 x10_3 ∧ v11 = .int .i64 x11_3 ∧ Aside0 (plenumlaw19_TimerRest.l0 kq a0 a1 l2 t544 x9_3 x10_3 x11_3 = some r) ∧ Aside0 (kq ≤ kj14) ∧ Aside0 (Kd.R k32 32 w' w.heap.size (fun _ => True) v546 t544) ∧ Aside0 (Below w.heap.size w w'))
    case atStart => exact ⟨(0), ((-1)), (0), (by first | rfl | (simp; done) | (simp [*]; done)), (by first | rfl | (simp; done) | (simp [*]; done)), (by first | rfl | (simp; done) | (simp [*]; done)), H', ⟨Nat.le_refl _⟩, ⟨rr HO_7.out⟩, ⟨bl⟩⟩
    case round =>
     clear H'
     try clear c1
     try clear c2
     try clear p2
     try clear c5
     try clear c8
     try clear c8b0
     try clear c8b1
     try clear c9
     try clear c9b0
     try clear c10
     try clear c10b0
     try clear c11
     try clear c11b0
     try clear c12
     try clear c22
     try clear c22b0
     try clear c22b1
     try clear c24
     try clear p2
     obtain ⟨x9_3, x10_3, x11_3, rfl, rfl, rfl, HA, HK3, HO_7, HB⟩ := hrel
     cases gk with
     | zero => exact absurd HA.out (by simp [plenumlaw19_TimerRest.l0])
     | succ k3 =>
      have H := HA.out
      clear HA
      simp only [plenumlaw19_TimerRest.l0] at H
      by_cases c25 : x11_3 < (l2.length : Int)
      rotate_left
      ·
       rw [if_neg c25] at H
       have c25b0 : decide (x11_3 < (l2.length : Int)) = false := decide_eq_false c25
       clear c25
       obtain rfl := Option.some.inj H
       go_wp2
       go_ret
       exact ⟨by first | rfl | (simp [errW_none, errW_some] <;> rfl) | (simp [*, errW_none, errW_some] <;> rfl), bl⟩
      rw [if_pos c25] at H
      have c25b0 : decide (x11_3 < (l2.length : Int)) = true := decide_eq_true c25
      clear c25
      have HC26 := Aside0.mk H
      clear H
      go_upto_if 60 with (fail)
      go_cut [12] (fun v12 wc => ∃ (kq : Nat) (x12_25 : Int), v12 = .int .i64 x12_25 ∧ Aside0 (plenumlaw19_TimerRest.j3 kq a0 a1 l2 t544 x9_3 x10_3 x11_3 x12_25 = some r) ∧ Aside0 (kq ≤ k3) ∧ Aside0 (Kd.R k32 32 wc w.heap.size (fun _ => True) v546 t544) ∧ Aside0 (Below w.heap.size w wc))
      case first =>
       have H := HC26.out
       clear HC26
       by_cases c27 : x9_3 = 1
       rotate_left
       ·
        rw [if_neg c27] at H
        have c27b0 : (x9_3 == 1) = false := beq_eq_false_iff_ne.mpr c27
        have c27b1 : (x9_3 != 1) = true := bne_iff_ne.mpr c27
        (first | rw [c27b0] | (simp only [i64_w, i32_w]; rw [c27b0]) | skip)
        have H' := Aside0.mk H
        clear H
        go_wp2
        go_meet
        case rel => exact ⟨_, (a1), (by first | rfl | (simp; done) | (simp [*]; done)), H', ⟨by have := HJ5.out; have := HJ14.out; have := HK3.out; first | omega | exact Nat.le_refl _⟩, ⟨rr HO_7.out⟩, ⟨bl⟩⟩
       rw [if_pos c27] at H
       have c27b0 : (x9_3 == 1) = true := beq_iff_eq.mpr c27
       have c27b1 : (x9_3 != 1) = false := bne_eq_false_iff_eq.mpr c27
       clear c27
       (first | rw [c27b0] | (simp only [i64_w, i32_w]; rw [c27b0]) | skip)
       have H' := Aside0.mk H
       clear H
       go_wp2
       go_meet
       case rel => exact ⟨_, (a0), (by first | rfl | (simp; done) | (simp [*]; done)), H', ⟨by have := HJ5.out; have := HJ14.out; have := HK3.out; first | omega | exact Nat.le_refl _⟩, ⟨rr HO_7.out⟩, ⟨bl⟩⟩
      clear HC26
      try clear c1
      try clear c2
      try clear p2
      try clear c5
      try clear c8
      try clear c8b0
      try clear c8b1
      try clear c9
      try clear c9b0
      try clear c10
      try clear c10b0
      try clear c11
      try clear c11b0
      try clear c12
      try clear c22
      try clear c22b0
      try clear c22b1
      try clear c24
      try clear c25
      try clear c25b0
      try clear c27
      try clear c27b0
      try clear c27b1
      try clear p2
      obtain ⟨kq, x12_25, rfl, HA, HJ25, HO_7, HB⟩ := hcut
      cases kq with
      | zero => exact absurd HA.out (by simp [plenumlaw19_TimerRest.j3])
      | succ kj25 =>
       have H := HA.out
       clear HA
       simp only [plenumlaw19_TimerRest.j3] at H
       have HC28 := Aside0.mk H
       clear H
       go_upto_region 15 with (fail)
       go_cut [70] (fun v70 wc => ∃ (kq : Nat) (x70_27 : Bool), v70 = .bool x70_27 ∧ Aside0 (plenumlaw19_TimerRest.j4 kq a0 a1 l2 t544 x9_3 x10_3 x11_3 x70_27 = some r) ∧ Aside0 (kq ≤ kj25) ∧ Aside0 (Kd.R k32 32 wc w.heap.size (fun _ => True) v546 t544) ∧ Aside0 (Below w.heap.size w wc))
       case first =>
        have H := HC28.out
        clear HC28
        by_cases c29 : x10_3 < 0
        ·
         rw [if_pos c29] at H
         have c29b0 : decide (x10_3 < 0) = true := decide_eq_true c29
         clear c29
         (first | rw [c29b0] | (simp only [i64_w, i32_w]; rw [c29b0]) | skip)
         have H' := Aside0.mk H
         clear H
         go_wp2
         go_meet
         case rel => exact ⟨_, (true), (by first | rfl | (simp; done) | (simp [*]; done)), H', ⟨by have := HJ5.out; have := HJ14.out; have := HK3.out; have := HJ25.out; first | omega | exact Nat.le_refl _⟩, ⟨rr HO_7.out⟩, ⟨bl⟩⟩
        rw [if_neg c29] at H
        have c29b0 : decide (x10_3 < 0) = false := decide_eq_false c29
        clear c29
        (first | rw [c29b0] | (simp only [i64_w, i32_w]; rw [c29b0]) | skip)
        have H' := Aside0.mk H
        clear H
        go_wp2
        go_meet
        case rel => exact ⟨_, (decide ((wrap64 (x11_3 - x10_3)) ≥ x12_25)), (by first | rfl | (simp; done) | (simp [*]; done)), H', ⟨by have := HJ5.out; have := HJ14.out; have := HK3.out; have := HJ25.out; first | omega | exact Nat.le_refl _⟩, ⟨rr HO_7.out⟩, ⟨bl⟩⟩
       clear HC28
       try clear c1
       try clear c2
       try clear p2
       try clear c5
       try clear p6
       try clear c8
       try clear c8b0
       try clear c8b1
       try clear c9
       try clear c9b0
       try clear c10
       try clear c10b0
       try clear c11
       try clear c11b0
       try clear c12
       try clear c22
       try clear c22b0
       try clear c22b1
       try clear c24
       try clear c25
       try clear c25b0
       try clear c27
       try clear c27b0
       try clear c27b1
       try clear c29
       try clear c29b0
       try clear p2
       obtain ⟨kq, x70_27, rfl, HA, HJ27, HO_7, HB⟩ := hcut
       cases kq with
       | zero => exact absurd HA.out (by simp [plenumlaw19_TimerRest.j4])
       | succ kj27 =>
        have H := HA.out
        clear HA
        simp only [plenumlaw19_TimerRest.j4] at H
        by_cases c30 : x70_27 = true
        rotate_left
        ·
         replace c30 := Bool.eq_false_iff.mpr c30
         subst c30
         rw [if_neg (show ¬ (false = true) by decide)] at H
         by_cases c43 : 0 ≤ x11_3
         rotate_left
         ·
          rw [if_neg c43] at H
          exact absurd H (by simp)
         rw [if_pos c43] at H
         have c43b0 : decide (0 ≤ x11_3) = true := decide_eq_true c43
         clear c43
         by_cases c44 : x11_3 < (t544.length : Int)
         rotate_left
         ·
          rw [if_neg c44] at H
          exact absurd H (by simp)
         rw [if_pos c44] at H
         have c44b0 : decide (x11_3 < (t544.length : Int)) = true := decide_eq_true c44
         clear c44
         by_cases c45 : ((rd_T32 t544 x11_3).f1) = x9_3
         rotate_left
         ·
          rw [if_neg c45] at H
          exact absurd H (by simp)
         rw [if_pos c45] at H
         have c45b0 : (((rd_T32 t544 x11_3).f1) == x9_3) = true := beq_iff_eq.mpr c45
         have c45b1 : (((rd_T32 t544 x11_3).f1) != x9_3) = false := bne_eq_false_iff_eq.mpr c45
         clear c45
         have H' := Aside0.mk H
         clear H
         obtain ⟨Ao46, co46, eo46⟩ := Kd.R_slice HO_7.out
         subst eo46
         have p554 : 0 ≤ (x11_3 : Int) := ode
         have q554 : x11_3 < (t544.length : Int) := ode
         obtain ⟨ad554, e554, hx554_0, hx554_1⟩ := at_T32 (Kd.R_reads' HO_7.out).2.2 x11_3 p554 q554
         cases e554
         replace p554 := eq_true p554
         replace q554 := eq_true q554
         have p555 : 0 ≤ (x11_3 : Int) := ode
         have q555 : x11_3 < (t544.length : Int) := ode
         obtain ⟨ad555, e555, hx555_0, hx555_1⟩ := at_T32 (Kd.R_reads' HO_7.out).2.2 x11_3 p555 q555
         obtain rfl : ad554 = ad555 := (by injection e555)
         replace p555 := eq_true p555
         replace q555 := eq_true q555
         go_wp2
         go_roundg kj27
         case measure => have := HJ5.out; have := HJ14.out; have := HK3.out; have := HJ25.out; have := HJ27.out; omega
         case rel => exact ⟨(x9_3), (x10_3), (wrap64 (x11_3 + 1)), (by first | rfl | (simp; done) | (simp [*]; done)), (by first | rfl | (simp; done) | (simp [*]; done)), (by first | rfl | (simp; done) | (simp [*]; done)), H', ⟨by have := HJ5.out; have := HJ14.out; have := HK3.out; have := HJ25.out; have := HJ27.out; omega⟩, ⟨rr HO_7.out⟩, ⟨bl⟩⟩
        subst c30
        rw [if_pos rfl] at H
        by_cases c31 : 0 ≤ x11_3
        rotate_left
        ·
         rw [if_neg c31] at H
         exact absurd H (by simp)
        rw [if_pos c31] at H
        have c31b0 : decide (0 ≤ x11_3) = true := decide_eq_true c31
        clear c31
        by_cases c32 : x11_3 < (t544.length : Int)
        rotate_left
        ·
         rw [if_neg c32] at H
         exact absurd H (by simp)
        rw [if_pos c32] at H
        have c32b0 : decide (x11_3 < (t544.length : Int)) = true := decide_eq_true c32
        clear c32
        by_cases c33 : x11_3 < (l2.length : Int)
        rotate_left
        ·
         rw [if_neg c33] at H
         exact absurd H (by simp)
        rw [if_pos c33] at H
        have c33b0 : decide (x11_3 < (l2.length : Int)) = true := decide_eq_true c33
        clear c33
        replace H := Option.bind_eq_some_iff.mp H
        obtain ⟨⟨t550, t551⟩, A340, H⟩ := H
        (try dsimp only at H)
        have A34 := Aside0.mk A340
        clear A340
        by_cases c35 : (!(((rd_T32 t544 x11_3).f0) == t550) || (!(((rd_T32 t544 x11_3).f1) == t551))) = true
        ·
         rw [if_pos c35] at H
         exact absurd H (by simp)
        rw [if_neg c35] at H
        have c35b0 : (!(((rd_T32 t544 x11_3).f0) == t550) || (!(((rd_T32 t544 x11_3).f1) == t551))) = false := by simpa using c35
        clear c35
        by_cases c36 : ((rd_T32 t544 x11_3).f1) = x9_3
        ·
         rw [if_pos c36] at H
         have c36b0 : (((rd_T32 t544 x11_3).f1) == x9_3) = true := beq_iff_eq.mpr c36
         have c36b1 : (((rd_T32 t544 x11_3).f1) != x9_3) = false := bne_eq_false_iff_eq.mpr c36
         clear c36
         have H' := Aside0.mk H
         clear H
         try go_wp2
         have n0_ := Aside0.mk (Kd.R_drew HO_7.out)
         have n1_ := Aside0.mk (below_drew1 HB.out)
         revert n0_ n1_; clear HO_7 HB; intro HO_7 HB
         obtain ⟨Ao38, co38, eo38⟩ := Kd.R_slice HO_7.out
         (first | subst eo38 | (injection eo38 with f1_ f2_ f3_; have f4_ := f1_.symm; have f5_ := f3_.symm; clear f1_ f2_ f3_; subst f4_; subst f5_))
         have p548 : 0 ≤ (x11_3 : Int) := ode
         have q548 : x11_3 < (t544.length : Int) := ode
         obtain ⟨ad548, e548, hx548_0, hx548_1⟩ := at_T32 (Kd.R_reads' HO_7.out).2.2 x11_3 p548 q548
         cases e548
         replace p548 := eq_true p548
         replace q548 := eq_true q548
         have p549 : 0 ≤ (x11_3 : Int) := ode
         have q549 : x11_3 < (l2.length : Int) := ode
         obtain ⟨ad549, e549, hx549_0⟩ := Kd.at_bool HR2.out x11_3 p549 q549
         have hw549_0 := hx549_0
         cases e549
         replace hx549_0 := (HB.out.cell (World.block_lt_of_cell? w _ hx549_0)).trans hx549_0
         replace p549 := eq_true p549
         replace q549 := eq_true q549
         refine start_ (n := 10) (S := fun w' => w'.cell? (ad548.add ((x11_3).toNat * 2)) = some (.int .i64 ((rd_T32 t544 x11_3).f0)) ∧ w'.cell? ⟨(ad548.add ((x11_3).toNat * 2)).block, (ad548.add ((x11_3).toNat * 2)).off + 1, none⟩ = some (.int .i64 ((rd_T32 t544 x11_3).f1)) ∧ w'.cell? (ad549.add (x11_3).toNat) = some (.bool (rdOf false l2 x11_3))) (ds := []) #[F, F, F, F, F, F, F, F, F, F] (by kernel_rfl) rfl rfl ⟨hx548_0, hx548_1, ((HB.out.cell (World.block_lt_of_cell? w _ hw549_0)).trans hw549_0)⟩ (fun hHeld => ?_); refine with_tabW plenumlaw19_TimerRest.tab16 plenumlaw19_TimerRest.bits16 (fun HT_ HW_ => ?_)
         generalize wc.drew = w37 at HO_7 HB hx548_0 hx548_1 hx549_0 hHeld ⊢
         refine pure_ (i := 0) (N := some 71) (v := ?_) (a' := ?_) #[T, F, F, F, F, F, F, F, F, F] rfl rfl (any_of HT_.out (by kernel_rfl)) (fun _ _ _ h => h) (Or.inl ⟨by rfl, ?_⟩) ?_ ?_
         rotate_left
         ·
          intro w'
          go_simp
          with_reducible rfl
         rotate_left
         ·
          simp only [ap, sa, sb, sc, i64_w, i32_w]
          rfl
         refine pure_ (i := 1) (N := some 72) (v := ?_) (a' := ?_) #[T, T, F, F, F, F, F, F, F, F] rfl rfl (any_of HT_.out (by kernel_rfl)) (fun _ _ _ h => h) (Or.inl ⟨by rfl, ?_⟩) ?_ ?_
         rotate_left
         ·
          intro w'
          go_simp
          with_reducible rfl
         rotate_left
         ·
          simp only [ap, sa, sb, sc, i64_w, i32_w]
          rfl
         refine pure_ (i := 2) (N := some 73) (v := ?_) (a' := ?_) #[T, T, T, F, F, F, F, F, F, F] rfl rfl (any_of HT_.out (by kernel_rfl)) (fun _ _ _ h => h) (Or.inl ⟨by rfl, ?_⟩) ?_ ?_
         rotate_left
         ·
          intro w'
          go_simp
          with_reducible rfl
         rotate_left
         ·
          simp only [ap, sa, sb, sc, i64_w, i32_w]
          rfl
         refine pure_ (i := 4) (N := some 75) (v := ?_) (a' := ?_) #[T, T, T, F, T, F, F, F, F, F] rfl rfl (any_of HT_.out (by kernel_rfl)) (fun _ _ _ h => h) (Or.inl ⟨by rfl, ?_⟩) ?_ ?_
         rotate_left
         ·
          intro w'
          go_simp
          with_reducible rfl
         rotate_left
         ·
          simp only [ap, sa, sb, sc, i64_w, i32_w]
          rfl
         refine pure_ (i := 5) (N := some 76) (v := ?_) (a' := ?_) #[T, T, T, F, T, T, F, F, F, F] rfl rfl (any_of HT_.out (by kernel_rfl)) (fun _ _ _ h => h) (Or.inl ⟨by rfl, ?_⟩) ?_ ?_
         rotate_left
         ·
          intro w'
          go_simp
          with_reducible rfl
         rotate_left
         ·
          simp only [ap, sa, sb, sc, i64_w, i32_w]
          rfl
         refine pure_ (i := 6) (N := some 77) (v := ?_) (a' := ?_) #[T, T, T, F, T, T, T, F, F, F] rfl rfl (any_of HT_.out (by kernel_rfl)) (fun _ _ _ h => h) (Or.inl ⟨by rfl, ?_⟩) ?_ ?_
         rotate_left
         ·
          intro w'
          go_simp
          with_reducible rfl
         rotate_left
         ·
          simp only [ap, sa, sb, sc, i64_w, i32_w]
          rfl
         refine take_ (i := 3) (N := some 74) (v := ?_) (a' := ?_) #[T, T, T, T, T, T, T, F, F, F] rfl rfl (take_ofW HT_.out HW_.out (by kernel_rfl)) (fun _ _ _ h => h) (Or.inl ⟨by rfl, ?_⟩) hHeld ?_ ?_
         rotate_left
         ·
          rintro w' ⟨s0, s1, s2⟩
          go_simp
          with_reducible rfl
         rotate_left
         ·
          simp only [ap, sa, sb, sc, i64_w, i32_w]
          rfl
         refine take_ (i := 7) (N := some 78) (v := ?_) (a' := ?_) #[T, T, T, T, T, T, T, T, F, F] rfl rfl (take_ofW HT_.out HW_.out (by kernel_rfl)) (fun _ _ _ h => h) (Or.inl ⟨by rfl, ?_⟩) hHeld ?_ ?_
         rotate_left
         ·
          rintro w' ⟨s0, s1, s2⟩
          go_simp
          with_reducible rfl
         rotate_left
         ·
          simp only [ap, sa, sb, sc, i64_w, i32_w]
          rfl
         refine one_ (i := 8) (N := some 79) #[T, T, T, T, T, T, T, T, T, F] rfl rfl (one_of HT_.out (by kernel_rfl)) (by decide) (fun K hK => ?_)
         refine goes_ Tryd.func11 (by kernel_rfl) rfl #[.bool (rdOf false l2 x11_3)] (by rfl) rfl rfl aeq ?_
         with_reducible refine (plenumlaw19_bit.calls (rdOf false l2 x11_3) t550 t551 _ A34.out).mono ?_
         rintro e w39 ⟨rfl, hb⟩
         have HS0_ := (hb.cell (World.block_lt_of_cell? _ _ (hHeld.1))).trans (hHeld.1)
         have HS1_ := (hb.cell (World.block_lt_of_cell? _ _ (hHeld.2.1))).trans (hHeld.2.1)
         refine ⟨_, rfl, ?_⟩
         have n0_ := Aside0.mk (Kd.R_below (rr HO_7.out) hb)
         have n1_ := Aside0.mk (below_step bl hb)
         revert n0_ n1_; clear HO_7 HB; intro HO_7 HB
         (try clear hb)
         (try clear hb2)
         (try clear hk)
         (try clear hi)
         refine hK.out _ _ ⟨HS0_, HS1_, ((HB.out.cell (World.block_lt_of_cell? w _ hw549_0)).trans hw549_0)⟩ (fun hHeld => ?_)
         clear hK K
         refine norm_ (a' := ?_) ?_ ?_
         rotate_left
         ·
          show Act.put _ (some 79) _ = _
          simp only [ap, sa, sb, sc, i64_w, i32_w]
          rfl
         refine pure_ (i := 9) (N := some 80) (v := ?_) (a' := ?_) #[T, T, T, T, T, T, T, T, T, T] rfl rfl (any_of HT_.out (by kernel_rfl)) (fun _ _ _ h => h) (Or.inl ⟨by rfl, ?_⟩) ?_ ?_
         rotate_left
         ·
          intro w'
          go_simp
          with_reducible rfl
         rotate_left
         ·
          simp only [ap, sa, sb, sc, i64_w, i32_w]
          rfl
         refine done_ (done_of HT_.out (by kernel_rfl)) ?_
         have p552 : 0 ≤ (x11_3 : Int) := ode
         have q552 : x11_3 < (t544.length : Int) := ode
         obtain ⟨ad552, e552, hx552_0, hx552_1⟩ := at_T32 (Kd.R_reads' HO_7.out).2.2 x11_3 p552 q552
         obtain rfl : ad548 = ad552 := (by injection e552)
         replace p552 := eq_true p552
         replace q552 := eq_true q552
         try go_wp2
         go_roundg kj27
         case measure => have := HJ5.out; have := HJ14.out; have := HK3.out; have := HJ25.out; have := HJ27.out; omega
         case rel => exact ⟨(x9_3), (x10_3), (wrap64 (x11_3 + 1)), (by first | rfl | (simp; done) | (simp [*]; done)), (by first | rfl | (simp; done) | (simp [*]; done)), (by first | rfl | (simp; done) | (simp [*]; done)), H', ⟨by have := HJ5.out; have := HJ14.out; have := HK3.out; have := HJ25.out; have := HJ27.out; omega⟩, ⟨rr HO_7.out⟩, ⟨bl⟩⟩
        rw [if_neg c36] at H
        have c36b0 : (((rd_T32 t544 x11_3).f1) == x9_3) = false := beq_eq_false_iff_ne.mpr c36
        have c36b1 : (((rd_T32 t544 x11_3).f1) != x9_3) = true := bne_iff_ne.mpr c36
        have H' := Aside0.mk H
        clear H
        try go_wp2
        have n0_ := Aside0.mk (Kd.R_drew HO_7.out)
        have n1_ := Aside0.mk (below_drew1 HB.out)
        revert n0_ n1_; clear HO_7 HB; intro HO_7 HB
        obtain ⟨Ao41, co41, eo41⟩ := Kd.R_slice HO_7.out
        (first | subst eo41 | (injection eo41 with f1_ f2_ f3_; have f4_ := f1_.symm; have f5_ := f3_.symm; clear f1_ f2_ f3_; subst f4_; subst f5_))
        have p548 : 0 ≤ (x11_3 : Int) := ode
        have q548 : x11_3 < (t544.length : Int) := ode
        obtain ⟨ad548, e548, hx548_0, hx548_1⟩ := at_T32 (Kd.R_reads' HO_7.out).2.2 x11_3 p548 q548
        cases e548
        replace p548 := eq_true p548
        replace q548 := eq_true q548
        have p549 : 0 ≤ (x11_3 : Int) := ode
        have q549 : x11_3 < (l2.length : Int) := ode
        obtain ⟨ad549, e549, hx549_0⟩ := Kd.at_bool HR2.out x11_3 p549 q549
        have hw549_0 := hx549_0
        cases e549
        replace hx549_0 := (HB.out.cell (World.block_lt_of_cell? w _ hx549_0)).trans hx549_0
        replace p549 := eq_true p549
        replace q549 := eq_true q549
        refine start_ (n := 10) (S := fun w' => w'.cell? (ad548.add ((x11_3).toNat * 2)) = some (.int .i64 ((rd_T32 t544 x11_3).f0)) ∧ w'.cell? ⟨(ad548.add ((x11_3).toNat * 2)).block, (ad548.add ((x11_3).toNat * 2)).off + 1, none⟩ = some (.int .i64 ((rd_T32 t544 x11_3).f1)) ∧ w'.cell? (ad549.add (x11_3).toNat) = some (.bool (rdOf false l2 x11_3))) (ds := []) #[F, F, F, F, F, F, F, F, F, F] (by kernel_rfl) rfl rfl ⟨hx548_0, hx548_1, ((HB.out.cell (World.block_lt_of_cell? w _ hw549_0)).trans hw549_0)⟩ (fun hHeld => ?_); refine with_tabW plenumlaw19_TimerRest.tab16 plenumlaw19_TimerRest.bits16 (fun HT_ HW_ => ?_)
        generalize wc.drew = w40 at HO_7 HB hx548_0 hx548_1 hx549_0 hHeld ⊢
        refine pure_ (i := 0) (N := some 71) (v := ?_) (a' := ?_) #[T, F, F, F, F, F, F, F, F, F] rfl rfl (any_of HT_.out (by kernel_rfl)) (fun _ _ _ h => h) (Or.inl ⟨by rfl, ?_⟩) ?_ ?_
        rotate_left
        ·
         intro w'
         go_simp
         with_reducible rfl
        rotate_left
        ·
         simp only [ap, sa, sb, sc, i64_w, i32_w]
         rfl
        refine pure_ (i := 1) (N := some 72) (v := ?_) (a' := ?_) #[T, T, F, F, F, F, F, F, F, F] rfl rfl (any_of HT_.out (by kernel_rfl)) (fun _ _ _ h => h) (Or.inl ⟨by rfl, ?_⟩) ?_ ?_
        rotate_left
        ·
         intro w'
         go_simp
         with_reducible rfl
        rotate_left
        ·
         simp only [ap, sa, sb, sc, i64_w, i32_w]
         rfl
        refine pure_ (i := 2) (N := some 73) (v := ?_) (a' := ?_) #[T, T, T, F, F, F, F, F, F, F] rfl rfl (any_of HT_.out (by kernel_rfl)) (fun _ _ _ h => h) (Or.inl ⟨by rfl, ?_⟩) ?_ ?_
        rotate_left
        ·
         intro w'
         go_simp
         with_reducible rfl
        rotate_left
        ·
         simp only [ap, sa, sb, sc, i64_w, i32_w]
         rfl
        refine pure_ (i := 4) (N := some 75) (v := ?_) (a' := ?_) #[T, T, T, F, T, F, F, F, F, F] rfl rfl (any_of HT_.out (by kernel_rfl)) (fun _ _ _ h => h) (Or.inl ⟨by rfl, ?_⟩) ?_ ?_
        rotate_left
        ·
         intro w'
         go_simp
         with_reducible rfl
        rotate_left
        ·
         simp only [ap, sa, sb, sc, i64_w, i32_w]
         rfl
        refine pure_ (i := 5) (N := some 76) (v := ?_) (a' := ?_) #[T, T, T, F, T, T, F, F, F, F] rfl rfl (any_of HT_.out (by kernel_rfl)) (fun _ _ _ h => h) (Or.inl ⟨by rfl, ?_⟩) ?_ ?_
        rotate_left
        ·
         intro w'
         go_simp
         with_reducible rfl
        rotate_left
        ·
         simp only [ap, sa, sb, sc, i64_w, i32_w]
         rfl
        refine pure_ (i := 6) (N := some 77) (v := ?_) (a' := ?_) #[T, T, T, F, T, T, T, F, F, F] rfl rfl (any_of HT_.out (by kernel_rfl)) (fun _ _ _ h => h) (Or.inl ⟨by rfl, ?_⟩) ?_ ?_
        rotate_left
        ·
         intro w'
         go_simp
         with_reducible rfl
        rotate_left
        ·
         simp only [ap, sa, sb, sc, i64_w, i32_w]
         rfl
        refine take_ (i := 3) (N := some 74) (v := ?_) (a' := ?_) #[T, T, T, T, T, T, T, F, F, F] rfl rfl (take_ofW HT_.out HW_.out (by kernel_rfl)) (fun _ _ _ h => h) (Or.inl ⟨by rfl, ?_⟩) hHeld ?_ ?_
        rotate_left
        ·
         rintro w' ⟨s0, s1, s2⟩
         go_simp
         with_reducible rfl
        rotate_left
        ·
         simp only [ap, sa, sb, sc, i64_w, i32_w]
         rfl
        refine take_ (i := 7) (N := some 78) (v := ?_) (a' := ?_) #[T, T, T, T, T, T, T, T, F, F] rfl rfl (take_ofW HT_.out HW_.out (by kernel_rfl)) (fun _ _ _ h => h) (Or.inl ⟨by rfl, ?_⟩) hHeld ?_ ?_
        rotate_left
        ·
         rintro w' ⟨s0, s1, s2⟩
         go_simp
         with_reducible rfl
        rotate_left
        ·
         simp only [ap, sa, sb, sc, i64_w, i32_w]
         rfl
        refine one_ (i := 8) (N := some 79) #[T, T, T, T, T, T, T, T, T, F] rfl rfl (one_of HT_.out (by kernel_rfl)) (by decide) (fun K hK => ?_)
        refine goes_ Tryd.func11 (by kernel_rfl) rfl #[.bool (rdOf false l2 x11_3)] (by rfl) rfl rfl aeq ?_
        with_reducible refine (plenumlaw19_bit.calls (rdOf false l2 x11_3) t550 t551 _ A34.out).mono ?_
        rintro e w42 ⟨rfl, hb⟩
        have HS0_ := (hb.cell (World.block_lt_of_cell? _ _ (hHeld.1))).trans (hHeld.1)
        have HS1_ := (hb.cell (World.block_lt_of_cell? _ _ (hHeld.2.1))).trans (hHeld.2.1)
        refine ⟨_, rfl, ?_⟩
        have n0_ := Aside0.mk (Kd.R_below (rr HO_7.out) hb)
        have n1_ := Aside0.mk (below_step bl hb)
        revert n0_ n1_; clear HO_7 HB; intro HO_7 HB
        (try clear hb)
        (try clear hb2)
        (try clear hk)
        (try clear hi)
        refine hK.out _ _ ⟨HS0_, HS1_, ((HB.out.cell (World.block_lt_of_cell? w _ hw549_0)).trans hw549_0)⟩ (fun hHeld => ?_)
        clear hK K
        refine norm_ (a' := ?_) ?_ ?_
        rotate_left
        ·
         show Act.put _ (some 79) _ = _
         simp only [ap, sa, sb, sc, i64_w, i32_w]
         rfl
        refine pure_ (i := 9) (N := some 80) (v := ?_) (a' := ?_) #[T, T, T, T, T, T, T, T, T, T] rfl rfl (any_of HT_.out (by kernel_rfl)) (fun _ _ _ h => h) (Or.inl ⟨by rfl, ?_⟩) ?_ ?_
        rotate_left
        ·
         intro w'
         go_simp
         with_reducible rfl
        rotate_left
        ·
         simp only [ap, sa, sb, sc, i64_w, i32_w]
         rfl
        refine done_ (done_of HT_.out (by kernel_rfl)) ?_
        have p552 : 0 ≤ (x11_3 : Int) := ode
        have q552 : x11_3 < (t544.length : Int) := ode
        obtain ⟨ad552, e552, hx552_0, hx552_1⟩ := at_T32 (Kd.R_reads' HO_7.out).2.2 x11_3 p552 q552
        obtain rfl : ad548 = ad552 := (by injection e552)
        replace p552 := eq_true p552
        replace q552 := eq_true q552
        have p553 : 0 ≤ (x11_3 : Int) := ode
        have q553 : x11_3 < (t544.length : Int) := ode
        obtain ⟨ad553, e553, hx553_0, hx553_1⟩ := at_T32 (Kd.R_reads' HO_7.out).2.2 x11_3 p553 q553
        obtain rfl : ad548 = ad553 := (by injection e553)
        replace p553 := eq_true p553
        replace q553 := eq_true q553
        try go_wp2
        go_roundg kj27
        case measure => have := HJ5.out; have := HJ14.out; have := HK3.out; have := HJ25.out; have := HJ27.out; omega
        case rel => exact ⟨((rd_T32 t544 x11_3).f1), (x11_3), (wrap64 (x11_3 + 1)), (by first | rfl | (simp; done) | (simp [*]; done)), (by first | rfl | (simp; done) | (simp [*]; done)), (by first | rfl | (simp; done) | (simp [*]; done)), H', ⟨by have := HJ5.out; have := HJ14.out; have := HK3.out; have := HJ25.out; have := HJ27.out; omega⟩, ⟨rr HO_7.out⟩, ⟨bl⟩⟩
 ·
  replace c5 := Bool.eq_false_iff.mpr c5
  subst c5
  rw [if_neg (show ¬ (false = true) by decide)] at H
  exact absurd H (by simp)

end Go.Proofs.YtjjbdgngncgikaaDoor.R
