-- Written by this claim's own program out of the translation; not trusted: Lean checks it.
import Derived.Test.YtjjbdgngncgikaaDoorRx0
import Derived.Test.YtjjbdgngncgikaaDoorRx1
import Derived.Test.YtjjbdgngncgikaaDoorRx19
import Derived.Test.YtjjbdgngncgikaaDoorRx20
import Derived.Test.YtjjbdgngncgikaaDoorRx25
namespace Go.Proofs.YtjjbdgngncgikaaDoor.R
open Go.RowKit Go.Proofs.YtjjbdgngncgikaaDoorW.PrintWords Go.Proofs.YtjjbdgngncgikaaDoorW.PrintLast Go.Proofs.YtjjbdgngncgikaaDoorW.PrintMore
attribute [local go_sem] max2_int min2_int max_two min_two max_three min_three max_four min_four   -- for this text's walks alone
set_option linter.unusedVariables false
set_option linter.unusedSimpArgs false

attribute [local go_sem high] eqA32
/-! ### plenumlaw19_TimerHolds: function 7 -/
mutual
def plenumlaw19_TimerHolds.j0 : Nat → Int → Int → List Int → Int → Bool → Option (Bool)
 | 0, _, _, _, _, _ => none
 | k + 1, x0, x1, x2, x3, x44 => if x44 = true then (some true) else (plenumlaw19_TimerHolds.l0 k x0 x1 x2 x3 (([] : List (List (S32)))) 0)
def plenumlaw19_TimerHolds.l0 : Nat → Int → Int → List Int → Int → List (List (S32)) → Int → Option (Bool)
 | 0, _, _, _, _, _, _ => none
 | k + 1, x0, x1, x2, x3, x9, x10 => if x10 < (x2.length : Int) then (if 0 ≤ x10 then (if x9.length < 5864062014805 then (plenumlaw19_TimerHolds.l0 k x0 x1 x2 x3 (x9 ++ [(([(⟨1, rd x2 x10⟩ : S32)] : List (S32)))]) (wrap64 (x10 + 1))) else (none)) else (none)) else ((timer_Run.f k (⟨#[104, 121, 115, 116]⟩ : ByteArray) (([x0, x1] : List Int)) x9 x3).bind fun bt616 => (if bt616.2 = 0 then (plenumlaw19_TimerHolds.j2 k x0 x1 x2 bt616.1 ((bt616.1.length : Int) != (x2.length : Int))) else (plenumlaw19_TimerHolds.j2 k x0 x1 x2 bt616.1 true)))
def plenumlaw19_TimerHolds.j2 : Nat → Int → Int → List Int → List (S32) → Bool → Option (Bool)
 | 0, _, _, _, _, _ => none
 | k + 1, x0, x1, x2, x11, x78 => if x78 = true then (none) else (plenumlaw19_TimerHolds.l1 k x0 x1 x2 x11 false 0)
def plenumlaw19_TimerHolds.l1 : Nat → Int → Int → List Int → List (S32) → Bool → Int → Option (Bool)
 | 0, _, _, _, _, _, _ => none
 | k + 1, x0, x1, x2, x11, x13, x14 => if x14 < (x2.length : Int) then (if 0 ≤ x14 then (if (rd x2 x14) > x0 then (plenumlaw19_TimerHolds.j4 k x0 x1 x2 x11 true x14) else (plenumlaw19_TimerHolds.j4 k x0 x1 x2 x11 x13 x14)) else (none)) else (some true)
def plenumlaw19_TimerHolds.j4 : Nat → Int → Int → List Int → List (S32) → Bool → Int → Option (Bool)
 | 0, _, _, _, _, _, _ => none
 | k + 1, x0, x1, x2, x11, x13, x14 => if 0 ≤ x14 then (if x14 < (x2.length : Int) then (if (rd x2 x14) < x1 then (if x14 < (x11.length : Int) then ((plenumlaw19_bit.f false).bind fun bt623 => (if (!(((rd_T32 x11 x14).f0) == bt623.1) || (!(((rd_T32 x11 x14).f1) == bt623.2))) = true then (none) else (plenumlaw19_TimerHolds.l1 k x0 x1 x2 x11 false (wrap64 (x14 + 1))))) else (none)) else (if x14 < (x11.length : Int) then ((plenumlaw19_bit.f x13).bind fun bt626 => (if (!(((rd_T32 x11 x14).f0) == bt626.1) || (!(((rd_T32 x11 x14).f1) == bt626.2))) = true then (none) else (plenumlaw19_TimerHolds.l1 k x0 x1 x2 x11 x13 (wrap64 (x14 + 1))))) else (none))) else (none)) else (none)
end
def plenumlaw19_TimerHolds.f (k : Nat) (a0 : Int) (a1 : Int) (l2 : List Int) (a3 : Int) : Option (Bool) := (plenumlaw19_awake.f k).bind fun t602 => (if t602 = true then (if (l2.length : Int) > 80 then (plenumlaw19_TimerHolds.j0 k a0 a1 l2 a3 true) else (if a3 < 1 then (plenumlaw19_TimerHolds.j0 k a0 a1 l2 a3 true) else (if a3 > 1000 then (plenumlaw19_TimerHolds.j0 k a0 a1 l2 a3 true) else (if a0 < (-1000000000000) then (plenumlaw19_TimerHolds.j0 k a0 a1 l2 a3 true) else (if a0 > 1000000000000 then (plenumlaw19_TimerHolds.j0 k a0 a1 l2 a3 true) else (if a1 < (-1000000000000) then (plenumlaw19_TimerHolds.j0 k a0 a1 l2 a3 true) else (plenumlaw19_TimerHolds.j0 k a0 a1 l2 a3 (decide (a1 ≥ a0))))))))) else (none))
theorem plenumlaw19_TimerHolds.mono_l : ∀ k, (∀ y0 y1 y2 y3 y4, LeO (plenumlaw19_TimerHolds.j0 k y0 y1 y2 y3 y4) (plenumlaw19_TimerHolds.j0 (k + 1) y0 y1 y2 y3 y4)) ∧ (∀ y0 y1 y2 y3 y4 y5, LeO (plenumlaw19_TimerHolds.l0 k y0 y1 y2 y3 y4 y5) (plenumlaw19_TimerHolds.l0 (k + 1) y0 y1 y2 y3 y4 y5)) ∧ (∀ y0 y1 y2 y3 y4, LeO (plenumlaw19_TimerHolds.j2 k y0 y1 y2 y3 y4) (plenumlaw19_TimerHolds.j2 (k + 1) y0 y1 y2 y3 y4)) ∧ (∀ y0 y1 y2 y3 y4 y5, LeO (plenumlaw19_TimerHolds.l1 k y0 y1 y2 y3 y4 y5) (plenumlaw19_TimerHolds.l1 (k + 1) y0 y1 y2 y3 y4 y5)) ∧ (∀ y0 y1 y2 y3 y4 y5, LeO (plenumlaw19_TimerHolds.j4 k y0 y1 y2 y3 y4 y5) (plenumlaw19_TimerHolds.j4 (k + 1) y0 y1 y2 y3 y4 y5))
 | 0 => ⟨fun _ _ _ _ _ r h => by simp [plenumlaw19_TimerHolds.j0] at h, fun _ _ _ _ _ _ r h => by simp [plenumlaw19_TimerHolds.l0] at h, fun _ _ _ _ _ r h => by simp [plenumlaw19_TimerHolds.j2] at h, fun _ _ _ _ _ _ r h => by simp [plenumlaw19_TimerHolds.l1] at h, fun _ _ _ _ _ _ r h => by simp [plenumlaw19_TimerHolds.j4] at h⟩
 | k + 1 => by
  obtain ⟨ih0, ih1, ih2, ih3, ih4⟩ := plenumlaw19_TimerHolds.mono_l k
  refine ⟨?_, ?_, ?_, ?_, ?_⟩
  ·
   intro y0 y1 y2 y3 y4
   unfold plenumlaw19_TimerHolds.j0
   repeat' first
   | (with_reducible exact ih0 _ _ _ _ _)
   | (with_reducible exact ih1 _ _ _ _ _ _)
   | (with_reducible exact ih2 _ _ _ _ _)
   | (with_reducible exact ih3 _ _ _ _ _ _)
   | (with_reducible exact ih4 _ _ _ _ _ _)
   | (with_reducible exact plenumlaw19_awake.mono _)
   | (with_reducible exact timer_Run.mono _ _ _ _ _)
   | (with_reducible exact LeO.refl _)
   | (with_reducible exact LeO.none _)
   | (with_reducible refine LeO.ite ?_ ?_)
   | (with_reducible refine LeO.bind ?_ (fun _ => ?_))
   | exact ih0 _ _ _ _ _
   | exact ih1 _ _ _ _ _ _
   | exact ih2 _ _ _ _ _
   | exact ih3 _ _ _ _ _ _
   | exact ih4 _ _ _ _ _ _
   | exact plenumlaw19_awake.mono _
   | exact timer_Run.mono _ _ _ _ _
   | exact LeO.none _
   | refine LeO.ite ?_ ?_
   | refine LeO.bind ?_ (fun _ => ?_)
  ·
   intro y0 y1 y2 y3 y4 y5
   unfold plenumlaw19_TimerHolds.l0
   repeat' first
   | (with_reducible exact ih0 _ _ _ _ _)
   | (with_reducible exact ih1 _ _ _ _ _ _)
   | (with_reducible exact ih2 _ _ _ _ _)
   | (with_reducible exact ih3 _ _ _ _ _ _)
   | (with_reducible exact ih4 _ _ _ _ _ _)
   | (with_reducible exact plenumlaw19_awake.mono _)
   | (with_reducible exact timer_Run.mono _ _ _ _ _)
   | (with_reducible exact LeO.refl _)
   | (with_reducible exact LeO.none _)
   | (with_reducible refine LeO.ite ?_ ?_)
   | (with_reducible refine LeO.bind ?_ (fun _ => ?_))
   | exact ih0 _ _ _ _ _
   | exact ih1 _ _ _ _ _ _
   | exact ih2 _ _ _ _ _
   | exact ih3 _ _ _ _ _ _
   | exact ih4 _ _ _ _ _ _
   | exact plenumlaw19_awake.mono _
   | exact timer_Run.mono _ _ _ _ _
   | exact LeO.none _
   | refine LeO.ite ?_ ?_
   | refine LeO.bind ?_ (fun _ => ?_)
  ·
   intro y0 y1 y2 y3 y4
   unfold plenumlaw19_TimerHolds.j2
   repeat' first
   | (with_reducible exact ih0 _ _ _ _ _)
   | (with_reducible exact ih1 _ _ _ _ _ _)
   | (with_reducible exact ih2 _ _ _ _ _)
   | (with_reducible exact ih3 _ _ _ _ _ _)
   | (with_reducible exact ih4 _ _ _ _ _ _)
   | (with_reducible exact plenumlaw19_awake.mono _)
   | (with_reducible exact timer_Run.mono _ _ _ _ _)
   | (with_reducible exact LeO.refl _)
   | (with_reducible exact LeO.none _)
   | (with_reducible refine LeO.ite ?_ ?_)
   | (with_reducible refine LeO.bind ?_ (fun _ => ?_))
   | exact ih0 _ _ _ _ _
   | exact ih1 _ _ _ _ _ _
   | exact ih2 _ _ _ _ _
   | exact ih3 _ _ _ _ _ _
   | exact ih4 _ _ _ _ _ _
   | exact plenumlaw19_awake.mono _
   | exact timer_Run.mono _ _ _ _ _
   | exact LeO.none _
   | refine LeO.ite ?_ ?_
   | refine LeO.bind ?_ (fun _ => ?_)
  ·
   intro y0 y1 y2 y3 y4 y5
   unfold plenumlaw19_TimerHolds.l1
   repeat' first
   | (with_reducible exact ih0 _ _ _ _ _)
   | (with_reducible exact ih1 _ _ _ _ _ _)
   | (with_reducible exact ih2 _ _ _ _ _)
   | (with_reducible exact ih3 _ _ _ _ _ _)
   | (with_reducible exact ih4 _ _ _ _ _ _)
   | (with_reducible exact plenumlaw19_awake.mono _)
   | (with_reducible exact timer_Run.mono _ _ _ _ _)
   | (with_reducible exact LeO.refl _)
   | (with_reducible exact LeO.none _)
   | (with_reducible refine LeO.ite ?_ ?_)
   | (with_reducible refine LeO.bind ?_ (fun _ => ?_))
   | exact ih0 _ _ _ _ _
   | exact ih1 _ _ _ _ _ _
   | exact ih2 _ _ _ _ _
   | exact ih3 _ _ _ _ _ _
   | exact ih4 _ _ _ _ _ _
   | exact plenumlaw19_awake.mono _
   | exact timer_Run.mono _ _ _ _ _
   | exact LeO.none _
   | refine LeO.ite ?_ ?_
   | refine LeO.bind ?_ (fun _ => ?_)
  ·
   intro y0 y1 y2 y3 y4 y5
   unfold plenumlaw19_TimerHolds.j4
   repeat' first
   | (with_reducible exact ih0 _ _ _ _ _)
   | (with_reducible exact ih1 _ _ _ _ _ _)
   | (with_reducible exact ih2 _ _ _ _ _)
   | (with_reducible exact ih3 _ _ _ _ _ _)
   | (with_reducible exact ih4 _ _ _ _ _ _)
   | (with_reducible exact plenumlaw19_awake.mono _)
   | (with_reducible exact timer_Run.mono _ _ _ _ _)
   | (with_reducible exact LeO.refl _)
   | (with_reducible exact LeO.none _)
   | (with_reducible refine LeO.ite ?_ ?_)
   | (with_reducible refine LeO.bind ?_ (fun _ => ?_))
   | exact ih0 _ _ _ _ _
   | exact ih1 _ _ _ _ _ _
   | exact ih2 _ _ _ _ _
   | exact ih3 _ _ _ _ _ _
   | exact ih4 _ _ _ _ _ _
   | exact plenumlaw19_awake.mono _
   | exact timer_Run.mono _ _ _ _ _
   | exact LeO.none _
   | refine LeO.ite ?_ ?_
   | refine LeO.bind ?_ (fun _ => ?_)
theorem plenumlaw19_TimerHolds.mono : ∀ a0 a1 a2 a3 k, LeO (plenumlaw19_TimerHolds.f k a0 a1 a2 a3) (plenumlaw19_TimerHolds.f (k + 1) a0 a1 a2 a3) := by
 intro a0 a1 a2 a3 k
 obtain ⟨ih0, ih1, ih2, ih3, ih4⟩ := plenumlaw19_TimerHolds.mono_l k
 unfold plenumlaw19_TimerHolds.f
 repeat' first
   | (with_reducible exact ih0 _ _ _ _ _)
   | (with_reducible exact ih1 _ _ _ _ _ _)
   | (with_reducible exact ih2 _ _ _ _ _)
   | (with_reducible exact ih3 _ _ _ _ _ _)
   | (with_reducible exact ih4 _ _ _ _ _ _)
   | (with_reducible exact plenumlaw19_awake.mono _)
   | (with_reducible exact timer_Run.mono _ _ _ _ _)
   | (with_reducible exact LeO.refl _)
   | (with_reducible exact LeO.none _)
   | (with_reducible refine LeO.ite ?_ ?_)
   | (with_reducible refine LeO.bind ?_ (fun _ => ?_))
   | exact ih0 _ _ _ _ _
   | exact ih1 _ _ _ _ _ _
   | exact ih2 _ _ _ _ _
   | exact ih3 _ _ _ _ _ _
   | exact ih4 _ _ _ _ _ _
   | exact plenumlaw19_awake.mono _
   | exact timer_Run.mono _ _ _ _ _
   | exact LeO.none _
   | refine LeO.ite ?_ ?_
   | refine LeO.bind ?_ (fun _ => ?_)
set_option maxHeartbeats 8000000 in
set_option maxRecDepth 100000 in
theorem plenumlaw19_TimerHolds.calls (k : Nat) (a0 : Int) (a1 : Int) (A2 : Option Addr) (c2 : Nat) (l2 : List Int) (a3 : Int) (r : Bool) (w : World) (hr2 : Kd.C (Kd.int .i64) w A2 l2.length l2) (hc2 : l2.length ≤ c2) (hG : GW w) (h : plenumlaw19_TimerHolds.f k a0 a1 l2 a3 = some r) :
  Calls Tryd.prog 7 #[.int .i64 a0, .int .i64 a1, .slice A2 l2.length c2, .int .i64 a3] w fun e w' => e = .returned (.bool r) ∧ Below w.heap.size w w' := by
 have hu32 := Tryd.underlying32
 have HG := Aside0.mk hG
 clear hG
 have HR2 := Aside0.mk hr2
 have HC2 := Aside0.mk hc2
 clear hr2 hc2
 have HB := Aside0.mk (Below.refl w.heap.size w)
 have H : ((plenumlaw19_awake.f k).bind fun t602 => (if t602 = true then (if (l2.length : Int) > 80 then (plenumlaw19_TimerHolds.j0 k a0 a1 l2 a3 true) else (if a3 < 1 then (plenumlaw19_TimerHolds.j0 k a0 a1 l2 a3 true) else (if a3 > 1000 then (plenumlaw19_TimerHolds.j0 k a0 a1 l2 a3 true) else (if a0 < (-1000000000000) then (plenumlaw19_TimerHolds.j0 k a0 a1 l2 a3 true) else (if a0 > 1000000000000 then (plenumlaw19_TimerHolds.j0 k a0 a1 l2 a3 true) else (if a1 < (-1000000000000) then (plenumlaw19_TimerHolds.j0 k a0 a1 l2 a3 true) else (plenumlaw19_TimerHolds.j0 k a0 a1 l2 a3 (decide (a1 ≥ a0))))))))) else (none))) = some r := h
 clear h
 replace H := Option.bind_eq_some_iff.mp H
 obtain ⟨t602, A50, H⟩ := H
 (try dsimp only at H)
 have A5 := Aside0.mk A50
 clear A50
 by_cases c6 : t602 = true
 ·
  subst c6
  rw [if_pos rfl] at H
  have HC7 := Aside0.mk H
  clear H
  go_enter Tryd.func7, Tryd.ntmps7
  go_upto_region 3 with (first | ((with_reducible refine gate_callee (f := 8) rfl ?_); refine goesL_ (some 15) rfl rfl Tryd.func8 (by kernel_rfl) rfl #[] rfl aeq ?_; (with_reducible refine (plenumlaw19_awake.calls k  true _ ?side1 A5.out).mono ?_); (case side1 => exact GW.below HG.out bl); rintro e w8 ⟨rfl, hb⟩; refine ⟨_, rfl, ?_⟩; have n0_ := Aside0.mk (below_step bl hb); revert n0_; clear HB; intro HB; (try clear hb); (try clear hb2); (try clear hk); (try clear hi)))
  (try simp only [ap, sa, sb, sc])
  go_cut [44] (fun v44 wc => ∃ (kq : Nat) (x44_6 : Bool), v44 = .bool x44_6 ∧ Aside0 (plenumlaw19_TimerHolds.j0 kq a0 a1 l2 a3 x44_6 = some r) ∧ Aside0 (kq ≤ k) ∧ Aside0 (Below w.heap.size w wc))
  case first =>
   have H := HC7.out
   clear HC7
   by_cases c9 : (l2.length : Int) > 80
   ·
    rw [if_pos c9] at H
    have c9b0 : decide (80 < (l2.length : Int)) = true := decide_eq_true c9
    have c9b1 : decide (80 < l2.length) = true := decide_eq_true (by omega)
    clear c9
    (first | rw [c9b0] | (simp only [i64_w, i32_w]; rw [c9b0]) | skip)
    have H' := Aside0.mk H
    clear H
    go_wp2
    go_meet
    case rel => exact ⟨_, (true), (by first | rfl | (simp; done) | (simp [*]; done)), H', ⟨by first | omega | exact Nat.le_refl _⟩, ⟨bl⟩⟩
   rw [if_neg c9] at H
   have c9b0 : decide (80 < (l2.length : Int)) = false := decide_eq_false c9
   have c9b1 : decide (80 < l2.length) = false := decide_eq_false (by omega)
   clear c9
   (first | rw [c9b0] | (simp only [i64_w, i32_w]; rw [c9b0]) | skip)
   by_cases c10 : a3 < 1
   ·
    rw [if_pos c10] at H
    have c10b0 : decide (a3 < 1) = true := decide_eq_true c10
    clear c10
    have H' := Aside0.mk H
    clear H
    go_wp2
    go_meet
    case rel => exact ⟨_, (true), (by first | rfl | (simp; done) | (simp [*]; done)), H', ⟨by first | omega | exact Nat.le_refl _⟩, ⟨bl⟩⟩
   rw [if_neg c10] at H
   have c10b0 : decide (a3 < 1) = false := decide_eq_false c10
   clear c10
   by_cases c11 : a3 > 1000
   ·
    rw [if_pos c11] at H
    have c11b0 : decide (1000 < a3) = true := decide_eq_true c11
    clear c11
    have H' := Aside0.mk H
    clear H
    go_wp2
    go_meet
    case rel => exact ⟨_, (true), (by first | rfl | (simp; done) | (simp [*]; done)), H', ⟨by first | omega | exact Nat.le_refl _⟩, ⟨bl⟩⟩
   rw [if_neg c11] at H
   have c11b0 : decide (1000 < a3) = false := decide_eq_false c11
   clear c11
   by_cases c12 : a0 < (-1000000000000)
   ·
    rw [if_pos c12] at H
    have c12b0 : decide (a0 < (-1000000000000)) = true := decide_eq_true c12
    clear c12
    have H' := Aside0.mk H
    clear H
    go_wp2
    go_meet
    case rel => exact ⟨_, (true), (by first | rfl | (simp; done) | (simp [*]; done)), H', ⟨by first | omega | exact Nat.le_refl _⟩, ⟨bl⟩⟩
   rw [if_neg c12] at H
   have c12b0 : decide (a0 < (-1000000000000)) = false := decide_eq_false c12
   clear c12
   by_cases c13 : a0 > 1000000000000
   ·
    rw [if_pos c13] at H
    have c13b0 : decide (1000000000000 < a0) = true := decide_eq_true c13
    clear c13
    have H' := Aside0.mk H
    clear H
    go_wp2
    go_meet
    case rel => exact ⟨_, (true), (by first | rfl | (simp; done) | (simp [*]; done)), H', ⟨by first | omega | exact Nat.le_refl _⟩, ⟨bl⟩⟩
   rw [if_neg c13] at H
   have c13b0 : decide (1000000000000 < a0) = false := decide_eq_false c13
   clear c13
   by_cases c14 : a1 < (-1000000000000)
   ·
    rw [if_pos c14] at H
    have c14b0 : decide (a1 < (-1000000000000)) = true := decide_eq_true c14
    clear c14
    have H' := Aside0.mk H
    clear H
    go_wp2
    go_meet
    case rel => exact ⟨_, (true), (by first | rfl | (simp; done) | (simp [*]; done)), H', ⟨by first | omega | exact Nat.le_refl _⟩, ⟨bl⟩⟩
   rw [if_neg c14] at H
   have c14b0 : decide (a1 < (-1000000000000)) = false := decide_eq_false c14
   clear c14
   have H' := Aside0.mk H
   clear H
   go_wp2
   go_meet
   case rel => exact ⟨_, (decide (a1 ≥ a0)), (by first | rfl | (simp; done) | (simp [*]; done)), H', ⟨by first | omega | exact Nat.le_refl _⟩, ⟨bl⟩⟩
  clear HC7
  try clear c1
  try clear c2
  try clear p2
  try clear c6
  try clear c7
  try clear c8
  try clear c9
  try clear c9b0
  try clear c9b1
  try clear c10
  try clear c10b0
  try clear c11
  try clear c11b0
  try clear c12
  try clear c12b0
  try clear c13
  try clear c13b0
  try clear c14
  try clear c14b0
  obtain ⟨kq, x44_6, rfl, HA, HJ6, HB⟩ := hcut
  cases kq with
  | zero => exact absurd HA.out (by simp [plenumlaw19_TimerHolds.j0])
  | succ kj6 =>
   have H := HA.out
   clear HA
   simp only [plenumlaw19_TimerHolds.j0] at H
   by_cases c15 : x44_6 = true
   ·
    subst c15
    rw [if_pos rfl] at H
    obtain rfl := Option.some.inj H
    go_wp2
    go_ret
    exact ⟨by first | rfl | (simp [errW_none, errW_some] <;> rfl) | (simp [*, errW_none, errW_some] <;> rfl), bl⟩
   replace c15 := Bool.eq_false_iff.mpr c15
   subst c15
   rw [if_neg (show ¬ (false = true) by decide)] at H
   obtain ⟨y603, hy603⟩ : ∃ y_ : List (List (S32)), y_ = (([] : List (List (S32)))) := ⟨_, rfl⟩
   replace H : (plenumlaw19_TimerHolds.l0 kj6 a0 a1 l2 a3 y603 0) = some r := by first | (rw [hy603]; with_reducible exact H) | (have H2_ := (Option.bind_some _ _).symm.trans H; rw [hy603]; with_reducible exact H2_) | (have H2_ := (Option.bind_some _ _).symm.trans H; with_reducible exact H2_) | with_reducible exact H | (rw [hy603]; exact H) | exact H
   have Ny603 := Aside0.mk hy603
   clear hy603
   have H' := Aside0.mk H
   clear H
   go_wp2_with (first | ((with_reducible refine gate_dst (N := 45) rfl ?_); (try (refine gate_guard (by rfl) ?_; dsimp only)); refine Kd.S_lit (Kd.slice 32 k32) _ 24 ?hg (N := 45) ?hd (xs := ([] : List (List (S32)))) (inner := []) (ok := fun _ => True) (okp := fun _ => True) ?hr ?hp (fun _ hk => hk) trivial (Below.refl _ _) (Nat.le_refl _) (by simp) ?_; (case hd => rfl); (case hg => rfl); (case hr => first | (go_simp; done) | (go_simp; rfl)); (case hp => exact (Reps.none _ _)); intro v604 w16 ho17 hb hg_ hnew_; clear hg_ hnew_; (first | rw [← Ny603.out] at ho17 | (simp only [Int.reduceToNat] at ho17; rw [← Ny603.out] at ho17)); have n0_ := Aside0.mk (Kd.S_lower ho17 (below_size bl)); have n1_ := Aside0.mk (below_step bl hb); revert n0_ n1_; clear HB; intro HO605 HB; clear hb ho17))
   go_loopg [9, 10] kj6 (fun kq v9 v10 w' => ∃ (x9_2 : List (List (S32))) (x10_2 : Int), v10 = .int .i64 x10_2 ∧ Aside0 (plenumlaw19_TimerHolds.l0 kq a0 a1 l2 a3 x9_2 x10_2 = some r) ∧ Aside0 (kq ≤ kj6) ∧ Aside0 (Kd.S (Kd.slice 32 k32) 24 w' w.heap.size (fun _ => True) v9 x9_2) ∧ Aside0 (Below w.heap.size w w'))
   case atStart => exact ⟨(y603), (0), (by first | rfl | (simp; done) | (simp [*]; done)), H', ⟨Nat.le_refl _⟩, ⟨rs HO605.out⟩, ⟨bl⟩⟩
   case round =>
    clear H'
    try clear c1
    try clear c2
    try clear p2
    try clear c6
    try clear c7
    try clear c8
    try clear c9
    try clear c9b0
    try clear c9b1
    try clear c10
    try clear c10b0
    try clear c11
    try clear c11b0
    try clear c12
    try clear c12b0
    try clear c13
    try clear c13b0
    try clear c14
    try clear c14b0
    try clear c15
    try clear p2
    obtain ⟨x9_2, x10_2, rfl, HA, HK2, HO_9, HB⟩ := hrel
    cases gk with
    | zero => exact absurd HA.out (by simp [plenumlaw19_TimerHolds.l0])
    | succ k2 =>
     have H := HA.out
     clear HA
     simp only [plenumlaw19_TimerHolds.l0] at H
     by_cases c18 : x10_2 < (l2.length : Int)
     ·
      rw [if_pos c18] at H
      have c18b0 : decide (x10_2 < (l2.length : Int)) = true := decide_eq_true c18
      clear c18
      by_cases c19 : 0 ≤ x10_2
      rotate_left
      ·
       rw [if_neg c19] at H
       exact absurd H (by simp)
      rw [if_pos c19] at H
      have c19b0 : decide (0 ≤ x10_2) = true := decide_eq_true c19
      clear c19
      obtain ⟨y607, hy607⟩ : ∃ y_ : List (S32), y_ = (([(⟨1, rd l2 x10_2⟩ : S32)] : List (S32))) := ⟨_, rfl⟩
      replace H : (if x9_2.length < 5864062014805 then (plenumlaw19_TimerHolds.l0 k2 a0 a1 l2 a3 (x9_2 ++ [y607]) (wrap64 (x10_2 + 1))) else (none)) = some r := by first | (rw [hy607]; with_reducible exact H) | (have H2_ := (Option.bind_some _ _).symm.trans H; rw [hy607]; with_reducible exact H2_) | (have H2_ := (Option.bind_some _ _).symm.trans H; with_reducible exact H2_) | with_reducible exact H | (rw [hy607]; exact H) | exact H
      have Ny607 := Aside0.mk hy607
      clear hy607
      by_cases c20 : x9_2.length < 5864062014805
      rotate_left
      ·
       rw [if_neg c20] at H
       exact absurd H (by simp)
      rw [if_pos c20] at H
      have LMc20 := Aside0.mk c20
      clear c20
      obtain ⟨y610, hy610⟩ : ∃ y_ : List (List (S32)), y_ = (x9_2 ++ [y607]) := ⟨_, rfl⟩
      replace H : (plenumlaw19_TimerHolds.l0 k2 a0 a1 l2 a3 y610 (wrap64 (x10_2 + 1))) = some r := by first | (rw [hy610]; with_reducible exact H) | (have H2_ := (Option.bind_some _ _).symm.trans H; rw [hy610]; with_reducible exact H2_) | (have H2_ := (Option.bind_some _ _).symm.trans H; with_reducible exact H2_) | with_reducible exact H | (rw [hy610]; exact H) | exact H
      have Ny610 := Aside0.mk hy610
      clear hy610
      have H' := Aside0.mk H
      clear H
      have p606 : 0 ≤ (x10_2 : Int) := ode
      have q606 : x10_2 < (l2.length : Int) := ode
      obtain ⟨ad606, e606, hx606_0⟩ := Kd.at_int HR2.out x10_2 p606 q606
      cases e606
      replace hx606_0 := (HB.out.cell (World.block_lt_of_cell? w _ hx606_0)).trans hx606_0
      replace p606 := eq_true p606
      replace q606 := eq_true q606
      go_wp2_with (first | ((with_reducible refine gate_dst (N := 58) rfl ?_); (try (refine gate_guard (by rfl) ?_; dsimp only)); refine Kd.R_lit k32 _ 32 ?hg (N := 58) ?hd (xs := ([(⟨1, rd l2 x10_2⟩ : S32)] : List (S32))) (inner := [.int .i64 1, .int .i64 (rd l2 x10_2)]) (ok := fun _ => True) (okp := fun _ => True) ?hr ?hp (fun _ hk => hk) trivial (Below.refl _ _) (Nat.le_refl _) (by simp) ?_; (case hd => rfl); (case hg => rfl); (case hr => first | (go_simp; done) | (go_simp; rfl)); (case hp => exact (Reps.c2 (show Kd.M k32 _ _ _ (⟨1, rd l2 x10_2⟩ : S32) [.int .i64 1, .int .i64 (rd l2 x10_2)] from (k32_mkM _ _ _ (⟨1, rd l2 x10_2⟩ : S32) )) (Reps.none _ _))); intro v608 w21 ho22 hb hg_ hnew_; clear hg_ hnew_; (first | rw [← Ny607.out] at ho22 | (simp only [Int.reduceToNat] at ho22; rw [← Ny607.out] at ho22)); have n0_ := Aside0.mk (Kd.S_elder' (rs HO_9.out) (Kd.R_base ho22) hb); have n1_ := Aside0.mk (Kd.R_lower ho22 (below_size bl)); have n2_ := Aside0.mk (below_step bl hb); revert n0_ n1_ n2_; clear HO_9 HB; intro HO_9 HO609 HB; clear hb ho22; obtain ⟨Ao24, co24, eo24⟩ := Kd.R_slice HO609.out; subst eo24) | ((with_reducible refine gate_builtin (b := .append) (xs := #[.tmp 52, .tmp 59]) rfl ?_); (try (refine gate_guard (by rfl) ?_; dsimp only)); at_builtin; refine Kd.S_append (Kd.slice 32 k32) (w0 := w) w.heap.size rfl (.tmp 52) (.tmp 59) 29 24 (.slice none 0 0) 24 rfl Tryd.underlying29 info24 rfl (by decide) (by omega) u9 x9_2 y607 [.slice Ao24 y607.length co24] (fun _ => True) (fun k_ => some k_ = (.slice Ao24 y607.length co24 : Value).ownBlock) rfl rfl ?aP (fun k_ hk_ => ((Kd.R_mono (ok' := fun k_ => ((fun _ => True)) k_ ∧ some k_ ≠ (u9 : Value).ownBlock) (Kd.R_apart' (HO609.out) (Kd.S_typed HO_9.out) (by decide)) (fun k_ hk => ⟨trivial, hk.2⟩))).1 k_ hk_.symm) ?aF ?aO ?aB ?aS ?aL ?_; (case aP => exact Kd.M_row (Kd.R_mono (Kd.R_tight rfl (Kd.R_mono (ok' := fun k_ => ((fun _ => True)) k_ ∧ some k_ ≠ (u9 : Value).ownBlock) (Kd.R_apart' (HO609.out) (Kd.S_typed HO_9.out) (by decide)) (fun k_ hk => ⟨trivial, hk.2⟩))) (fun _ h_ => h_))); (case aB => exact bl); (case aF => exact (fun _ _ => trivial)); (case aO => exact (by (with_reducible repeat (first | apply Kd.S_alloc | apply Kd.S_drewN | apply Kd.S_drew)); exact Kd.S_mono HO_9.out (fun k_ hk => ⟨trivial, fun e_ => hk.2 e_⟩))); (case aS => exact (below_size bl)); (case aL => have := LMc20.out; omega); intro v611 w23 ho hb hg hat; rw [← Ny610.out] at ho; have n0_ := Aside0.mk (hb); have n1_ := Aside0.mk (ho); revert n0_ n1_; clear HB HO_9 HO609; intro HB HO612; clear ho hb hg hat))
      go_roundg k2
      case measure => have := HJ6.out; have := HK2.out; omega
      case rel => exact ⟨(y610), (wrap64 (x10_2 + 1)), (by first | rfl | (simp; done) | (simp [*]; done)), H', ⟨by have := HJ6.out; have := HK2.out; omega⟩, ⟨rs HO612.out⟩, ⟨bl⟩⟩
     rw [if_neg c18] at H
     have c18b0 : decide (x10_2 < (l2.length : Int)) = false := decide_eq_false c18
     clear c18
     obtain ⟨y613, hy613⟩ : ∃ y_ : List Int, y_ = (([a0, a1] : List Int)) := ⟨_, rfl⟩
     replace H : ((timer_Run.f k2 (⟨#[104, 121, 115, 116]⟩ : ByteArray) y613 x9_2 a3).bind fun bt616 => (if bt616.2 = 0 then (plenumlaw19_TimerHolds.j2 k2 a0 a1 l2 bt616.1 ((bt616.1.length : Int) != (l2.length : Int))) else (plenumlaw19_TimerHolds.j2 k2 a0 a1 l2 bt616.1 true))) = some r := by first | (rw [hy613]; with_reducible exact H) | (have H2_ := (Option.bind_some _ _).symm.trans H; rw [hy613]; with_reducible exact H2_) | (have H2_ := (Option.bind_some _ _).symm.trans H; with_reducible exact H2_) | with_reducible exact H | (rw [hy613]; exact H) | exact H
     have Ny613 := Aside0.mk hy613
     clear hy613
     replace H := Option.bind_eq_some_iff.mp H
     obtain ⟨⟨t616, t617⟩, A250, H⟩ := H
     (try dsimp only at H)
     have A25 := Aside0.mk A250
     clear A250
     have HC26 := Aside0.mk H
     clear H
     go_upto_region 11 with (first | ((with_reducible refine gate_dst (N := 64) rfl ?_); (try (refine gate_guard (by rfl) ?_; dsimp only)); refine Kd.R_lit (Kd.int .i64) _ 2 ?hg (N := 64) ?hd (xs := ([a0, a1] : List Int)) (inner := [.int .i64 a0, .int .i64 a1]) (ok := fun _ => True) (okp := fun _ => True) ?hr ?hp (fun _ hk => hk) trivial (Below.refl _ _) (Nat.le_refl _) (by simp) ?_; (case hd => rfl); (case hg => rfl); (case hr => first | (go_simp; done) | (go_simp; rfl)); (case hp => exact (Reps.one (show Kd.M (Kd.int .i64) _ _ _ a0 [.int .i64 a0] from rfl) (Reps.one (show Kd.M (Kd.int .i64) _ _ _ a1 [.int .i64 a1] from rfl) (Reps.none _ _)))); intro v614 w27 ho28 hb hg_ hnew_; clear hg_ hnew_; (first | rw [← Ny613.out] at ho28 | (simp only [Int.reduceToNat] at ho28; rw [← Ny613.out] at ho28)); have n0_ := Aside0.mk (Kd.S_below (rs HO_9.out) hb); have n1_ := Aside0.mk (Kd.R_lower ho28 (below_size bl)); have n2_ := Aside0.mk (below_step bl hb); revert n0_ n1_ n2_; clear HO_9 HB; intro HO_9 HO615 HB; clear hb ho28; obtain ⟨Ao29, co29, eo29⟩ := Kd.R_slice HO615.out; subst eo29; obtain ⟨Ao30, co30, eo30⟩ := Kd.S_slice HO_9.out; subst eo30) | ((with_reducible refine gate_callee (f := 9) rfl ?_); refine goesL_ (some 67) rfl rfl Tryd.func9 (by kernel_rfl) rfl #[.string (⟨#[104, 121, 115, 116]⟩ : ByteArray), .slice Ao29 y613.length co29, .slice Ao30 x9_2.length co30, .int .i64 a3] rfl aeq ?_; (with_reducible refine (timer_Run.calls k2 (⟨#[104, 121, 115, 116]⟩ : ByteArray) _ _ y613 _ _ x9_2 a3 t616 t617 _ ?side1 ?side2 ?side3 ?side4 ?side5 A25.out).mono ?_); (case side1 => repeat (first | exact (Kd.R_reads' HO615.out).2.2 | (with_reducible refine Kd.C_alloc ?_ _) | (with_reducible refine Kd.C_drewN ?_ _) | (with_reducible refine Kd.C_drew ?_))); (case side2 => exact (Kd.R_reads' HO615.out).2.1); (case side3 => repeat (first | exact (Kd.S_reads' HO_9.out).2.2 | (with_reducible refine Kd.C_alloc ?_ _) | (with_reducible refine Kd.C_drewN ?_ _) | (with_reducible refine Kd.C_drew ?_))); (case side4 => exact (Kd.S_reads' HO_9.out).2.1); (case side5 => exact GW.below HG.out bl); rintro e w31 ⟨v618, rfl, ho0, hb⟩; refine ⟨_, rfl, ?_⟩; have n0_ := Aside0.mk (Kd.S_elder' (rs HO_9.out) (Kd.R_base ho0) hb); have n1_ := Aside0.mk (Kd.R_below (rr HO615.out) hb); have n2_ := Aside0.mk (Kd.R_lower ho0 (below_size bl)); have n3_ := Aside0.mk (below_step bl hb); revert n0_ n1_ n2_ n3_; clear HO_9 HO615 HB; intro HO_9 HO615 HO619 HB; (try clear hb); (try clear hb2); (try clear hk); (try clear hi); (try clear ho0)))
     (try simp only [ap, sa, sb, sc])
     go_cut [78] (fun v78 wc => ∃ (kq : Nat) (x78_25 : Bool), v78 = .bool x78_25 ∧ Aside0 (plenumlaw19_TimerHolds.j2 kq a0 a1 l2 t616 x78_25 = some r) ∧ Aside0 (kq ≤ k2) ∧ Aside0 (Kd.R k32 32 wc w.heap.size (fun _ => True) v618 t616) ∧ Aside0 (Below w.heap.size w wc))
     case first =>
      have H := HC26.out
      clear HC26
      by_cases c32 : t617 = 0
      rotate_left
      ·
       rw [if_neg c32] at H
       have c32b0 : (t617 == 0) = false := beq_eq_false_iff_ne.mpr c32
       have c32b1 : (t617 != 0) = true := bne_iff_ne.mpr c32
       (first | rw [c32b0] | (simp only [i64_w, i32_w]; rw [c32b0]) | skip)
       have H' := Aside0.mk H
       clear H
       go_wp2
       go_meet
       case rel => exact ⟨_, (true), (by first | rfl | (simp; done) | (simp [*]; done)), H', ⟨by have := HJ6.out; have := HK2.out; first | omega | exact Nat.le_refl _⟩, ⟨rr HO619.out⟩, ⟨bl⟩⟩
      rw [if_pos c32] at H
      have c32b0 : (t617 == 0) = true := beq_iff_eq.mpr c32
      have c32b1 : (t617 != 0) = false := bne_eq_false_iff_eq.mpr c32
      clear c32
      (first | rw [c32b0] | (simp only [i64_w, i32_w]; rw [c32b0]) | skip)
      have H' := Aside0.mk H
      clear H
      obtain ⟨Ao33, co33, eo33⟩ := Kd.R_slice HO619.out
      subst eo33
      go_wp2
      go_meet
      case rel => exact ⟨_, (((t616.length : Int) != (l2.length : Int))), (by first | rfl | (simp; done) | (simp [*]; done)), H', ⟨by have := HJ6.out; have := HK2.out; first | omega | exact Nat.le_refl _⟩, ⟨rr HO619.out⟩, ⟨bl⟩⟩
     clear HC26
     try clear c1
     try clear c2
     try clear p2
     try clear c3
     try clear c6
     try clear p6
     try clear q6
     try clear hx6
     try clear c7
     try clear c8
     try clear c9
     try clear c9b0
     try clear c9b1
     try clear c10
     try clear c10b0
     try clear c11
     try clear c11b0
     try clear c12
     try clear c12b0
     try clear c13
     try clear c13b0
     try clear c14
     try clear c14b0
     try clear c15
     try clear c18
     try clear c18b0
     try clear c19
     try clear c19b0
     try clear c20
     try clear c32
     try clear c32b0
     try clear c32b1
     try clear hx606_0
     try clear p2
     try clear p606
     try clear q606
     obtain ⟨kq, x78_25, rfl, HA, HJ25, HO_11, HB⟩ := hcut
     cases kq with
     | zero => exact absurd HA.out (by simp [plenumlaw19_TimerHolds.j2])
     | succ kj25 =>
      have H := HA.out
      clear HA
      simp only [plenumlaw19_TimerHolds.j2] at H
      by_cases c34 : x78_25 = true
      ·
       subst c34
       rw [if_pos rfl] at H
       exact absurd H (by simp)
      replace c34 := Bool.eq_false_iff.mpr c34
      subst c34
      rw [if_neg (show ¬ (false = true) by decide)] at H
      have H' := Aside0.mk H
      clear H
      go_wp2
      go_loopg [13, 14] kj25 (fun kq v13 v14 w' => ∃ (x13_4 : Bool) (x14_4 : Int), v13 = .bool x13_4 ∧ v14 = .int .i64 x14_4 ∧ Aside0 (plenumlaw19_TimerHolds.l1 kq a0 a1 l2 t616 x13_4 x14_4 = some r) ∧ Aside0 (kq ≤ kj25) ∧ Aside0 (Kd.R k32 32 w' w.heap.size (fun _ => True) v618 t616) ∧ Aside0 (Below w.heap.size w w'))
      case atStart => exact ⟨(false), (0), (by first | rfl | (simp; done) | (simp [*]; done)), (by first | rfl | (simp; done) | (simp [*]; done)), H', ⟨Nat.le_refl _⟩, ⟨rr HO_11.out⟩, ⟨bl⟩⟩
      case round =>
       clear H'
       try clear c1
       try clear c2
       try clear p2
       try clear c3
       try clear c6
       try clear p6
       try clear q6
       try clear hx6
       try clear c7
       try clear c8
       try clear c9
       try clear c9b0
       try clear c9b1
       try clear c10
       try clear c10b0
       try clear c11
       try clear c11b0
       try clear c12
       try clear c12b0
       try clear c13
       try clear c13b0
       try clear c14
       try clear c14b0
       try clear c15
       try clear c18
       try clear c18b0
       try clear c19
       try clear c19b0
       try clear c20
       try clear c32
       try clear c32b0
       try clear c32b1
       try clear c34
       try clear hx606_0
       try clear p2
       try clear p6
       try clear p606
       try clear q6
       try clear q606
       obtain ⟨x13_4, x14_4, rfl, rfl, HA, HK4, HO_11, HB⟩ := hrel
       cases gk with
       | zero => exact absurd HA.out (by simp [plenumlaw19_TimerHolds.l1])
       | succ k4 =>
        have H := HA.out
        clear HA
        simp only [plenumlaw19_TimerHolds.l1] at H
        by_cases c35 : x14_4 < (l2.length : Int)
        rotate_left
        ·
         rw [if_neg c35] at H
         have c35b0 : decide (x14_4 < (l2.length : Int)) = false := decide_eq_false c35
         clear c35
         obtain rfl := Option.some.inj H
         go_wp2
         go_ret
         exact ⟨by first | rfl | (simp [errW_none, errW_some] <;> rfl) | (simp [*, errW_none, errW_some] <;> rfl), bl⟩
        rw [if_pos c35] at H
        have c35b0 : decide (x14_4 < (l2.length : Int)) = true := decide_eq_true c35
        clear c35
        by_cases c36 : 0 ≤ x14_4
        rotate_left
        ·
         rw [if_neg c36] at H
         exact absurd H (by simp)
        rw [if_pos c36] at H
        have c36b0 : decide (0 ≤ x14_4) = true := decide_eq_true c36
        clear c36
        have HC37 := Aside0.mk H
        clear H
        have p620 : 0 ≤ (x14_4 : Int) := ode
        have q620 : x14_4 < (l2.length : Int) := ode
        obtain ⟨ad620, e620, hx620_0⟩ := Kd.at_int HR2.out x14_4 p620 q620
        cases e620
        replace hx620_0 := (HB.out.cell (World.block_lt_of_cell? w _ hx620_0)).trans hx620_0
        replace p620 := eq_true p620
        replace q620 := eq_true q620
        go_upto_if 90 with (fail)
        go_cut [13] (fun v13 wc => ∃ (kq : Nat) (x13_36 : Bool), v13 = .bool x13_36 ∧ Aside0 (plenumlaw19_TimerHolds.j4 kq a0 a1 l2 t616 x13_36 x14_4 = some r) ∧ Aside0 (kq ≤ k4) ∧ Aside0 (Kd.R k32 32 wc w.heap.size (fun _ => True) v618 t616) ∧ Aside0 (Below w.heap.size w wc))
        case first =>
         have H := HC37.out
         clear HC37
         by_cases c38 : (rd l2 x14_4) > a0
         ·
          rw [if_pos c38] at H
          have c38b0 : decide (a0 < (rd l2 x14_4)) = true := decide_eq_true c38
          clear c38
          (first | rw [c38b0] | (simp only [i64_w, i32_w]; rw [c38b0]) | skip)
          have H' := Aside0.mk H
          clear H
          go_wp2
          go_meet
          case rel => exact ⟨_, (true), (by first | rfl | (simp; done) | (simp [*]; done)), H', ⟨by have := HJ6.out; have := HK2.out; have := HJ25.out; have := HK4.out; first | omega | exact Nat.le_refl _⟩, ⟨rr HO_11.out⟩, ⟨bl⟩⟩
         rw [if_neg c38] at H
         have c38b0 : decide (a0 < (rd l2 x14_4)) = false := decide_eq_false c38
         clear c38
         (first | rw [c38b0] | (simp only [i64_w, i32_w]; rw [c38b0]) | skip)
         have H' := Aside0.mk H
         clear H
         go_wp2
         go_meet
         case rel => exact ⟨_, (x13_4), (by first | rfl | (simp; done) | (simp [*]; done)), H', ⟨by have := HJ6.out; have := HK2.out; have := HJ25.out; have := HK4.out; first | omega | exact Nat.le_refl _⟩, ⟨rr HO_11.out⟩, ⟨bl⟩⟩
        clear HC37
        try clear c1
        try clear c2
        try clear p2
        try clear c3
        try clear c6
        try clear p6
        try clear q6
        try clear hx6
        try clear c7
        try clear c8
        try clear c9
        try clear c9b0
        try clear c9b1
        try clear c10
        try clear c10b0
        try clear c11
        try clear c11b0
        try clear c12
        try clear c12b0
        try clear c13
        try clear c13b0
        try clear c14
        try clear c14b0
        try clear c15
        try clear c18
        try clear c18b0
        try clear c19
        try clear c19b0
        try clear c20
        try clear c32
        try clear c32b0
        try clear c32b1
        try clear c34
        try clear c35
        try clear c35b0
        try clear c36
        try clear c36b0
        try clear c38
        try clear c38b0
        try clear hx606_0
        try clear hx620_0
        try clear p2
        try clear p6
        try clear p606
        try clear p620
        try clear q6
        try clear q606
        try clear q620
        obtain ⟨kq, x13_36, rfl, HA, HJ36, HO_11, HB⟩ := hcut
        cases kq with
        | zero => exact absurd HA.out (by simp [plenumlaw19_TimerHolds.j4])
        | succ kj36 =>
         have H := HA.out
         clear HA
         simp only [plenumlaw19_TimerHolds.j4] at H
         by_cases c39 : 0 ≤ x14_4
         rotate_left
         ·
          rw [if_neg c39] at H
          exact absurd H (by simp)
         rw [if_pos c39] at H
         have c39b0 : decide (0 ≤ x14_4) = true := decide_eq_true c39
         clear c39
         by_cases c40 : x14_4 < (l2.length : Int)
         rotate_left
         ·
          rw [if_neg c40] at H
          exact absurd H (by simp)
         rw [if_pos c40] at H
         have c40b0 : decide (x14_4 < (l2.length : Int)) = true := decide_eq_true c40
         clear c40
         by_cases c41 : (rd l2 x14_4) < a1
         ·
          rw [if_pos c41] at H
          have c41b0 : decide ((rd l2 x14_4) < a1) = true := decide_eq_true c41
          clear c41
          by_cases c42 : x14_4 < (t616.length : Int)
          rotate_left
          ·
           rw [if_neg c42] at H
           exact absurd H (by simp)
          rw [if_pos c42] at H
          have c42b0 : decide (x14_4 < (t616.length : Int)) = true := decide_eq_true c42
          clear c42
          replace H := Option.bind_eq_some_iff.mp H
          obtain ⟨⟨t623, t624⟩, A430, H⟩ := H
          (try dsimp only at H)
          have A43 := Aside0.mk A430
          clear A430
          by_cases c44 : (!(((rd_T32 t616 x14_4).f0) == t623) || (!(((rd_T32 t616 x14_4).f1) == t624))) = true
          ·
           rw [if_pos c44] at H
           exact absurd H (by simp)
          rw [if_neg c44] at H
          have c44b0 : (!(((rd_T32 t616 x14_4).f0) == t623) || (!(((rd_T32 t616 x14_4).f1) == t624))) = false := by simpa using c44
          clear c44
          have H' := Aside0.mk H
          clear H
          have p621 : 0 ≤ (x14_4 : Int) := ode
          have q621 : x14_4 < (l2.length : Int) := ode
          obtain ⟨ad621, e621, hx621_0⟩ := Kd.at_int HR2.out x14_4 p621 q621
          obtain rfl : ad620 = ad621 := (by injection e621)
          replace hx621_0 := (HB.out.cell (World.block_lt_of_cell? w _ hx621_0)).trans hx621_0
          replace p621 := eq_true p621
          replace q621 := eq_true q621
          try go_wp2
          have n0_ := Aside0.mk (Kd.R_drew HO_11.out)
          have n1_ := Aside0.mk (below_drew1 HB.out)
          revert n0_ n1_; clear HO_11 HB; intro HO_11 HB
          obtain ⟨Ao46, co46, eo46⟩ := Kd.R_slice HO_11.out
          (first | subst eo46 | (injection eo46 with f1_ f2_ f3_; have f4_ := f1_.symm; have f5_ := f3_.symm; clear f1_ f2_ f3_; subst f4_; subst f5_))
          have p622 : 0 ≤ (x14_4 : Int) := ode
          have q622 : x14_4 < (t616.length : Int) := ode
          obtain ⟨ad622, e622, hx622_0, hx622_1⟩ := at_T32 (Kd.R_reads' HO_11.out).2.2 x14_4 p622 q622
          cases e622
          replace p622 := eq_true p622
          replace q622 := eq_true q622
          refine start_ (n := 7) (S := fun w' => w'.cell? (ad622.add ((x14_4).toNat * 2)) = some (.int .i64 ((rd_T32 t616 x14_4).f0)) ∧ w'.cell? ⟨(ad622.add ((x14_4).toNat * 2)).block, (ad622.add ((x14_4).toNat * 2)).off + 1, none⟩ = some (.int .i64 ((rd_T32 t616 x14_4).f1))) (ds := []) #[F, F, F, F, F, F, F] (by kernel_rfl) rfl rfl ⟨hx622_0, hx622_1⟩ (fun hHeld => ?_)
          generalize wc.drew = w45 at HO_11 HB hx622_0 hx622_1 hHeld ⊢
          refine pure_ (i := 0) (N := some 97) (v := ?_) (a' := ?_) #[T, F, F, F, F, F, F] rfl rfl (by kernel_rfl) (fun _ _ _ h => h) (Or.inl ⟨by rfl, ?_⟩) ?_ ?_
          rotate_left
          ·
           intro w'
           go_simp
           with_reducible rfl
          rotate_left
          ·
           simp only [ap, sa, sb, sc, i64_w, i32_w]
           rfl
          refine pure_ (i := 1) (N := some 98) (v := ?_) (a' := ?_) #[T, T, F, F, F, F, F] rfl rfl (by kernel_rfl) (fun _ _ _ h => h) (Or.inl ⟨by rfl, ?_⟩) ?_ ?_
          rotate_left
          ·
           intro w'
           go_simp
           with_reducible rfl
          rotate_left
          ·
           simp only [ap, sa, sb, sc, i64_w, i32_w]
           rfl
          refine pure_ (i := 2) (N := some 99) (v := ?_) (a' := ?_) #[T, T, T, F, F, F, F] rfl rfl (by kernel_rfl) (fun _ _ _ h => h) (Or.inl ⟨by rfl, ?_⟩) ?_ ?_
          rotate_left
          ·
           intro w'
           go_simp
           with_reducible rfl
          rotate_left
          ·
           simp only [ap, sa, sb, sc, i64_w, i32_w]
           rfl
          refine pure_ (i := 4) (N := some 101) (v := ?_) (a' := ?_) #[T, T, T, F, T, F, F] rfl rfl (by kernel_rfl) (fun _ _ _ h => h) (Or.inl ⟨by rfl, ?_⟩) ?_ ?_
          rotate_left
          ·
           intro w'
           go_simp
           with_reducible rfl
          rotate_left
          ·
           simp only [ap, sa, sb, sc, i64_w, i32_w]
           rfl
          refine take_ (i := 3) (N := some 100) (v := ?_) (a' := ?_) #[T, T, T, T, T, F, F] rfl rfl (by kernel_rfl) (fun _ _ _ h => h) (Or.inl ⟨by rfl, ?_⟩) hHeld ?_ ?_
          rotate_left
          ·
           rintro w' ⟨s0, s1⟩
           go_simp
           with_reducible rfl
          rotate_left
          ·
           simp only [ap, sa, sb, sc, i64_w, i32_w]
           rfl
          refine one_ (i := 5) (N := some 102) #[T, T, T, T, T, T, F] rfl rfl (by kernel_rfl) (by decide) (fun K hK => ?_)
          refine goes_ Tryd.func11 (by kernel_rfl) rfl #[.bool false] (by rfl) rfl rfl aeq ?_
          with_reducible refine (plenumlaw19_bit.calls false t623 t624 _ A43.out).mono ?_
          rintro e w47 ⟨rfl, hb⟩
          have HS0_ := (hb.cell (World.block_lt_of_cell? _ _ (hHeld.1))).trans (hHeld.1)
          have HS1_ := (hb.cell (World.block_lt_of_cell? _ _ (hHeld.2))).trans (hHeld.2)
          refine ⟨_, rfl, ?_⟩
          have n0_ := Aside0.mk (Kd.R_below (rr HO_11.out) hb)
          have n1_ := Aside0.mk (below_step bl hb)
          revert n0_ n1_; clear HO_11 HB; intro HO_11 HB
          (try clear hb)
          (try clear hb2)
          (try clear hk)
          (try clear hi)
          refine hK.out _ _ ⟨HS0_, HS1_⟩ (fun hHeld => ?_)
          clear hK K
          refine norm_ (a' := ?_) ?_ ?_
          rotate_left
          ·
           show Act.put _ (some 102) _ = _
           simp only [ap, sa, sb, sc, i64_w, i32_w]
           rfl
          refine pure_ (i := 6) (N := some 103) (v := ?_) (a' := ?_) #[T, T, T, T, T, T, T] rfl rfl (by kernel_rfl) (fun _ _ _ h => h) (Or.inl ⟨by rfl, ?_⟩) ?_ ?_
          rotate_left
          ·
           intro w'
           go_simp
           with_reducible rfl
          rotate_left
          ·
           simp only [ap, sa, sb, sc, i64_w, i32_w]
           rfl
          refine done_ (by kernel_rfl) ?_
          try go_wp2
          go_roundg kj36
          case measure => have := HJ6.out; have := HK2.out; have := HJ25.out; have := HK4.out; have := HJ36.out; omega
          case rel => exact ⟨(false), (wrap64 (x14_4 + 1)), (by first | rfl | (simp; done) | (simp [*]; done)), (by first | rfl | (simp; done) | (simp [*]; done)), H', ⟨by have := HJ6.out; have := HK2.out; have := HJ25.out; have := HK4.out; have := HJ36.out; omega⟩, ⟨rr HO_11.out⟩, ⟨bl⟩⟩
         rw [if_neg c41] at H
         have c41b0 : decide ((rd l2 x14_4) < a1) = false := decide_eq_false c41
         clear c41
         by_cases c48 : x14_4 < (t616.length : Int)
         rotate_left
         ·
          rw [if_neg c48] at H
          exact absurd H (by simp)
         rw [if_pos c48] at H
         have c48b0 : decide (x14_4 < (t616.length : Int)) = true := decide_eq_true c48
         clear c48
         replace H := Option.bind_eq_some_iff.mp H
         obtain ⟨⟨t626, t627⟩, A490, H⟩ := H
         (try dsimp only at H)
         have A49 := Aside0.mk A490
         clear A490
         by_cases c50 : (!(((rd_T32 t616 x14_4).f0) == t626) || (!(((rd_T32 t616 x14_4).f1) == t627))) = true
         ·
          rw [if_pos c50] at H
          exact absurd H (by simp)
         rw [if_neg c50] at H
         have c50b0 : (!(((rd_T32 t616 x14_4).f0) == t626) || (!(((rd_T32 t616 x14_4).f1) == t627))) = false := by simpa using c50
         clear c50
         have H' := Aside0.mk H
         clear H
         have p621 : 0 ≤ (x14_4 : Int) := ode
         have q621 : x14_4 < (l2.length : Int) := ode
         obtain ⟨ad621, e621, hx621_0⟩ := Kd.at_int HR2.out x14_4 p621 q621
         obtain rfl : ad620 = ad621 := (by injection e621)
         replace hx621_0 := (HB.out.cell (World.block_lt_of_cell? w _ hx621_0)).trans hx621_0
         replace p621 := eq_true p621
         replace q621 := eq_true q621
         try go_wp2
         have n0_ := Aside0.mk (Kd.R_drew HO_11.out)
         have n1_ := Aside0.mk (below_drew1 HB.out)
         revert n0_ n1_; clear HO_11 HB; intro HO_11 HB
         obtain ⟨Ao52, co52, eo52⟩ := Kd.R_slice HO_11.out
         (first | subst eo52 | (injection eo52 with f1_ f2_ f3_; have f4_ := f1_.symm; have f5_ := f3_.symm; clear f1_ f2_ f3_; subst f4_; subst f5_))
         have p625 : 0 ≤ (x14_4 : Int) := ode
         have q625 : x14_4 < (t616.length : Int) := ode
         obtain ⟨ad625, e625, hx625_0, hx625_1⟩ := at_T32 (Kd.R_reads' HO_11.out).2.2 x14_4 p625 q625
         cases e625
         replace p625 := eq_true p625
         replace q625 := eq_true q625
         refine start_ (n := 7) (S := fun w' => w'.cell? (ad625.add ((x14_4).toNat * 2)) = some (.int .i64 ((rd_T32 t616 x14_4).f0)) ∧ w'.cell? ⟨(ad625.add ((x14_4).toNat * 2)).block, (ad625.add ((x14_4).toNat * 2)).off + 1, none⟩ = some (.int .i64 ((rd_T32 t616 x14_4).f1))) (ds := []) #[F, F, F, F, F, F, F] (by kernel_rfl) rfl rfl ⟨hx625_0, hx625_1⟩ (fun hHeld => ?_)
         generalize wc.drew = w51 at HO_11 HB hx625_0 hx625_1 hHeld ⊢
         refine pure_ (i := 0) (N := some 97) (v := ?_) (a' := ?_) #[T, F, F, F, F, F, F] rfl rfl (by kernel_rfl) (fun _ _ _ h => h) (Or.inl ⟨by rfl, ?_⟩) ?_ ?_
         rotate_left
         ·
          intro w'
          go_simp
          with_reducible rfl
         rotate_left
         ·
          simp only [ap, sa, sb, sc, i64_w, i32_w]
          rfl
         refine pure_ (i := 1) (N := some 98) (v := ?_) (a' := ?_) #[T, T, F, F, F, F, F] rfl rfl (by kernel_rfl) (fun _ _ _ h => h) (Or.inl ⟨by rfl, ?_⟩) ?_ ?_
         rotate_left
         ·
          intro w'
          go_simp
          with_reducible rfl
         rotate_left
         ·
          simp only [ap, sa, sb, sc, i64_w, i32_w]
          rfl
         refine pure_ (i := 2) (N := some 99) (v := ?_) (a' := ?_) #[T, T, T, F, F, F, F] rfl rfl (by kernel_rfl) (fun _ _ _ h => h) (Or.inl ⟨by rfl, ?_⟩) ?_ ?_
         rotate_left
         ·
          intro w'
          go_simp
          with_reducible rfl
         rotate_left
         ·
          simp only [ap, sa, sb, sc, i64_w, i32_w]
          rfl
         refine pure_ (i := 4) (N := some 101) (v := ?_) (a' := ?_) #[T, T, T, F, T, F, F] rfl rfl (by kernel_rfl) (fun _ _ _ h => h) (Or.inl ⟨by rfl, ?_⟩) ?_ ?_
         rotate_left
         ·
          intro w'
          go_simp
          with_reducible rfl
         rotate_left
         ·
          simp only [ap, sa, sb, sc, i64_w, i32_w]
          rfl
         refine take_ (i := 3) (N := some 100) (v := ?_) (a' := ?_) #[T, T, T, T, T, F, F] rfl rfl (by kernel_rfl) (fun _ _ _ h => h) (Or.inl ⟨by rfl, ?_⟩) hHeld ?_ ?_
         rotate_left
         ·
          rintro w' ⟨s0, s1⟩
          go_simp
          with_reducible rfl
         rotate_left
         ·
          simp only [ap, sa, sb, sc, i64_w, i32_w]
          rfl
         refine one_ (i := 5) (N := some 102) #[T, T, T, T, T, T, F] rfl rfl (by kernel_rfl) (by decide) (fun K hK => ?_)
         refine goes_ Tryd.func11 (by kernel_rfl) rfl #[.bool x13_36] (by rfl) rfl rfl aeq ?_
         with_reducible refine (plenumlaw19_bit.calls x13_36 t626 t627 _ A49.out).mono ?_
         rintro e w53 ⟨rfl, hb⟩
         have HS0_ := (hb.cell (World.block_lt_of_cell? _ _ (hHeld.1))).trans (hHeld.1)
         have HS1_ := (hb.cell (World.block_lt_of_cell? _ _ (hHeld.2))).trans (hHeld.2)
         refine ⟨_, rfl, ?_⟩
         have n0_ := Aside0.mk (Kd.R_below (rr HO_11.out) hb)
         have n1_ := Aside0.mk (below_step bl hb)
         revert n0_ n1_; clear HO_11 HB; intro HO_11 HB
         (try clear hb)
         (try clear hb2)
         (try clear hk)
         (try clear hi)
         refine hK.out _ _ ⟨HS0_, HS1_⟩ (fun hHeld => ?_)
         clear hK K
         refine norm_ (a' := ?_) ?_ ?_
         rotate_left
         ·
          show Act.put _ (some 102) _ = _
          simp only [ap, sa, sb, sc, i64_w, i32_w]
          rfl
         refine pure_ (i := 6) (N := some 103) (v := ?_) (a' := ?_) #[T, T, T, T, T, T, T] rfl rfl (by kernel_rfl) (fun _ _ _ h => h) (Or.inl ⟨by rfl, ?_⟩) ?_ ?_
         rotate_left
         ·
          intro w'
          go_simp
          with_reducible rfl
         rotate_left
         ·
          simp only [ap, sa, sb, sc, i64_w, i32_w]
          rfl
         refine done_ (by kernel_rfl) ?_
         try go_wp2
         go_roundg kj36
         case measure => have := HJ6.out; have := HK2.out; have := HJ25.out; have := HK4.out; have := HJ36.out; omega
         case rel => exact ⟨(x13_36), (wrap64 (x14_4 + 1)), (by first | rfl | (simp; done) | (simp [*]; done)), (by first | rfl | (simp; done) | (simp [*]; done)), H', ⟨by have := HJ6.out; have := HK2.out; have := HJ25.out; have := HK4.out; have := HJ36.out; omega⟩, ⟨rr HO_11.out⟩, ⟨bl⟩⟩
 ·
  replace c6 := Bool.eq_false_iff.mpr c6
  subst c6
  rw [if_neg (show ¬ (false = true) by decide)] at H
  exact absurd H (by simp)

/-- THE ONE PURE STATEMENT of plenumlaw19_TimerHolds: yours. -/
def plenumlaw19_TimerHolds.Pure : Prop := ∀ (a0 : Int) (a1 : Int) (l2 : List Int) (a3 : Int), (Lit.int .i64 a0).wf = true → (Lit.int .i64 a1).wf = true → l2.length ≤ maxLen → l2.length * 8 ≤ 140737488351232 → (∀ x ∈ l2, (Lit.int .i64 x).wf = true) → (Lit.int .i64 a3).wf = true → ∃ k, plenumlaw19_TimerHolds.f k a0 a1 l2 a3 = some true
theorem plenumlaw19_TimerHolds.walk (P : plenumlaw19_TimerHolds.Pure) (a0 : Int) (a1 : Int) (a2 : Option Addr) (len2 cap2 : Nat) (z2 : List Int) (a3 : Int) (w : World) (w0 : (Lit.int .i64 a0).wf = true) (w1 : (Lit.int .i64 a1).wf = true) (w2 : (a2 = none ∧ len2 = 0 ∧ cap2 = 0 ∧ z2 = []) ∨ ∃ x, a2 = some x ∧ len2 ≤ cap2 ∧ cap2 ≤ maxLen ∧ z2.length = cap2 ∧ (∀ i, i < z2.length → w.cell? (x.add i) = some (.int .i64 (z2.getD i 0))) ∧ ∀ n ∈ z2, (Lit.int .i64 n).wf = true) (y2 : len2 * 8 ≤ 140737488351232) (w3 : (Lit.int .i64 a3).wf = true) (hG : GW w) :
  Calls Tryd.prog 7 #[.int .i64 a0, .int .i64 a1, .slice a2 len2 cap2, .int .i64 a3] w fun e w' => e = .returned (.bool true) ∧ Below w.heap.size w w' := by
 obtain ⟨l2, rfl, hr2, hm2, hw2, hc2⟩ := ReadsInt.ofRowC w2
 obtain ⟨k, h⟩ := P a0 a1 l2 a3 w0 w1 hm2 y2 hw2 w3
 refine (plenumlaw19_TimerHolds.calls k a0 a1 _ _ l2 a3 true w (Kd.C_of_reads (d := (0 : Int)) (h1 := fun _ => rfl) hr2) hc2 hG h).mono ?_
 rintro e w' ⟨rfl, hd⟩
 exact ⟨rfl, hd⟩

end Go.Proofs.YtjjbdgngncgikaaDoor.R
