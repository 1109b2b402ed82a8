-- Written by this claim's own program out of the translation; not trusted: Lean checks it.
import Derived.Test.YtjjbdgngncgikaaDoorRx0
import Derived.Test.YtjjbdgngncgikaaDoorRx1
import Derived.Test.YtjjbdgngncgikaaDoorRx19
import Derived.Test.YtjjbdgngncgikaaDoorRx20
import Derived.Test.YtjjbdgngncgikaaDoorRx21
import Derived.Test.YtjjbdgngncgikaaDoorRx25
namespace Go.Proofs.YtjjbdgngncgikaaDoor.R
open Go.RowKit Go.Proofs.YtjjbdgngncgikaaDoorW.PrintWords Go.Proofs.YtjjbdgngncgikaaDoorW.PrintLast Go.Proofs.YtjjbdgngncgikaaDoorW.PrintMore
attribute [local go_sem] max2_int min2_int max_two min_two max_three min_three max_four min_four   -- for this text's walks alone
set_option linter.unusedVariables false
set_option linter.unusedSimpArgs false

attribute [local go_sem high] eqA32
/-! ### plenumlaw19_TimerDelays: function 3 -/
mutual
def plenumlaw19_TimerDelays.j0 : Nat → Int → List Bool → Bool → Option (Bool)
 | 0, _, _, _ => none
 | k + 1, x0, x1, x25 => if x25 = true then (some true) else ((plenumlaw19_on.f k x1).bind fun t480 => ((timer_Run.f k (⟨#[111, 110, 100, 101, 108, 97, 121]⟩ : ByteArray) (([x0] : List Int)) t480 1).bind fun bt483 => ((plenumlaw19_on.f k x1).bind fun t490 => ((timer_Run.f k (⟨#[111, 102, 102, 100, 101, 108, 97, 121]⟩ : ByteArray) (([x0] : List Int)) t490 1).bind fun bt493 => (if bt483.2 = 0 then (if bt493.2 = 0 then (if (bt483.1.length : Int) = (x1.length : Int) then (plenumlaw19_TimerDelays.j1 k x0 x1 bt483.1 bt493.1 ((bt493.1.length : Int) != (x1.length : Int))) else (plenumlaw19_TimerDelays.j1 k x0 x1 bt483.1 bt493.1 true)) else (plenumlaw19_TimerDelays.j1 k x0 x1 bt483.1 bt493.1 true)) else (plenumlaw19_TimerDelays.j1 k x0 x1 bt483.1 bt493.1 true))))))
def plenumlaw19_TimerDelays.j1 : Nat → Int → List Bool → List (S32) → List (S32) → Bool → Option (Bool)
 | 0, _, _, _, _, _ => none
 | k + 1, x0, x1, x5, x7, x61 => if x61 = true then (none) else (plenumlaw19_TimerDelays.l0 k x0 x1 x5 x7 0)
def plenumlaw19_TimerDelays.l0 : Nat → Int → List Bool → List (S32) → List (S32) → Int → Option (Bool)
 | 0, _, _, _, _, _ => none
 | k + 1, x0, x1, x5, x7, x9 => if x9 < (x1.length : Int) then (plenumlaw19_TimerDelays.l1 k x0 x1 x5 x7 x9 (decide (x9 ≥ x0)) false x9) else (some true)
def plenumlaw19_TimerDelays.j4 : Nat → Int → List Bool → List (S32) → List (S32) → Int → Bool → Bool → Option (Bool)
 | 0, _, _, _, _, _, _, _ => none
 | k + 1, x0, x1, x5, x7, x9, x10, x11 => if 0 ≤ x9 then (if x9 < (x5.length : Int) then ((plenumlaw19_bit.f x10).bind fun bt501 => (if (!(((rd_T32 x5 x9).f0) == bt501.1) || (!(((rd_T32 x5 x9).f1) == bt501.2))) = true then (none) else (if x9 < (x7.length : Int) then ((plenumlaw19_bit.f x11).bind fun bt504 => (if (!(((rd_T32 x7 x9).f0) == bt504.1) || (!(((rd_T32 x7 x9).f1) == bt504.2))) = true then (none) else (plenumlaw19_TimerDelays.l0 k x0 x1 x5 x7 (wrap64 (x9 + 1))))) else (none)))) else (none)) else (none)
def plenumlaw19_TimerDelays.l1 : Nat → Int → List Bool → List (S32) → List (S32) → Int → Bool → Bool → Int → Option (Bool)
 | 0, _, _, _, _, _, _, _, _ => none
 | k + 1, x0, x1, x5, x7, x9, x10, x11, x12 => if x12 ≥ 0 then (if x12 ≥ (wrap64 (x9 - x0)) then (if x10 = true then (if 0 ≤ x12 then (if x12 < (x1.length : Int) then (if x11 = true then (plenumlaw19_TimerDelays.l1 k x0 x1 x5 x7 x9 (rdOf false x1 x12) true (wrap64 (x12 - 1))) else (plenumlaw19_TimerDelays.l1 k x0 x1 x5 x7 x9 (rdOf false x1 x12) (rdOf false x1 x12) (wrap64 (x12 - 1)))) else (none)) else (none)) else (if x11 = true then (plenumlaw19_TimerDelays.l1 k x0 x1 x5 x7 x9 false true (wrap64 (x12 - 1))) else (if 0 ≤ x12 then (if x12 < (x1.length : Int) then (plenumlaw19_TimerDelays.l1 k x0 x1 x5 x7 x9 false (rdOf false x1 x12) (wrap64 (x12 - 1))) else (none)) else (none)))) else (plenumlaw19_TimerDelays.j4 k x0 x1 x5 x7 x9 x10 x11)) else (plenumlaw19_TimerDelays.j4 k x0 x1 x5 x7 x9 x10 x11)
end
def plenumlaw19_TimerDelays.f (k : Nat) (a0 : Int) (l1 : List Bool) : Option (Bool) := (plenumlaw19_awake.f k).bind fun t476 => (if t476 = true then (if (l1.length : Int) > 80 then (plenumlaw19_TimerDelays.j0 k a0 l1 true) else (if a0 < 0 then (plenumlaw19_TimerDelays.j0 k a0 l1 true) else (plenumlaw19_TimerDelays.j0 k a0 l1 (decide (a0 > 100))))) else (none))
theorem plenumlaw19_TimerDelays.mono_l : ∀ k, (∀ y0 y1 y2, LeO (plenumlaw19_TimerDelays.j0 k y0 y1 y2) (plenumlaw19_TimerDelays.j0 (k + 1) y0 y1 y2)) ∧ (∀ y0 y1 y2 y3 y4, LeO (plenumlaw19_TimerDelays.j1 k y0 y1 y2 y3 y4) (plenumlaw19_TimerDelays.j1 (k + 1) y0 y1 y2 y3 y4)) ∧ (∀ y0 y1 y2 y3 y4, LeO (plenumlaw19_TimerDelays.l0 k y0 y1 y2 y3 y4) (plenumlaw19_TimerDelays.l0 (k + 1) y0 y1 y2 y3 y4)) ∧ (∀ y0 y1 y2 y3 y4 y5 y6, LeO (plenumlaw19_TimerDelays.j4 k y0 y1 y2 y3 y4 y5 y6) (plenumlaw19_TimerDelays.j4 (k + 1) y0 y1 y2 y3 y4 y5 y6)) ∧ (∀ y0 y1 y2 y3 y4 y5 y6 y7, LeO (plenumlaw19_TimerDelays.l1 k y0 y1 y2 y3 y4 y5 y6 y7) (plenumlaw19_TimerDelays.l1 (k + 1) y0 y1 y2 y3 y4 y5 y6 y7))
 | 0 => ⟨fun _ _ _ r h => by simp [plenumlaw19_TimerDelays.j0] at h, fun _ _ _ _ _ r h => by simp [plenumlaw19_TimerDelays.j1] at h, fun _ _ _ _ _ r h => by simp [plenumlaw19_TimerDelays.l0] at h, fun _ _ _ _ _ _ _ r h => by simp [plenumlaw19_TimerDelays.j4] at h, fun _ _ _ _ _ _ _ _ r h => by simp [plenumlaw19_TimerDelays.l1] at h⟩
 | k + 1 => by
  obtain ⟨ih0, ih1, ih2, ih3, ih4⟩ := plenumlaw19_TimerDelays.mono_l k
  refine ⟨?_, ?_, ?_, ?_, ?_⟩
  ·
   intro y0 y1 y2
   unfold plenumlaw19_TimerDelays.j0
   repeat' first
   | (with_reducible exact ih0 _ _ _)
   | (with_reducible exact ih1 _ _ _ _ _)
   | (with_reducible exact ih2 _ _ _ _ _)
   | (with_reducible exact ih3 _ _ _ _ _ _ _)
   | (with_reducible exact ih4 _ _ _ _ _ _ _ _)
   | (with_reducible exact plenumlaw19_awake.mono _)
   | (with_reducible exact plenumlaw19_on.mono _ _)
   | (with_reducible exact timer_Run.mono _ _ _ _ _)
   | (with_reducible exact LeO.refl _)
   | (with_reducible exact LeO.none _)
   | (with_reducible refine LeO.ite ?_ ?_)
   | (with_reducible refine LeO.bind ?_ (fun _ => ?_))
   | exact ih0 _ _ _
   | exact ih1 _ _ _ _ _
   | exact ih2 _ _ _ _ _
   | exact ih3 _ _ _ _ _ _ _
   | exact ih4 _ _ _ _ _ _ _ _
   | exact plenumlaw19_awake.mono _
   | exact plenumlaw19_on.mono _ _
   | exact timer_Run.mono _ _ _ _ _
   | exact LeO.none _
   | refine LeO.ite ?_ ?_
   | refine LeO.bind ?_ (fun _ => ?_)
  ·
   intro y0 y1 y2 y3 y4
   unfold plenumlaw19_TimerDelays.j1
   repeat' first
   | (with_reducible exact ih0 _ _ _)
   | (with_reducible exact ih1 _ _ _ _ _)
   | (with_reducible exact ih2 _ _ _ _ _)
   | (with_reducible exact ih3 _ _ _ _ _ _ _)
   | (with_reducible exact ih4 _ _ _ _ _ _ _ _)
   | (with_reducible exact plenumlaw19_awake.mono _)
   | (with_reducible exact plenumlaw19_on.mono _ _)
   | (with_reducible exact timer_Run.mono _ _ _ _ _)
   | (with_reducible exact LeO.refl _)
   | (with_reducible exact LeO.none _)
   | (with_reducible refine LeO.ite ?_ ?_)
   | (with_reducible refine LeO.bind ?_ (fun _ => ?_))
   | exact ih0 _ _ _
   | exact ih1 _ _ _ _ _
   | exact ih2 _ _ _ _ _
   | exact ih3 _ _ _ _ _ _ _
   | exact ih4 _ _ _ _ _ _ _ _
   | exact plenumlaw19_awake.mono _
   | exact plenumlaw19_on.mono _ _
   | exact timer_Run.mono _ _ _ _ _
   | exact LeO.none _
   | refine LeO.ite ?_ ?_
   | refine LeO.bind ?_ (fun _ => ?_)
  ·
   intro y0 y1 y2 y3 y4
   unfold plenumlaw19_TimerDelays.l0
   repeat' first
   | (with_reducible exact ih0 _ _ _)
   | (with_reducible exact ih1 _ _ _ _ _)
   | (with_reducible exact ih2 _ _ _ _ _)
   | (with_reducible exact ih3 _ _ _ _ _ _ _)
   | (with_reducible exact ih4 _ _ _ _ _ _ _ _)
   | (with_reducible exact plenumlaw19_awake.mono _)
   | (with_reducible exact plenumlaw19_on.mono _ _)
   | (with_reducible exact timer_Run.mono _ _ _ _ _)
   | (with_reducible exact LeO.refl _)
   | (with_reducible exact LeO.none _)
   | (with_reducible refine LeO.ite ?_ ?_)
   | (with_reducible refine LeO.bind ?_ (fun _ => ?_))
   | exact ih0 _ _ _
   | exact ih1 _ _ _ _ _
   | exact ih2 _ _ _ _ _
   | exact ih3 _ _ _ _ _ _ _
   | exact ih4 _ _ _ _ _ _ _ _
   | exact plenumlaw19_awake.mono _
   | exact plenumlaw19_on.mono _ _
   | exact timer_Run.mono _ _ _ _ _
   | exact LeO.none _
   | refine LeO.ite ?_ ?_
   | refine LeO.bind ?_ (fun _ => ?_)
  ·
   intro y0 y1 y2 y3 y4 y5 y6
   unfold plenumlaw19_TimerDelays.j4
   repeat' first
   | (with_reducible exact ih0 _ _ _)
   | (with_reducible exact ih1 _ _ _ _ _)
   | (with_reducible exact ih2 _ _ _ _ _)
   | (with_reducible exact ih3 _ _ _ _ _ _ _)
   | (with_reducible exact ih4 _ _ _ _ _ _ _ _)
   | (with_reducible exact plenumlaw19_awake.mono _)
   | (with_reducible exact plenumlaw19_on.mono _ _)
   | (with_reducible exact timer_Run.mono _ _ _ _ _)
   | (with_reducible exact LeO.refl _)
   | (with_reducible exact LeO.none _)
   | (with_reducible refine LeO.ite ?_ ?_)
   | (with_reducible refine LeO.bind ?_ (fun _ => ?_))
   | exact ih0 _ _ _
   | exact ih1 _ _ _ _ _
   | exact ih2 _ _ _ _ _
   | exact ih3 _ _ _ _ _ _ _
   | exact ih4 _ _ _ _ _ _ _ _
   | exact plenumlaw19_awake.mono _
   | exact plenumlaw19_on.mono _ _
   | exact timer_Run.mono _ _ _ _ _
   | exact LeO.none _
   | refine LeO.ite ?_ ?_
   | refine LeO.bind ?_ (fun _ => ?_)
  ·
   intro y0 y1 y2 y3 y4 y5 y6 y7
   unfold plenumlaw19_TimerDelays.l1
   repeat' first
   | (with_reducible exact ih0 _ _ _)
   | (with_reducible exact ih1 _ _ _ _ _)
   | (with_reducible exact ih2 _ _ _ _ _)
   | (with_reducible exact ih3 _ _ _ _ _ _ _)
   | (with_reducible exact ih4 _ _ _ _ _ _ _ _)
   | (with_reducible exact plenumlaw19_awake.mono _)
   | (with_reducible exact plenumlaw19_on.mono _ _)
   | (with_reducible exact timer_Run.mono _ _ _ _ _)
   | (with_reducible exact LeO.refl _)
   | (with_reducible exact LeO.none _)
   | (with_reducible refine LeO.ite ?_ ?_)
   | (with_reducible refine LeO.bind ?_ (fun _ => ?_))
   | exact ih0 _ _ _
   | exact ih1 _ _ _ _ _
   | exact ih2 _ _ _ _ _
   | exact ih3 _ _ _ _ _ _ _
   | exact ih4 _ _ _ _ _ _ _ _
   | exact plenumlaw19_awake.mono _
   | exact plenumlaw19_on.mono _ _
   | exact timer_Run.mono _ _ _ _ _
   | exact LeO.none _
   | refine LeO.ite ?_ ?_
   | refine LeO.bind ?_ (fun _ => ?_)
theorem plenumlaw19_TimerDelays.mono : ∀ a0 a1 k, LeO (plenumlaw19_TimerDelays.f k a0 a1) (plenumlaw19_TimerDelays.f (k + 1) a0 a1) := by
 intro a0 a1 k
 obtain ⟨ih0, ih1, ih2, ih3, ih4⟩ := plenumlaw19_TimerDelays.mono_l k
 unfold plenumlaw19_TimerDelays.f
 repeat' first
   | (with_reducible exact ih0 _ _ _)
   | (with_reducible exact ih1 _ _ _ _ _)
   | (with_reducible exact ih2 _ _ _ _ _)
   | (with_reducible exact ih3 _ _ _ _ _ _ _)
   | (with_reducible exact ih4 _ _ _ _ _ _ _ _)
   | (with_reducible exact plenumlaw19_awake.mono _)
   | (with_reducible exact plenumlaw19_on.mono _ _)
   | (with_reducible exact timer_Run.mono _ _ _ _ _)
   | (with_reducible exact LeO.refl _)
   | (with_reducible exact LeO.none _)
   | (with_reducible refine LeO.ite ?_ ?_)
   | (with_reducible refine LeO.bind ?_ (fun _ => ?_))
   | exact ih0 _ _ _
   | exact ih1 _ _ _ _ _
   | exact ih2 _ _ _ _ _
   | exact ih3 _ _ _ _ _ _ _
   | exact ih4 _ _ _ _ _ _ _ _
   | exact plenumlaw19_awake.mono _
   | exact plenumlaw19_on.mono _ _
   | exact timer_Run.mono _ _ _ _ _
   | exact LeO.none _
   | refine LeO.ite ?_ ?_
   | refine LeO.bind ?_ (fun _ => ?_)
def plenumlaw19_TimerDelays.T18 : Bool × List (List Nat × List Nat) := (true, [([], []), ([], []), ([0, 1], [0, 1]), ([2], [2]), ([], []), ([4], [4]), ([3, 5], [3, 5]), ([6, 5], [6]), ([7], [7]), ([7], [7]), ([8, 9, 7], [7, 8, 9]), ([10, 7], [7, 10]), ([7], [7]), ([12, 7, 7], [7, 12]), ([11, 13, 7], [7, 11, 13]), ([7, 14], [7, 14])])
def plenumlaw19_TimerDelays.B18 : List Nat := [0, 0, 3, 7, 0, 16, 63, 127, 255, 255, 1023, 2047, 255, 4351, 16383, 32767]
theorem plenumlaw19_TimerDelays.tab18 : rtab .any (opsOf Tryd.f3 18) = plenumlaw19_TimerDelays.T18 := by kernel_rfl
theorem plenumlaw19_TimerDelays.bits18 : waitsOk plenumlaw19_TimerDelays.T18.2 plenumlaw19_TimerDelays.B18 = true := by kernel_rfl
set_option maxHeartbeats 8000000 in
set_option maxRecDepth 100000 in
theorem plenumlaw19_TimerDelays.calls (k : Nat) (a0 : Int) (A1 : Option Addr) (c1 : Nat) (l1 : List Bool) (r : Bool) (w : World) (hr1 : Kd.C Kd.bool w A1 l1.length l1) (hc1 : l1.length ≤ c1) (hG : GW w) (h : plenumlaw19_TimerDelays.f k a0 l1 = some r) :
  Calls Tryd.prog 3 #[.int .i64 a0, .slice A1 l1.length c1] w fun e w' => e = .returned (.bool r) ∧ Below w.heap.size w w' := by
 have hu32 := Tryd.underlying32
 have HG := Aside0.mk hG
 clear hG
 have HR1 := Aside0.mk hr1
 have HC1 := Aside0.mk hc1
 clear hr1 hc1
 have HB := Aside0.mk (Below.refl w.heap.size w)
 have H : ((plenumlaw19_awake.f k).bind fun t476 => (if t476 = true then (if (l1.length : Int) > 80 then (plenumlaw19_TimerDelays.j0 k a0 l1 true) else (if a0 < 0 then (plenumlaw19_TimerDelays.j0 k a0 l1 true) else (plenumlaw19_TimerDelays.j0 k a0 l1 (decide (a0 > 100))))) else (none))) = some r := h
 clear h
 replace H := Option.bind_eq_some_iff.mp H
 obtain ⟨t476, A30, H⟩ := H
 (try dsimp only at H)
 have A3 := Aside0.mk A30
 clear A30
 by_cases c4 : t476 = true
 ·
  subst c4
  rw [if_pos rfl] at H
  have HC5 := Aside0.mk H
  clear H
  go_enter Tryd.func3, Tryd.ntmps3
  go_upto_region 3 with (first | ((with_reducible refine gate_callee (f := 8) rfl ?_); refine goesL_ (some 13) rfl rfl Tryd.func8 (by kernel_rfl) rfl #[] rfl aeq ?_; (with_reducible refine (plenumlaw19_awake.calls k  true _ ?side1 A3.out).mono ?_); (case side1 => exact GW.below HG.out bl); rintro e w6 ⟨rfl, hb⟩; refine ⟨_, rfl, ?_⟩; have n0_ := Aside0.mk (below_step bl hb); revert n0_; clear HB; intro HB; (try clear hb); (try clear hb2); (try clear hk); (try clear hi)))
  (try simp only [ap, sa, sb, sc])
  go_cut [25] (fun v25 wc => ∃ (kq : Nat) (x25_4 : Bool), v25 = .bool x25_4 ∧ Aside0 (plenumlaw19_TimerDelays.j0 kq a0 l1 x25_4 = some r) ∧ Aside0 (kq ≤ k) ∧ Aside0 (Below w.heap.size w wc))
  case first =>
   have H := HC5.out
   clear HC5
   by_cases c7 : (l1.length : Int) > 80
   ·
    rw [if_pos c7] at H
    have c7b0 : decide (80 < (l1.length : Int)) = true := decide_eq_true c7
    have c7b1 : decide (80 < l1.length) = true := decide_eq_true (by omega)
    clear c7
    (first | rw [c7b0] | (simp only [i64_w, i32_w]; rw [c7b0]) | skip)
    have H' := Aside0.mk H
    clear H
    go_wp2
    go_meet
    case rel => exact ⟨_, (true), (by first | rfl | (simp; done) | (simp [*]; done)), H', ⟨by first | omega | exact Nat.le_refl _⟩, ⟨bl⟩⟩
   rw [if_neg c7] at H
   have c7b0 : decide (80 < (l1.length : Int)) = false := decide_eq_false c7
   have c7b1 : decide (80 < l1.length) = false := decide_eq_false (by omega)
   clear c7
   (first | rw [c7b0] | (simp only [i64_w, i32_w]; rw [c7b0]) | skip)
   by_cases c8 : a0 < 0
   ·
    rw [if_pos c8] at H
    have c8b0 : decide (a0 < 0) = true := decide_eq_true c8
    clear c8
    have H' := Aside0.mk H
    clear H
    go_wp2
    go_meet
    case rel => exact ⟨_, (true), (by first | rfl | (simp; done) | (simp [*]; done)), H', ⟨by first | omega | exact Nat.le_refl _⟩, ⟨bl⟩⟩
   rw [if_neg c8] at H
   have c8b0 : decide (a0 < 0) = false := decide_eq_false c8
   clear c8
   have H' := Aside0.mk H
   clear H
   go_wp2
   go_meet
   case rel => exact ⟨_, (decide (a0 > 100)), (by first | rfl | (simp; done) | (simp [*]; done)), H', ⟨by first | omega | exact Nat.le_refl _⟩, ⟨bl⟩⟩
  clear HC5
  try clear c1
  try clear p2
  try clear c3
  try clear c4
  try clear c7
  try clear c7b0
  try clear c7b1
  try clear c8
  try clear c8b0
  obtain ⟨kq, x25_4, rfl, HA, HJ4, HB⟩ := hcut
  cases kq with
  | zero => exact absurd HA.out (by simp [plenumlaw19_TimerDelays.j0])
  | succ kj4 =>
   have H := HA.out
   clear HA
   simp only [plenumlaw19_TimerDelays.j0] at H
   by_cases c9 : x25_4 = true
   ·
    subst c9
    rw [if_pos rfl] at H
    obtain rfl := Option.some.inj H
    go_wp2
    go_ret
    exact ⟨by first | rfl | (simp [errW_none, errW_some] <;> rfl) | (simp [*, errW_none, errW_some] <;> rfl), bl⟩
   replace c9 := Bool.eq_false_iff.mpr c9
   subst c9
   rw [if_neg (show ¬ (false = true) by decide)] at H
   obtain ⟨y477, hy477⟩ : ∃ y_ : List Int, y_ = (([a0] : List Int)) := ⟨_, rfl⟩
   replace H : ((plenumlaw19_on.f kj4 l1).bind fun t480 => ((timer_Run.f kj4 (⟨#[111, 110, 100, 101, 108, 97, 121]⟩ : ByteArray) y477 t480 1).bind fun bt483 => ((plenumlaw19_on.f kj4 l1).bind fun t490 => ((timer_Run.f kj4 (⟨#[111, 102, 102, 100, 101, 108, 97, 121]⟩ : ByteArray) (([a0] : List Int)) t490 1).bind fun bt493 => (if bt483.2 = 0 then (if bt493.2 = 0 then (if (bt483.1.length : Int) = (l1.length : Int) then (plenumlaw19_TimerDelays.j1 kj4 a0 l1 bt483.1 bt493.1 ((bt493.1.length : Int) != (l1.length : Int))) else (plenumlaw19_TimerDelays.j1 kj4 a0 l1 bt483.1 bt493.1 true)) else (plenumlaw19_TimerDelays.j1 kj4 a0 l1 bt483.1 bt493.1 true)) else (plenumlaw19_TimerDelays.j1 kj4 a0 l1 bt483.1 bt493.1 true)))))) = some r := by first | (rw [hy477]; with_reducible exact H) | (have H2_ := (Option.bind_some _ _).symm.trans H; rw [hy477]; with_reducible exact H2_) | (have H2_ := (Option.bind_some _ _).symm.trans H; with_reducible exact H2_) | with_reducible exact H | (rw [hy477]; exact H) | exact H
   have Ny477 := Aside0.mk hy477
   clear hy477
   replace H := Option.bind_eq_some_iff.mp H
   obtain ⟨t480, A100, H⟩ := H
   (try dsimp only at H)
   have A10 := Aside0.mk A100
   clear A100
   replace H := Option.bind_eq_some_iff.mp H
   obtain ⟨⟨t483, t484⟩, A110, H⟩ := H
   (try dsimp only at H)
   have A11 := Aside0.mk A110
   clear A110
   obtain ⟨y487, hy487⟩ : ∃ y_ : List Int, y_ = (([a0] : List Int)) := ⟨_, rfl⟩
   replace H : ((plenumlaw19_on.f kj4 l1).bind fun t490 => ((timer_Run.f kj4 (⟨#[111, 102, 102, 100, 101, 108, 97, 121]⟩ : ByteArray) y487 t490 1).bind fun bt493 => (if t484 = 0 then (if bt493.2 = 0 then (if (t483.length : Int) = (l1.length : Int) then (plenumlaw19_TimerDelays.j1 kj4 a0 l1 t483 bt493.1 ((bt493.1.length : Int) != (l1.length : Int))) else (plenumlaw19_TimerDelays.j1 kj4 a0 l1 t483 bt493.1 true)) else (plenumlaw19_TimerDelays.j1 kj4 a0 l1 t483 bt493.1 true)) else (plenumlaw19_TimerDelays.j1 kj4 a0 l1 t483 bt493.1 true)))) = some r := by first | (rw [hy487]; with_reducible exact H) | (have H2_ := (Option.bind_some _ _).symm.trans H; rw [hy487]; with_reducible exact H2_) | (have H2_ := (Option.bind_some _ _).symm.trans H; with_reducible exact H2_) | with_reducible exact H | (rw [hy487]; exact H) | exact H
   have Ny487 := Aside0.mk hy487
   clear hy487
   replace H := Option.bind_eq_some_iff.mp H
   obtain ⟨t490, A120, H⟩ := H
   (try dsimp only at H)
   have A12 := Aside0.mk A120
   clear A120
   replace H := Option.bind_eq_some_iff.mp H
   obtain ⟨⟨t493, t494⟩, A130, H⟩ := H
   (try dsimp only at H)
   have A13 := Aside0.mk A130
   clear A130
   have HC14 := Aside0.mk H
   clear H
   go_upto_region 7 with (first | ((with_reducible refine gate_dst (N := 28) rfl ?_); (try (refine gate_guard (by rfl) ?_; dsimp only)); refine Kd.R_lit (Kd.int .i64) _ 2 ?hg (N := 28) ?hd (xs := ([a0] : List Int)) (inner := [.int .i64 a0]) (ok := fun _ => True) (okp := fun _ => True) ?hr ?hp (fun _ hk => hk) trivial (Below.refl _ _) (Nat.le_refl _) (by simp) ?_; (case hd => rfl); (case hg => rfl); (case hr => first | (go_simp; done) | (go_simp; rfl)); (case hp => exact (Reps.one (show Kd.M (Kd.int .i64) _ _ _ a0 [.int .i64 a0] from rfl) (Reps.none _ _))); intro v478 w15 ho16 hb hg_ hnew_; clear hg_ hnew_; (first | rw [← Ny477.out] at ho16 | (simp only [Int.reduceToNat] at ho16; rw [← Ny477.out] at ho16)); have n0_ := Aside0.mk (Kd.R_lower ho16 (below_size bl)); have n1_ := Aside0.mk (below_step bl hb); revert n0_ n1_; clear HB; intro HO479 HB; clear hb ho16) | ((with_reducible refine gate_callee (f := 10) rfl ?_); refine goesL_ (some 30) rfl rfl Tryd.func10 (by kernel_rfl) rfl #[.slice A1 l1.length c1] rfl aeq ?_; (with_reducible refine (plenumlaw19_on.calls kj4 _ _ l1 t480 _ ?side1 ?side2 A10.out).mono ?_); (case side1 => repeat (first | exact (Kd.C_below HR1.out HB.out) | (with_reducible refine Kd.C_alloc ?_ _) | (with_reducible refine Kd.C_drewN ?_ _) | (with_reducible refine Kd.C_drew ?_))); (case side2 => exact HC1.out); rintro e w17 ⟨v481, rfl, ho0, hb⟩; refine ⟨_, rfl, ?_⟩; have n0_ := Aside0.mk (Kd.R_below (rr HO479.out) hb); have n1_ := Aside0.mk (Kd.S_lower ho0 (below_size bl)); have n2_ := Aside0.mk (below_step bl hb); revert n0_ n1_ n2_; clear HO479 HB; intro HO479 HO482 HB; (try clear hb); (try clear hb2); (try clear hk); (try clear hi); (try clear ho0); obtain ⟨Ao18, co18, eo18⟩ := Kd.R_slice HO479.out; subst eo18; obtain ⟨Ao19, co19, eo19⟩ := Kd.S_slice HO482.out; subst eo19) | ((with_reducible refine gate_callee (f := 9) rfl ?_); refine goesL_ (some 31) rfl rfl Tryd.func9 (by kernel_rfl) rfl #[.string (⟨#[111, 110, 100, 101, 108, 97, 121]⟩ : ByteArray), .slice Ao18 y477.length co18, .slice Ao19 t480.length co19, .int .i64 1] rfl aeq ?_; (with_reducible refine (timer_Run.calls kj4 (⟨#[111, 110, 100, 101, 108, 97, 121]⟩ : ByteArray) _ _ y477 _ _ t480 1 t483 t484 _ ?side1 ?side2 ?side3 ?side4 ?side5 A11.out).mono ?_); (case side1 => repeat (first | exact (Kd.R_reads' HO479.out).2.2 | (with_reducible refine Kd.C_alloc ?_ _) | (with_reducible refine Kd.C_drewN ?_ _) | (with_reducible refine Kd.C_drew ?_))); (case side2 => exact (Kd.R_reads' HO479.out).2.1); (case side3 => repeat (first | exact (Kd.S_reads' HO482.out).2.2 | (with_reducible refine Kd.C_alloc ?_ _) | (with_reducible refine Kd.C_drewN ?_ _) | (with_reducible refine Kd.C_drew ?_))); (case side4 => exact (Kd.S_reads' HO482.out).2.1); (case side5 => exact GW.below HG.out bl); rintro e w20 ⟨v485, rfl, ho0, hb⟩; refine ⟨_, rfl, ?_⟩; have n0_ := Aside0.mk (Kd.R_below (rr HO479.out) hb); have n1_ := Aside0.mk (Kd.S_elder' (rs HO482.out) (Kd.R_base ho0) hb); have n2_ := Aside0.mk (Kd.R_lower ho0 (below_size bl)); have n3_ := Aside0.mk (below_step bl hb); revert n0_ n1_ n2_ n3_; clear HO479 HO482 HB; intro HO479 HO482 HO486 HB; (try clear hb); (try clear hb2); (try clear hk); (try clear hi); (try clear ho0)) | ((with_reducible refine gate_dst (N := 36) rfl ?_); (try (refine gate_guard (by rfl) ?_; dsimp only)); refine Kd.R_lit (Kd.int .i64) _ 2 ?hg (N := 36) ?hd (xs := ([a0] : List Int)) (inner := [.int .i64 a0]) (ok := fun _ => True) (okp := fun _ => True) ?hr ?hp (fun _ hk => hk) trivial (Below.refl _ _) (Nat.le_refl _) (by simp) ?_; (case hd => rfl); (case hg => rfl); (case hr => first | (go_simp; done) | (go_simp; rfl)); (case hp => exact (Reps.one (show Kd.M (Kd.int .i64) _ _ _ a0 [.int .i64 a0] from rfl) (Reps.none _ _))); intro v488 w21 ho22 hb hg_ hnew_; clear hg_ hnew_; (first | rw [← Ny487.out] at ho22 | (simp only [Int.reduceToNat] at ho22; rw [← Ny487.out] at ho22)); have n0_ := Aside0.mk (Kd.R_elder' (rr HO479.out) (Kd.R_base ho22) hb); have n1_ := Aside0.mk (Kd.S_below (rs HO482.out) hb); have n2_ := Aside0.mk (Kd.R_below (rr HO486.out) hb); have n3_ := Aside0.mk (Kd.R_lower (Kd.R_new' ho22 (Kd.R_lt (rr HO479.out))) (below_size bl)); have n4_ := Aside0.mk (below_step bl hb); revert n0_ n1_ n2_ n3_ n4_; clear HO479 HO482 HO486 HB; intro HO479 HO482 HO486 HO489 HB; clear hb ho22) | ((with_reducible refine gate_callee (f := 10) rfl ?_); refine goesL_ (some 38) rfl rfl Tryd.func10 (by kernel_rfl) rfl #[.slice A1 l1.length c1] rfl aeq ?_; (with_reducible refine (plenumlaw19_on.calls kj4 _ _ l1 t490 _ ?side1 ?side2 A12.out).mono ?_); (case side1 => repeat (first | exact (Kd.C_below HR1.out HB.out) | (with_reducible refine Kd.C_alloc ?_ _) | (with_reducible refine Kd.C_drewN ?_ _) | (with_reducible refine Kd.C_drew ?_))); (case side2 => exact HC1.out); rintro e w23 ⟨v491, rfl, ho0, hb⟩; refine ⟨_, rfl, ?_⟩; have n0_ := Aside0.mk (Kd.R_below (rr HO479.out) hb); have n1_ := Aside0.mk (Kd.S_elder' (rs HO482.out) (Kd.S_base ho0) hb); have n2_ := Aside0.mk (Kd.R_below (rr HO486.out) hb); have n3_ := Aside0.mk (Kd.R_below (rr HO489.out) hb); have n4_ := Aside0.mk (Kd.S_lower (Kd.S_new' (Kd.S_new' ho0 (Kd.S_lt (rs HO482.out))) (Kd.R_lt (rr HO486.out))) (below_size bl)); have n5_ := Aside0.mk (below_step bl hb); revert n0_ n1_ n2_ n3_ n4_ n5_; clear HO479 HO482 HO486 HO489 HB; intro HO479 HO482 HO486 HO489 HO492 HB; (try clear hb); (try clear hb2); (try clear hk); (try clear hi); (try clear ho0); obtain ⟨Ao24, co24, eo24⟩ := Kd.R_slice HO489.out; subst eo24; obtain ⟨Ao25, co25, eo25⟩ := Kd.S_slice HO492.out; subst eo25) | ((with_reducible refine gate_callee (f := 9) rfl ?_); refine goesL_ (some 39) rfl rfl Tryd.func9 (by kernel_rfl) rfl #[.string (⟨#[111, 102, 102, 100, 101, 108, 97, 121]⟩ : ByteArray), .slice Ao24 y487.length co24, .slice Ao25 t490.length co25, .int .i64 1] rfl aeq ?_; (with_reducible refine (timer_Run.calls kj4 (⟨#[111, 102, 102, 100, 101, 108, 97, 121]⟩ : ByteArray) _ _ y487 _ _ t490 1 t493 t494 _ ?side1 ?side2 ?side3 ?side4 ?side5 A13.out).mono ?_); (case side1 => repeat (first | exact (Kd.R_reads' HO489.out).2.2 | (with_reducible refine Kd.C_alloc ?_ _) | (with_reducible refine Kd.C_drewN ?_ _) | (with_reducible refine Kd.C_drew ?_))); (case side2 => exact (Kd.R_reads' HO489.out).2.1); (case side3 => repeat (first | exact (Kd.S_reads' HO492.out).2.2 | (with_reducible refine Kd.C_alloc ?_ _) | (with_reducible refine Kd.C_drewN ?_ _) | (with_reducible refine Kd.C_drew ?_))); (case side4 => exact (Kd.S_reads' HO492.out).2.1); (case side5 => exact GW.below HG.out bl); rintro e w26 ⟨v495, rfl, ho0, hb⟩; refine ⟨_, rfl, ?_⟩; have n0_ := Aside0.mk (Kd.R_below (rr HO479.out) hb); have n1_ := Aside0.mk (Kd.S_elder' (rs HO482.out) (Kd.R_base ho0) hb); have n2_ := Aside0.mk (Kd.R_elder' (rr HO486.out) (Kd.R_base ho0) hb); have n3_ := Aside0.mk (Kd.R_below (rr HO489.out) hb); have n4_ := Aside0.mk (Kd.S_elder' (rs HO492.out) (Kd.R_base ho0) hb); have n5_ := Aside0.mk (Kd.R_lower (Kd.R_new' ho0 (Kd.R_lt (rr HO486.out))) (below_size bl)); have n6_ := Aside0.mk (below_step bl hb); revert n0_ n1_ n2_ n3_ n4_ n5_ n6_; clear HO479 HO482 HO486 HO489 HO492 HB; intro HO479 HO482 HO486 HO489 HO492 HO496 HB; (try clear hb); (try clear hb2); (try clear hk); (try clear hi); (try clear ho0)))
   (try simp only [ap, sa, sb, sc])
   go_cut [61] (fun v61 wc => ∃ (kq : Nat) (x61_13 : Bool), v61 = .bool x61_13 ∧ Aside0 (plenumlaw19_TimerDelays.j1 kq a0 l1 t483 t493 x61_13 = some r) ∧ Aside0 (kq ≤ kj4) ∧ Aside0 (Kd.R k32 32 wc w.heap.size (fun k_ => some k_ ≠ (v495 : Value).ownBlock) v485 t483) ∧ Aside0 (Kd.R k32 32 wc w.heap.size (fun k_ => some k_ ≠ (v485 : Value).ownBlock) v495 t493) ∧ Aside0 (Below w.heap.size w wc))
   case first =>
    have H := HC14.out
    clear HC14
    by_cases c27 : t484 = 0
    rotate_left
    ·
     rw [if_neg c27] at H
     have c27b0 : (t484 == 0) = false := beq_eq_false_iff_ne.mpr c27
     have c27b1 : (t484 != 0) = true := bne_iff_ne.mpr c27
     (first | rw [c27b0] | (simp only [i64_w, i32_w]; rw [c27b0]) | skip)
     have H' := Aside0.mk H
     clear H
     go_wp2
     go_meet
     case rel => exact ⟨_, (true), (by first | rfl | (simp; done) | (simp [*]; done)), H', ⟨by have := HJ4.out; first | omega | exact Nat.le_refl _⟩, ⟨rr (Kd.R_mono HO486.out (fun _ hk => hk.2))⟩, ⟨rr (Kd.R_mono HO496.out (fun _ hk => hk.2))⟩, ⟨bl⟩⟩
    rw [if_pos c27] at H
    have c27b0 : (t484 == 0) = true := beq_iff_eq.mpr c27
    have c27b1 : (t484 != 0) = false := bne_eq_false_iff_eq.mpr c27
    clear c27
    (first | rw [c27b0] | (simp only [i64_w, i32_w]; rw [c27b0]) | skip)
    by_cases c28 : t494 = 0
    rotate_left
    ·
     rw [if_neg c28] at H
     have c28b0 : (t494 == 0) = false := beq_eq_false_iff_ne.mpr c28
     have c28b1 : (t494 != 0) = true := bne_iff_ne.mpr c28
     have H' := Aside0.mk H
     clear H
     go_wp2
     go_meet
     case rel => exact ⟨_, (true), (by first | rfl | (simp; done) | (simp [*]; done)), H', ⟨by have := HJ4.out; first | omega | exact Nat.le_refl _⟩, ⟨rr (Kd.R_mono HO486.out (fun _ hk => hk.2))⟩, ⟨rr (Kd.R_mono HO496.out (fun _ hk => hk.2))⟩, ⟨bl⟩⟩
    rw [if_pos c28] at H
    have c28b0 : (t494 == 0) = true := beq_iff_eq.mpr c28
    have c28b1 : (t494 != 0) = false := bne_eq_false_iff_eq.mpr c28
    clear c28
    by_cases c29 : (t483.length : Int) = (l1.length : Int)
    rotate_left
    ·
     rw [if_neg c29] at H
     have c29b0 : ((t483.length : Int) == (l1.length : Int)) = false := beq_eq_false_iff_ne.mpr c29
     have c29b1 : ((t483.length : Int) != (l1.length : Int)) = true := bne_iff_ne.mpr c29
     have c29b2 : (t483.length == l1.length) = false := by first | simpa using c29 | (simp at c29 ⊢; omega)
     have H' := Aside0.mk H
     clear H
     obtain ⟨Ao32, co32, eo32⟩ := Kd.R_slice HO486.out
     subst eo32
     go_wp2
     go_meet
     case rel => exact ⟨_, (true), (by first | rfl | (simp; done) | (simp [*]; done)), H', ⟨by have := HJ4.out; first | omega | exact Nat.le_refl _⟩, ⟨rr (Kd.R_mono HO486.out (fun _ hk => hk.2))⟩, ⟨rr (Kd.R_mono HO496.out (fun _ hk => hk.2))⟩, ⟨bl⟩⟩
    rw [if_pos c29] at H
    have c29b0 : ((t483.length : Int) == (l1.length : Int)) = true := beq_iff_eq.mpr c29
    have c29b1 : ((t483.length : Int) != (l1.length : Int)) = false := bne_eq_false_iff_eq.mpr c29
    have c29b2 : (t483.length == l1.length) = true := by first | simpa using c29 | (simp at c29 ⊢; omega)
    clear c29
    have H' := Aside0.mk H
    clear H
    obtain ⟨Ao30, co30, eo30⟩ := Kd.R_slice HO486.out
    subst eo30
    obtain ⟨Ao31, co31, eo31⟩ := Kd.R_slice HO496.out
    subst eo31
    go_wp2
    go_meet
    case rel => exact ⟨_, (((t493.length : Int) != (l1.length : Int))), (by first | rfl | (simp; done) | (simp [*]; done)), H', ⟨by have := HJ4.out; first | omega | exact Nat.le_refl _⟩, ⟨rr (Kd.R_mono HO486.out (fun _ hk => hk.2))⟩, ⟨rr (Kd.R_mono HO496.out (fun _ hk => hk.2))⟩, ⟨bl⟩⟩
   clear HC14
   try clear c1
   try clear c2
   try clear p2
   try clear c3
   try clear c4
   try clear c7
   try clear c7b0
   try clear c7b1
   try clear c8
   try clear c8b0
   try clear c9
   try clear c10
   try clear c27
   try clear c27b0
   try clear c27b1
   try clear c28
   try clear c28b0
   try clear c28b1
   try clear c29
   try clear c29b0
   try clear c29b1
   try clear c29b2
   try clear p2
   obtain ⟨kq, x61_13, rfl, HA, HJ13, HO_5, HO_7, HB⟩ := hcut
   cases kq with
   | zero => exact absurd HA.out (by simp [plenumlaw19_TimerDelays.j1])
   | succ kj13 =>
    have H := HA.out
    clear HA
    simp only [plenumlaw19_TimerDelays.j1] at H
    by_cases c33 : x61_13 = true
    ·
     subst c33
     rw [if_pos rfl] at H
     exact absurd H (by simp)
    replace c33 := Bool.eq_false_iff.mpr c33
    subst c33
    rw [if_neg (show ¬ (false = true) by decide)] at H
    have H' := Aside0.mk H
    clear H
    go_wp2
    go_loopg [9] kj13 (fun kq v9 w' => ∃ (x9_3 : Int), v9 = .int .i64 x9_3 ∧ Aside0 (plenumlaw19_TimerDelays.l0 kq a0 l1 t483 t493 x9_3 = some r) ∧ Aside0 (kq ≤ kj13) ∧ Aside0 (Kd.R k32 32 w' w.heap.size (fun k_ => some k_ ≠ (v495 : Value).ownBlock) v485 t483) ∧ Aside0 (Kd.R k32 32 w' w.heap.size (fun k_ => some k_ ≠ (v485 : Value).ownBlock) v495 t493) ∧ Aside0 (Below w.heap.size w w'))
    case atStart => exact ⟨(0), (by first | rfl | (simp; done) | (simp [*]; done)), H', ⟨Nat.le_refl _⟩, ⟨rr HO_5.out⟩, ⟨rr HO_7.out⟩, ⟨bl⟩⟩
    case round =>
     clear H'
     try clear c1
     try clear c2
     try clear p2
     try clear c3
     try clear c4
     try clear c7
     try clear c7b0
     try clear c7b1
     try clear c8
     try clear c8b0
     try clear c9
     try clear c10
     try clear c27
     try clear c27b0
     try clear c27b1
     try clear c28
     try clear c28b0
     try clear c28b1
     try clear c29
     try clear c29b0
     try clear c29b1
     try clear c29b2
     try clear c33
     try clear p2
     obtain ⟨x9_3, rfl, HA, HK3, HO_5, HO_7, HB⟩ := hrel
     cases gk with
     | zero => exact absurd HA.out (by simp [plenumlaw19_TimerDelays.l0])
     | succ k3 =>
      have H := HA.out
      clear HA
      simp only [plenumlaw19_TimerDelays.l0] at H
      by_cases c34 : x9_3 < (l1.length : Int)
      rotate_left
      ·
       rw [if_neg c34] at H
       have c34b0 : decide (x9_3 < (l1.length : Int)) = false := decide_eq_false c34
       clear c34
       obtain rfl := Option.some.inj H
       go_wp2
       go_ret
       exact ⟨by first | rfl | (simp [errW_none, errW_some] <;> rfl) | (simp [*, errW_none, errW_some] <;> rfl), bl⟩
      rw [if_pos c34] at H
      have c34b0 : decide (x9_3 < (l1.length : Int)) = true := decide_eq_true c34
      clear c34
      have HC35 := Aside0.mk H
      clear H
      go_upto_block 2 with (fail)
      go_cut [10, 11] (fun v10 v11 wc => ∃ (kq : Nat) (x10_34 : Bool) (x11_34 : Bool), v10 = .bool x10_34 ∧ v11 = .bool x11_34 ∧ Aside0 (plenumlaw19_TimerDelays.j4 kq a0 l1 t483 t493 x9_3 x10_34 x11_34 = some r) ∧ Aside0 (kq ≤ k3) ∧ Aside0 (Kd.R k32 32 wc w.heap.size (fun k_ => some k_ ≠ (v495 : Value).ownBlock) v485 t483) ∧ Aside0 (Kd.R k32 32 wc w.heap.size (fun k_ => some k_ ≠ (v485 : Value).ownBlock) v495 t493) ∧ Aside0 (Below w.heap.size w wc))
      case first =>
       have H := HC35.out
       clear HC35
       have H' := Aside0.mk H
       clear H
       go_wp2
       go_loopg [10, 11, 12] k3 (fun kq v10 v11 v12 w' => ∃ (x10_4 : Bool) (x11_4 : Bool) (x12_4 : Int), v10 = .bool x10_4 ∧ v11 = .bool x11_4 ∧ v12 = .int .i64 x12_4 ∧ Aside0 (plenumlaw19_TimerDelays.l1 kq a0 l1 t483 t493 x9_3 x10_4 x11_4 x12_4 = some r) ∧ Aside0 (kq ≤ k3) ∧ Aside0 (Kd.R k32 32 w' w.heap.size (fun k_ => some k_ ≠ (v495 : Value).ownBlock) v485 t483) ∧ Aside0 (Kd.R k32 32 w' w.heap.size (fun k_ => some k_ ≠ (v485 : Value).ownBlock) v495 t493) ∧ Aside0 (Below w.heap.size w w'))
       case atStart => exact ⟨(decide (x9_3 ≥ a0)), (false), (x9_3), (by first | rfl | (simp; done) | (simp [*]; done)), (by first | rfl | (simp; done) | (simp [*]; done)), (by first | rfl | (simp; done) | (simp [*]; done)), H', ⟨Nat.le_refl _⟩, ⟨rr HO_5.out⟩, ⟨rr HO_7.out⟩, ⟨bl⟩⟩
       case round =>
        clear H'
        try clear c1
        try clear c2
        try clear p2
        try clear c3
        try clear c4
        try clear c7
        try clear c7b0
        try clear c7b1
        try clear c8
        try clear c8b0
        try clear c9
        try clear c10
        try clear c27
        try clear c27b0
        try clear c27b1
        try clear c28
        try clear c28b0
        try clear c28b1
        try clear c29
        try clear c29b0
        try clear c29b1
        try clear c29b2
        try clear c33
        try clear c34
        try clear c34b0
        try clear p2
        obtain ⟨x10_4, x11_4, x12_4, rfl, rfl, rfl, HA, HK4, HO_5, HO_7, HB⟩ := hrel
        cases gk with
        | zero => exact absurd HA.out (by simp [plenumlaw19_TimerDelays.l1])
        | succ k4 =>
         have H := HA.out
         clear HA
         simp only [plenumlaw19_TimerDelays.l1] at H
         by_cases c36 : x12_4 ≥ 0
         rotate_left
         ·
          rw [if_neg c36] at H
          have c36b0 : decide (0 ≤ x12_4) = false := decide_eq_false c36
          clear c36
          (first | rw [c36b0] | (simp only [i64_w, i32_w]; rw [c36b0]) | skip)
          have H' := Aside0.mk H
          clear H
          go_wp2
          go_meet
          case rel => exact ⟨_, (x10_4), (x11_4), (by first | rfl | (simp; done) | (simp [*]; done)), (by first | rfl | (simp; done) | (simp [*]; done)), H', ⟨by have := HJ4.out; have := HJ13.out; have := HK3.out; have := HK4.out; first | omega | exact Nat.le_refl _⟩, ⟨rr HO_5.out⟩, ⟨rr HO_7.out⟩, ⟨bl⟩⟩
         rw [if_pos c36] at H
         have c36b0 : decide (0 ≤ x12_4) = true := decide_eq_true c36
         clear c36
         (first | rw [c36b0] | (simp only [i64_w, i32_w]; rw [c36b0]) | skip)
         by_cases c37 : x12_4 ≥ (wrap64 (x9_3 - a0))
         rotate_left
         ·
          rw [if_neg c37] at H
          have c37b0 : decide ((wrap64 (x9_3 - a0)) ≤ x12_4) = false := decide_eq_false c37
          clear c37
          have H' := Aside0.mk H
          clear H
          go_wp2
          go_meet
          case rel => exact ⟨_, (x10_4), (x11_4), (by first | rfl | (simp; done) | (simp [*]; done)), (by first | rfl | (simp; done) | (simp [*]; done)), H', ⟨by have := HJ4.out; have := HJ13.out; have := HK3.out; have := HK4.out; first | omega | exact Nat.le_refl _⟩, ⟨rr HO_5.out⟩, ⟨rr HO_7.out⟩, ⟨bl⟩⟩
         rw [if_pos c37] at H
         have c37b0 : decide ((wrap64 (x9_3 - a0)) ≤ x12_4) = true := decide_eq_true c37
         clear c37
         by_cases c38 : x10_4 = true
         rotate_left
         ·
          replace c38 := Bool.eq_false_iff.mpr c38
          subst c38
          rw [if_neg (show ¬ (false = true) by decide)] at H
          by_cases c42 : x11_4 = true
          ·
           subst c42
           rw [if_pos rfl] at H
           have H' := Aside0.mk H
           clear H
           go_wp2
           go_roundg k4
           case measure => have := HJ4.out; have := HJ13.out; have := HK3.out; have := HK4.out; omega
           case rel => exact ⟨(false), (true), (wrap64 (x12_4 - 1)), (by first | rfl | (simp; done) | (simp [*]; done)), (by first | rfl | (simp; done) | (simp [*]; done)), (by first | rfl | (simp; done) | (simp [*]; done)), H', ⟨by have := HJ4.out; have := HJ13.out; have := HK3.out; have := HK4.out; omega⟩, ⟨rr HO_5.out⟩, ⟨rr HO_7.out⟩, ⟨bl⟩⟩
          replace c42 := Bool.eq_false_iff.mpr c42
          subst c42
          rw [if_neg (show ¬ (false = true) by decide)] at H
          by_cases c43 : 0 ≤ x12_4
          rotate_left
          ·
           rw [if_neg c43] at H
           exact absurd H (by simp)
          rw [if_pos c43] at H
          have c43b0 : decide (0 ≤ x12_4) = true := decide_eq_true c43
          clear c43
          by_cases c44 : x12_4 < (l1.length : Int)
          rotate_left
          ·
           rw [if_neg c44] at H
           exact absurd H (by simp)
          rw [if_pos c44] at H
          have c44b0 : decide (x12_4 < (l1.length : Int)) = true := decide_eq_true c44
          clear c44
          have H' := Aside0.mk H
          clear H
          have p499 : 0 ≤ (x12_4 : Int) := ode
          have q499 : x12_4 < (l1.length : Int) := ode
          obtain ⟨ad499, e499, hx499_0⟩ := Kd.at_bool HR1.out x12_4 p499 q499
          cases e499
          replace hx499_0 := (HB.out.cell (World.block_lt_of_cell? w _ hx499_0)).trans hx499_0
          replace p499 := eq_true p499
          replace q499 := eq_true q499
          go_wp2
          go_roundg k4
          case measure => have := HJ4.out; have := HJ13.out; have := HK3.out; have := HK4.out; omega
          case rel => exact ⟨(false), (rdOf false l1 x12_4), (wrap64 (x12_4 - 1)), (by first | rfl | (simp; done) | (simp [*]; done)), (by first | rfl | (simp; done) | (simp [*]; done)), (by first | rfl | (simp; done) | (simp [*]; done)), H', ⟨by have := HJ4.out; have := HJ13.out; have := HK3.out; have := HK4.out; omega⟩, ⟨rr HO_5.out⟩, ⟨rr HO_7.out⟩, ⟨bl⟩⟩
         subst c38
         rw [if_pos rfl] at H
         by_cases c39 : 0 ≤ x12_4
         rotate_left
         ·
          rw [if_neg c39] at H
          exact absurd H (by simp)
         rw [if_pos c39] at H
         have c39b0 : decide (0 ≤ x12_4) = true := decide_eq_true c39
         clear c39
         by_cases c40 : x12_4 < (l1.length : Int)
         rotate_left
         ·
          rw [if_neg c40] at H
          exact absurd H (by simp)
         rw [if_pos c40] at H
         have c40b0 : decide (x12_4 < (l1.length : Int)) = true := decide_eq_true c40
         clear c40
         by_cases c41 : x11_4 = true
         ·
          subst c41
          rw [if_pos rfl] at H
          have H' := Aside0.mk H
          clear H
          have p497 : 0 ≤ (x12_4 : Int) := ode
          have q497 : x12_4 < (l1.length : Int) := ode
          obtain ⟨ad497, e497, hx497_0⟩ := Kd.at_bool HR1.out x12_4 p497 q497
          cases e497
          replace hx497_0 := (HB.out.cell (World.block_lt_of_cell? w _ hx497_0)).trans hx497_0
          replace p497 := eq_true p497
          replace q497 := eq_true q497
          go_wp2
          go_roundg k4
          case measure => have := HJ4.out; have := HJ13.out; have := HK3.out; have := HK4.out; omega
          case rel => exact ⟨(rdOf false l1 x12_4), (true), (wrap64 (x12_4 - 1)), (by first | rfl | (simp; done) | (simp [*]; done)), (by first | rfl | (simp; done) | (simp [*]; done)), (by first | rfl | (simp; done) | (simp [*]; done)), H', ⟨by have := HJ4.out; have := HJ13.out; have := HK3.out; have := HK4.out; omega⟩, ⟨rr HO_5.out⟩, ⟨rr HO_7.out⟩, ⟨bl⟩⟩
         replace c41 := Bool.eq_false_iff.mpr c41
         subst c41
         rw [if_neg (show ¬ (false = true) by decide)] at H
         have H' := Aside0.mk H
         clear H
         have p497 : 0 ≤ (x12_4 : Int) := ode
         have q497 : x12_4 < (l1.length : Int) := ode
         obtain ⟨ad497, e497, hx497_0⟩ := Kd.at_bool HR1.out x12_4 p497 q497
         cases e497
         replace hx497_0 := (HB.out.cell (World.block_lt_of_cell? w _ hx497_0)).trans hx497_0
         replace p497 := eq_true p497
         replace q497 := eq_true q497
         have p498 : 0 ≤ (x12_4 : Int) := ode
         have q498 : x12_4 < (l1.length : Int) := ode
         obtain ⟨ad498, e498, hx498_0⟩ := Kd.at_bool HR1.out x12_4 p498 q498
         obtain rfl : ad497 = ad498 := (by injection e498)
         replace hx498_0 := (HB.out.cell (World.block_lt_of_cell? w _ hx498_0)).trans hx498_0
         replace p498 := eq_true p498
         replace q498 := eq_true q498
         go_wp2
         go_roundg k4
         case measure => have := HJ4.out; have := HJ13.out; have := HK3.out; have := HK4.out; omega
         case rel => exact ⟨(rdOf false l1 x12_4), (rdOf false l1 x12_4), (wrap64 (x12_4 - 1)), (by first | rfl | (simp; done) | (simp [*]; done)), (by first | rfl | (simp; done) | (simp [*]; done)), (by first | rfl | (simp; done) | (simp [*]; done)), H', ⟨by have := HJ4.out; have := HJ13.out; have := HK3.out; have := HK4.out; omega⟩, ⟨rr HO_5.out⟩, ⟨rr HO_7.out⟩, ⟨bl⟩⟩
      clear HC35
      try clear c1
      try clear c2
      try clear p2
      try clear c3
      try clear c4
      try clear p4
      try clear q4
      try clear hx4
      try clear p6
      try clear c7
      try clear c7b0
      try clear c7b1
      try clear c8
      try clear c8b0
      try clear c9
      try clear c10
      try clear c27
      try clear c27b0
      try clear c27b1
      try clear c28
      try clear c28b0
      try clear c28b1
      try clear c29
      try clear c29b0
      try clear c29b1
      try clear c29b2
      try clear c33
      try clear c34
      try clear c34b0
      try clear c36
      try clear c36b0
      try clear c37
      try clear c37b0
      try clear c38
      try clear c39
      try clear c39b0
      try clear c40
      try clear c40b0
      try clear c41
      try clear c42
      try clear c43
      try clear c43b0
      try clear c44
      try clear c44b0
      try clear hx497_0
      try clear hx498_0
      try clear hx499_0
      try clear p2
      try clear p497
      try clear p498
      try clear p499
      try clear q497
      try clear q498
      try clear q499
      obtain ⟨kq, x10_34, x11_34, rfl, rfl, HA, HJ34, HO_5, HO_7, HB⟩ := hcut
      cases kq with
      | zero => exact absurd HA.out (by simp [plenumlaw19_TimerDelays.j4])
      | succ kj34 =>
       have H := HA.out
       clear HA
       simp only [plenumlaw19_TimerDelays.j4] at H
       by_cases c45 : 0 ≤ x9_3
       rotate_left
       ·
        rw [if_neg c45] at H
        exact absurd H (by simp)
       rw [if_pos c45] at H
       have c45b0 : decide (0 ≤ x9_3) = true := decide_eq_true c45
       clear c45
       by_cases c46 : x9_3 < (t483.length : Int)
       rotate_left
       ·
        rw [if_neg c46] at H
        exact absurd H (by simp)
       rw [if_pos c46] at H
       have c46b0 : decide (x9_3 < (t483.length : Int)) = true := decide_eq_true c46
       clear c46
       replace H := Option.bind_eq_some_iff.mp H
       obtain ⟨⟨t501, t502⟩, A470, H⟩ := H
       (try dsimp only at H)
       have A47 := Aside0.mk A470
       clear A470
       by_cases c48 : (!(((rd_T32 t483 x9_3).f0) == t501) || (!(((rd_T32 t483 x9_3).f1) == t502))) = true
       ·
        rw [if_pos c48] at H
        have c48b0 : (!(((rd_T32 t483 x9_3).f0) == t501) || (!(((rd_T32 t483 x9_3).f1) == t502))) = true := c48
        clear c48
        exact absurd H (by simp)
       rw [if_neg c48] at H
       have c48b0 : (!(((rd_T32 t483 x9_3).f0) == t501) || (!(((rd_T32 t483 x9_3).f1) == t502))) = false := by simpa using c48
       clear c48
       by_cases c49 : x9_3 < (t493.length : Int)
       rotate_left
       ·
        rw [if_neg c49] at H
        exact absurd H (by simp)
       rw [if_pos c49] at H
       have c49b0 : decide (x9_3 < (t493.length : Int)) = true := decide_eq_true c49
       clear c49
       replace H := Option.bind_eq_some_iff.mp H
       obtain ⟨⟨t504, t505⟩, A500, H⟩ := H
       (try dsimp only at H)
       have A50 := Aside0.mk A500
       clear A500
       by_cases c51 : (!(((rd_T32 t493 x9_3).f0) == t504) || (!(((rd_T32 t493 x9_3).f1) == t505))) = true
       ·
        rw [if_pos c51] at H
        exact absurd H (by simp)
       rw [if_neg c51] at H
       have c51b0 : (!(((rd_T32 t493 x9_3).f0) == t504) || (!(((rd_T32 t493 x9_3).f1) == t505))) = false := by simpa using c51
       clear c51
       have H' := Aside0.mk H
       clear H
       try go_wp2
       have n0_ := Aside0.mk (Kd.R_drew HO_5.out)
       have n1_ := Aside0.mk (Kd.R_drew HO_7.out)
       have n2_ := Aside0.mk (below_drew1 HB.out)
       revert n0_ n1_ n2_; clear HO_5 HO_7 HB; intro HO_5 HO_7 HB
       obtain ⟨Ao53, co53, eo53⟩ := Kd.R_slice HO_5.out
       (first | subst eo53 | (injection eo53 with f1_ f2_ f3_; have f4_ := f1_.symm; have f5_ := f3_.symm; clear f1_ f2_ f3_; subst f4_; subst f5_))
       have p500 : 0 ≤ (x9_3 : Int) := ode
       have q500 : x9_3 < (t483.length : Int) := ode
       obtain ⟨ad500, e500, hx500_0, hx500_1⟩ := at_T32 (Kd.R_reads' HO_5.out).2.2 x9_3 p500 q500
       cases e500
       replace p500 := eq_true p500
       replace q500 := eq_true q500
       have p503 : 0 ≤ (x9_3 : Int) := ode
       have q503 : x9_3 < (t493.length : Int) := ode
       obtain ⟨Az783, cz783, ez783⟩ := Kd.R_slice HO_7.out
       (first | subst ez783 | (injection ez783 with f1_ f2_ f3_; have f4_ := f1_.symm; have f5_ := f3_.symm; clear f1_ f2_ f3_; subst f4_; subst f5_))
       obtain ⟨ad503, e503, hx503_0, hx503_1⟩ := at_T32 (Kd.R_reads' HO_7.out).2.2 x9_3 p503 q503
       cases e503
       replace p503 := eq_true p503
       replace q503 := eq_true q503
       refine start_ (n := 16) (S := fun w' => w'.cell? (ad500.add ((x9_3).toNat * 2)) = some (.int .i64 ((rd_T32 t483 x9_3).f0)) ∧ w'.cell? ⟨(ad500.add ((x9_3).toNat * 2)).block, (ad500.add ((x9_3).toNat * 2)).off + 1, none⟩ = some (.int .i64 ((rd_T32 t483 x9_3).f1)) ∧ w'.cell? (ad503.add ((x9_3).toNat * 2)) = some (.int .i64 ((rd_T32 t493 x9_3).f0)) ∧ w'.cell? ⟨(ad503.add ((x9_3).toNat * 2)).block, (ad503.add ((x9_3).toNat * 2)).off + 1, none⟩ = some (.int .i64 ((rd_T32 t493 x9_3).f1))) (ds := []) #[F, F, F, F, F, F, F, F, F, F, F, F, F, F, F, F] (by kernel_rfl) rfl rfl ⟨hx500_0, hx500_1, hx503_0, hx503_1⟩ (fun hHeld => ?_); refine with_tabW plenumlaw19_TimerDelays.tab18 plenumlaw19_TimerDelays.bits18 (fun HT_ HW_ => ?_)
       generalize wc.drew = w52 at HO_5 HO_7 HB hx500_0 hx500_1 hx503_0 hx503_1 hHeld ⊢
       refine pure_ (i := 0) (N := some 97) (v := ?_) (a' := ?_) #[T, F, F, F, F, F, F, F, F, F, F, F, F, F, F, F] rfl rfl (any_of HT_.out (by kernel_rfl)) (fun _ _ _ h => h) (Or.inl ⟨by rfl, ?_⟩) ?_ ?_
       rotate_left
       ·
        intro w'
        go_simp
        with_reducible rfl
       rotate_left
       ·
        simp only [ap, sa, sb, sc, i64_w, i32_w]
        rfl
       refine pure_ (i := 1) (N := some 98) (v := ?_) (a' := ?_) #[T, T, F, F, F, F, F, F, F, F, F, F, F, F, F, F] rfl rfl (any_of HT_.out (by kernel_rfl)) (fun _ _ _ h => h) (Or.inl ⟨by rfl, ?_⟩) ?_ ?_
       rotate_left
       ·
        intro w'
        go_simp
        with_reducible rfl
       rotate_left
       ·
        simp only [ap, sa, sb, sc, i64_w, i32_w]
        rfl
       refine pure_ (i := 2) (N := some 99) (v := ?_) (a' := ?_) #[T, T, T, F, F, F, F, F, F, F, F, F, F, F, F, F] rfl rfl (any_of HT_.out (by kernel_rfl)) (fun _ _ _ h => h) (Or.inl ⟨by rfl, ?_⟩) ?_ ?_
       rotate_left
       ·
        intro w'
        go_simp
        with_reducible rfl
       rotate_left
       ·
        simp only [ap, sa, sb, sc, i64_w, i32_w]
        rfl
       refine pure_ (i := 4) (N := some 101) (v := ?_) (a' := ?_) #[T, T, T, F, T, F, F, F, F, F, F, F, F, F, F, F] rfl rfl (any_of HT_.out (by kernel_rfl)) (fun _ _ _ h => h) (Or.inl ⟨by rfl, ?_⟩) ?_ ?_
       rotate_left
       ·
        intro w'
        go_simp
        with_reducible rfl
       rotate_left
       ·
        simp only [ap, sa, sb, sc, i64_w, i32_w]
        rfl
       refine take_ (i := 3) (N := some 100) (v := ?_) (a' := ?_) #[T, T, T, T, T, F, F, F, F, F, F, F, F, F, F, F] rfl rfl (take_ofW HT_.out HW_.out (by kernel_rfl)) (fun _ _ _ h => h) (Or.inl ⟨by rfl, ?_⟩) hHeld ?_ ?_
       rotate_left
       ·
        rintro w' ⟨s0, s1, s2, s3⟩
        go_simp
        with_reducible rfl
       rotate_left
       ·
        simp only [ap, sa, sb, sc, i64_w, i32_w]
        rfl
       refine one_ (i := 5) (N := some 102) #[T, T, T, T, T, T, F, F, F, F, F, F, F, F, F, F] rfl rfl (one_of HT_.out (by kernel_rfl)) (by decide) (fun K hK => ?_)
       refine goes_ Tryd.func11 (by kernel_rfl) rfl #[.bool x10_34] (by rfl) rfl rfl aeq ?_
       with_reducible refine (plenumlaw19_bit.calls x10_34 t501 t502 _ A47.out).mono ?_
       rintro e w54 ⟨rfl, hb⟩
       have HS0_ := (hb.cell (World.block_lt_of_cell? _ _ (hHeld.1))).trans (hHeld.1)
       have HS1_ := (hb.cell (World.block_lt_of_cell? _ _ (hHeld.2.1))).trans (hHeld.2.1)
       have HS2_ := (hb.cell (World.block_lt_of_cell? _ _ (hHeld.2.2.1))).trans (hHeld.2.2.1)
       have HS3_ := (hb.cell (World.block_lt_of_cell? _ _ (hHeld.2.2.2))).trans (hHeld.2.2.2)
       refine ⟨_, rfl, ?_⟩
       have n0_ := Aside0.mk (Kd.R_below (rr HO_5.out) hb)
       have n1_ := Aside0.mk (Kd.R_below (rr HO_7.out) hb)
       have n2_ := Aside0.mk (below_step bl hb)
       revert n0_ n1_ n2_; clear HO_5 HO_7 HB; intro HO_5 HO_7 HB
       (try clear hb)
       (try clear hb2)
       (try clear hk)
       (try clear hi)
       obtain ⟨Ao55, co55, eo55⟩ := Kd.R_slice HO_7.out
       (first | subst eo55 | (injection eo55 with f1_ f2_ f3_; have f4_ := f1_.symm; have f5_ := f3_.symm; clear f1_ f2_ f3_; subst f4_; subst f5_))
       refine hK.out _ _ ⟨HS0_, HS1_, HS2_, HS3_⟩ (fun hHeld => ?_)
       clear hK K
       refine norm_ (a' := ?_) ?_ ?_
       rotate_left
       ·
        show Act.put _ (some 102) _ = _
        simp only [ap, sa, sb, sc, i64_w, i32_w]
        rfl
       refine pure_ (i := 6) (N := some 103) (v := ?_) (a' := ?_) #[T, T, T, T, T, T, T, F, F, F, F, F, F, F, F, F] rfl rfl (any_of HT_.out (by kernel_rfl)) (fun _ _ _ h => h) (Or.inl ⟨by rfl, ?_⟩) ?_ ?_
       rotate_left
       ·
        intro w'
        go_simp
        with_reducible rfl
       rotate_left
       ·
        simp only [ap, sa, sb, sc, i64_w, i32_w]
        rfl
       refine pure_ (i := 7) (N := some 104) (v := ?_) (a' := ?_) #[T, T, T, T, T, T, T, T, F, F, F, F, F, F, F, F] rfl rfl (any_of HT_.out (by kernel_rfl)) (fun _ _ _ h => h) (Or.inl ⟨by rfl, ?_⟩) ?_ ?_
       rotate_left
       ·
        intro w'
        go_simp
        with_reducible rfl
       rotate_left
       ·
        simp only [ap, sa, sb, sc, i64_w, i32_w]
        rfl
       refine pure_ (i := 8) (N := some 105) (v := ?_) (a' := ?_) #[T, T, T, T, T, T, T, T, T, F, F, F, F, F, F, F] rfl rfl (any_of HT_.out (by kernel_rfl)) (fun _ _ _ h => h) (Or.inl ⟨by rfl, ?_⟩) ?_ ?_
       rotate_left
       ·
        intro w'
        go_simp
        with_reducible rfl
       rotate_left
       ·
        simp only [ap, sa, sb, sc, i64_w, i32_w]
        rfl
       refine pure_ (i := 9) (N := some 106) (v := ?_) (a' := ?_) #[T, T, T, T, T, T, T, T, T, T, F, F, F, F, F, F] rfl rfl (any_of HT_.out (by kernel_rfl)) (fun _ _ _ h => h) (Or.inl ⟨by rfl, ?_⟩) ?_ ?_
       rotate_left
       ·
        intro w'
        go_simp
        with_reducible rfl
       rotate_left
       ·
        simp only [ap, sa, sb, sc, i64_w, i32_w]
        rfl
       refine pure_ (i := 10) (N := some 107) (v := ?_) (a' := ?_) #[T, T, T, T, T, T, T, T, T, T, T, F, F, F, F, F] rfl rfl (any_of HT_.out (by kernel_rfl)) (fun _ _ _ h => h) (Or.inl ⟨by rfl, ?_⟩) ?_ ?_
       rotate_left
       ·
        intro w'
        go_simp
        with_reducible rfl
       rotate_left
       ·
        simp only [ap, sa, sb, sc, i64_w, i32_w]
        rfl
       refine pure_ (i := 12) (N := some 109) (v := ?_) (a' := ?_) #[T, T, T, T, T, T, T, T, T, T, T, F, T, F, F, F] rfl rfl (any_of HT_.out (by kernel_rfl)) (fun _ _ _ h => h) (Or.inl ⟨by rfl, ?_⟩) ?_ ?_
       rotate_left
       ·
        intro w'
        go_simp
        with_reducible rfl
       rotate_left
       ·
        simp only [ap, sa, sb, sc, i64_w, i32_w]
        rfl
       refine take_ (i := 11) (N := some 108) (v := ?_) (a' := ?_) #[T, T, T, T, T, T, T, T, T, T, T, T, T, F, F, F] rfl rfl (take_ofW HT_.out HW_.out (by kernel_rfl)) (fun _ _ _ h => h) (Or.inl ⟨by rfl, ?_⟩) hHeld ?_ ?_
       rotate_left
       ·
        rintro w' ⟨s0, s1, s2, s3⟩
        go_simp
        with_reducible rfl
       rotate_left
       ·
        simp only [ap, sa, sb, sc, i64_w, i32_w]
        rfl
       refine one_ (i := 13) (N := some 110) #[T, T, T, T, T, T, T, T, T, T, T, T, T, T, F, F] rfl rfl (one_of HT_.out (by kernel_rfl)) (by decide) (fun K hK => ?_)
       refine goes_ Tryd.func11 (by kernel_rfl) rfl #[.bool x11_34] (by rfl) rfl rfl aeq ?_
       with_reducible refine (plenumlaw19_bit.calls x11_34 t504 t505 _ A50.out).mono ?_
       rintro e w56 ⟨rfl, hb⟩
       have HS0_ := (hb.cell (World.block_lt_of_cell? _ _ (hHeld.1))).trans (hHeld.1)
       have HS1_ := (hb.cell (World.block_lt_of_cell? _ _ (hHeld.2.1))).trans (hHeld.2.1)
       have HS2_ := (hb.cell (World.block_lt_of_cell? _ _ (hHeld.2.2.1))).trans (hHeld.2.2.1)
       have HS3_ := (hb.cell (World.block_lt_of_cell? _ _ (hHeld.2.2.2))).trans (hHeld.2.2.2)
       refine ⟨_, rfl, ?_⟩
       have n0_ := Aside0.mk (Kd.R_below (rr HO_5.out) hb)
       have n1_ := Aside0.mk (Kd.R_below (rr HO_7.out) hb)
       have n2_ := Aside0.mk (below_step bl hb)
       revert n0_ n1_ n2_; clear HO_5 HO_7 HB; intro HO_5 HO_7 HB
       (try clear hb)
       (try clear hb2)
       (try clear hk)
       (try clear hi)
       refine hK.out _ _ ⟨HS0_, HS1_, HS2_, HS3_⟩ (fun hHeld => ?_)
       clear hK K
       refine norm_ (a' := ?_) ?_ ?_
       rotate_left
       ·
        show Act.put _ (some 110) _ = _
        simp only [ap, sa, sb, sc, i64_w, i32_w]
        rfl
       refine pure_ (i := 14) (N := some 111) (v := ?_) (a' := ?_) #[T, T, T, T, T, T, T, T, T, T, T, T, T, T, T, F] rfl rfl (any_of HT_.out (by kernel_rfl)) (fun _ _ _ h => h) (Or.inl ⟨by rfl, ?_⟩) ?_ ?_
       rotate_left
       ·
        intro w'
        go_simp
        with_reducible rfl
       rotate_left
       ·
        simp only [ap, sa, sb, sc, i64_w, i32_w]
        rfl
       refine pure_ (i := 15) (N := some 112) (v := ?_) (a' := ?_) #[T, T, T, T, T, T, T, T, T, T, T, T, T, T, T, T] rfl rfl (any_of HT_.out (by kernel_rfl)) (fun _ _ _ h => h) (Or.inl ⟨by rfl, ?_⟩) ?_ ?_
       rotate_left
       ·
        intro w'
        go_simp
        with_reducible rfl
       rotate_left
       ·
        simp only [ap, sa, sb, sc, i64_w, i32_w]
        rfl
       refine done_ (done_of HT_.out (by kernel_rfl)) ?_
       try go_wp2
       go_roundg kj34
       case measure => have := HJ4.out; have := HJ13.out; have := HK3.out; have := HJ34.out; omega
       case rel => exact ⟨(wrap64 (x9_3 + 1)), (by first | rfl | (simp; done) | (simp [*]; done)), H', ⟨by have := HJ4.out; have := HJ13.out; have := HK3.out; have := HJ34.out; omega⟩, ⟨rr HO_5.out⟩, ⟨rr HO_7.out⟩, ⟨bl⟩⟩
 ·
  replace c4 := Bool.eq_false_iff.mpr c4
  subst c4
  rw [if_neg (show ¬ (false = true) by decide)] at H
  exact absurd H (by simp)

end Go.Proofs.YtjjbdgngncgikaaDoor.R
