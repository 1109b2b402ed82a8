-- Written by this claim's own program out of the translation; not trusted: Lean checks it.
import Derived.Test.YtjjbdgngncgikaaDoorRx0
import Derived.Test.YtjjbdgngncgikaaDoorRx1
import Derived.Test.YtjjbdgngncgikaaDoorRx19
import Derived.Test.YtjjbdgngncgikaaDoorRx20
import Derived.Test.YtjjbdgngncgikaaDoorRx21
import Derived.Test.YtjjbdgngncgikaaDoorRx25
namespace Go.Proofs.YtjjbdgngncgikaaDoor.R
open Go.RowKit Go.Proofs.YtjjbdgngncgikaaDoorW.PrintWords Go.Proofs.YtjjbdgngncgikaaDoorW.PrintLast Go.Proofs.YtjjbdgngncgikaaDoorW.PrintMore
attribute [local go_sem] max2_int min2_int max_two min_two max_three min_three max_four min_four   -- for this text's walks alone
set_option linter.unusedVariables false
set_option linter.unusedSimpArgs false

attribute [local go_sem high] eqA32
/-! ### plenumlaw19_TimerCounts: function 6 -/
mutual
def plenumlaw19_TimerCounts.j0 : Nat → List Bool → List Bool → Int → Bool → Option (Bool)
 | 0, _, _, _, _ => none
 | k + 1, x0, x1, x2, x37 => if x37 = true then (some true) else (plenumlaw19_TimerCounts.l0 k x0 x1 x2 (([] : List (List (S32)))) 0)
def plenumlaw19_TimerCounts.l0 : Nat → List Bool → List Bool → Int → List (List (S32)) → Int → Option (Bool)
 | 0, _, _, _, _, _ => none
 | k + 1, x0, x1, x2, x7, x8 => if x8 < (x0.length : Int) then (if 0 ≤ x8 then ((plenumlaw19_bit.f (rdOf false x0 x8)).bind fun bt561 => (if x8 < (x1.length : Int) then ((plenumlaw19_bit.f (rdOf false x1 x8)).bind fun bt564 => (if x7.length < 5864062014805 then (plenumlaw19_TimerCounts.l0 k x0 x1 x2 (x7 ++ [(([(⟨bt561.1, bt561.2⟩ : S32), (⟨bt564.1, bt564.2⟩ : S32)] : List (S32)))]) (wrap64 (x8 + 1))) else (none))) else (none))) else (none)) else ((timer_Run.f k (⟨#[99, 111, 117, 110, 116]⟩ : ByteArray) ([] : List Int) x7 x2).bind fun bt572 => ((plenumlaw19_on.f k x0).bind fun t576 => ((timer_Run.f k (⟨#[101, 100, 103, 101]⟩ : ByteArray) ([] : List Int) t576 x2).bind fun bt579 => ((timer_Run.f k (⟨#[108, 97, 116, 99, 104]⟩ : ByteArray) ([] : List Int) x7 x2).bind fun bt583 => (if bt572.2 = 0 then (if bt579.2 = 0 then (if bt583.2 = 0 then (if (bt572.1.length : Int) = (x0.length : Int) then (if (bt579.1.length : Int) = (x0.length : Int) then (plenumlaw19_TimerCounts.j2 k x0 x1 bt572.1 bt579.1 bt583.1 ((bt583.1.length : Int) != (x0.length : Int))) else (plenumlaw19_TimerCounts.j2 k x0 x1 bt572.1 bt579.1 bt583.1 true)) else (plenumlaw19_TimerCounts.j2 k x0 x1 bt572.1 bt579.1 bt583.1 true)) else (plenumlaw19_TimerCounts.j2 k x0 x1 bt572.1 bt579.1 bt583.1 true)) else (plenumlaw19_TimerCounts.j2 k x0 x1 bt572.1 bt579.1 bt583.1 true)) else (plenumlaw19_TimerCounts.j2 k x0 x1 bt572.1 bt579.1 bt583.1 true))))))
def plenumlaw19_TimerCounts.j2 : Nat → List Bool → List Bool → List (S32) → List (S32) → List (S32) → Bool → Option (Bool)
 | 0, _, _, _, _, _, _ => none
 | k + 1, x0, x1, x9, x11, x13, x108 => if x108 = true then (none) else (plenumlaw19_TimerCounts.l1 k x0 x1 x9 x11 x13 0 false 0)
def plenumlaw19_TimerCounts.l1 : Nat → List Bool → List Bool → List (S32) → List (S32) → List (S32) → Int → Bool → Int → Option (Bool)
 | 0, _, _, _, _, _, _, _, _ => none
 | k + 1, x0, x1, x9, x11, x13, x15, x16, x17 => if x17 < (x0.length : Int) then (if 0 ≤ x17 then (if x17 < (x1.length : Int) then (if rdOf false x1 x17 = true then (if x17 < (x9.length : Int) then (if (!(((rd_T32 x9 x17).f0) == 1) || (!(((rd_T32 x9 x17).f1) == (wrap64 0)))) = true then (none) else (if x17 < (x13.length : Int) then ((plenumlaw19_bit.f false).bind fun bt590 => (if (!(((rd_T32 x13 x17).f0) == bt590.1) || (!(((rd_T32 x13 x17).f1) == bt590.2))) = true then (none) else (plenumlaw19_TimerCounts.l1 k x0 x1 x9 x11 x13 0 false (wrap64 (x17 + 1))))) else (none))) else (none)) else (if x17 < (x11.length : Int) then (if x16 = true then (if x17 < (x9.length : Int) then (if (!(((rd_T32 x9 x17).f0) == 1) || (!(((rd_T32 x9 x17).f1) == (wrap64 (1000 * (wrap64 (x15 + ((rd_T32 x11 x17).f1)))))))) = true then (none) else (if x17 < (x13.length : Int) then ((plenumlaw19_bit.f true).bind fun bt595 => (if (!(((rd_T32 x13 x17).f0) == bt595.1) || (!(((rd_T32 x13 x17).f1) == bt595.2))) = true then (none) else (plenumlaw19_TimerCounts.l1 k x0 x1 x9 x11 x13 (wrap64 (x15 + ((rd_T32 x11 x17).f1))) true (wrap64 (x17 + 1))))) else (none))) else (none)) else (if x17 < (x9.length : Int) then (if (!(((rd_T32 x9 x17).f0) == 1) || (!(((rd_T32 x9 x17).f1) == (wrap64 (1000 * (wrap64 (x15 + ((rd_T32 x11 x17).f1)))))))) = true then (none) else (if x17 < (x13.length : Int) then ((plenumlaw19_bit.f (rdOf false x0 x17)).bind fun bt600 => (if (!(((rd_T32 x13 x17).f0) == bt600.1) || (!(((rd_T32 x13 x17).f1) == bt600.2))) = true then (none) else (plenumlaw19_TimerCounts.l1 k x0 x1 x9 x11 x13 (wrap64 (x15 + ((rd_T32 x11 x17).f1))) (rdOf false x0 x17) (wrap64 (x17 + 1))))) else (none))) else (none))) else (none))) else (none)) else (none)) else (some true)
end
def plenumlaw19_TimerCounts.f (k : Nat) (l0 : List Bool) (l1 : List Bool) (a2 : Int) : Option (Bool) := (plenumlaw19_awake.f k).bind fun t556 => (if t556 = true then (if (l0.length : Int) > 80 then (plenumlaw19_TimerCounts.j0 k l0 l1 a2 true) else (if (l1.length : Int) = (l0.length : Int) then (if a2 < 1 then (plenumlaw19_TimerCounts.j0 k l0 l1 a2 true) else (plenumlaw19_TimerCounts.j0 k l0 l1 a2 (decide (a2 > 1000)))) else (plenumlaw19_TimerCounts.j0 k l0 l1 a2 true))) else (none))
theorem plenumlaw19_TimerCounts.mono_l : ∀ k, (∀ y0 y1 y2 y3, LeO (plenumlaw19_TimerCounts.j0 k y0 y1 y2 y3) (plenumlaw19_TimerCounts.j0 (k + 1) y0 y1 y2 y3)) ∧ (∀ y0 y1 y2 y3 y4, LeO (plenumlaw19_TimerCounts.l0 k y0 y1 y2 y3 y4) (plenumlaw19_TimerCounts.l0 (k + 1) y0 y1 y2 y3 y4)) ∧ (∀ y0 y1 y2 y3 y4 y5, LeO (plenumlaw19_TimerCounts.j2 k y0 y1 y2 y3 y4 y5) (plenumlaw19_TimerCounts.j2 (k + 1) y0 y1 y2 y3 y4 y5)) ∧ (∀ y0 y1 y2 y3 y4 y5 y6 y7, LeO (plenumlaw19_TimerCounts.l1 k y0 y1 y2 y3 y4 y5 y6 y7) (plenumlaw19_TimerCounts.l1 (k + 1) y0 y1 y2 y3 y4 y5 y6 y7))
 | 0 => ⟨fun _ _ _ _ r h => by simp [plenumlaw19_TimerCounts.j0] at h, fun _ _ _ _ _ r h => by simp [plenumlaw19_TimerCounts.l0] at h, fun _ _ _ _ _ _ r h => by simp [plenumlaw19_TimerCounts.j2] at h, fun _ _ _ _ _ _ _ _ r h => by simp [plenumlaw19_TimerCounts.l1] at h⟩
 | k + 1 => by
  obtain ⟨ih0, ih1, ih2, ih3⟩ := plenumlaw19_TimerCounts.mono_l k
  refine ⟨?_, ?_, ?_, ?_⟩
  ·
   intro y0 y1 y2 y3
   unfold plenumlaw19_TimerCounts.j0
   repeat' first
   | (with_reducible exact ih0 _ _ _ _)
   | (with_reducible exact ih1 _ _ _ _ _)
   | (with_reducible exact ih2 _ _ _ _ _ _)
   | (with_reducible exact ih3 _ _ _ _ _ _ _ _)
   | (with_reducible exact plenumlaw19_awake.mono _)
   | (with_reducible exact plenumlaw19_on.mono _ _)
   | (with_reducible exact timer_Run.mono _ _ _ _ _)
   | (with_reducible exact LeO.refl _)
   | (with_reducible exact LeO.none _)
   | (with_reducible refine LeO.ite ?_ ?_)
   | (with_reducible refine LeO.bind ?_ (fun _ => ?_))
   | exact ih0 _ _ _ _
   | exact ih1 _ _ _ _ _
   | exact ih2 _ _ _ _ _ _
   | exact ih3 _ _ _ _ _ _ _ _
   | exact plenumlaw19_awake.mono _
   | exact plenumlaw19_on.mono _ _
   | exact timer_Run.mono _ _ _ _ _
   | exact LeO.none _
   | refine LeO.ite ?_ ?_
   | refine LeO.bind ?_ (fun _ => ?_)
  ·
   intro y0 y1 y2 y3 y4
   unfold plenumlaw19_TimerCounts.l0
   repeat' first
   | (with_reducible exact ih0 _ _ _ _)
   | (with_reducible exact ih1 _ _ _ _ _)
   | (with_reducible exact ih2 _ _ _ _ _ _)
   | (with_reducible exact ih3 _ _ _ _ _ _ _ _)
   | (with_reducible exact plenumlaw19_awake.mono _)
   | (with_reducible exact plenumlaw19_on.mono _ _)
   | (with_reducible exact timer_Run.mono _ _ _ _ _)
   | (with_reducible exact LeO.refl _)
   | (with_reducible exact LeO.none _)
   | (with_reducible refine LeO.ite ?_ ?_)
   | (with_reducible refine LeO.bind ?_ (fun _ => ?_))
   | exact ih0 _ _ _ _
   | exact ih1 _ _ _ _ _
   | exact ih2 _ _ _ _ _ _
   | exact ih3 _ _ _ _ _ _ _ _
   | exact plenumlaw19_awake.mono _
   | exact plenumlaw19_on.mono _ _
   | exact timer_Run.mono _ _ _ _ _
   | exact LeO.none _
   | refine LeO.ite ?_ ?_
   | refine LeO.bind ?_ (fun _ => ?_)
  ·
   intro y0 y1 y2 y3 y4 y5
   unfold plenumlaw19_TimerCounts.j2
   repeat' first
   | (with_reducible exact ih0 _ _ _ _)
   | (with_reducible exact ih1 _ _ _ _ _)
   | (with_reducible exact ih2 _ _ _ _ _ _)
   | (with_reducible exact ih3 _ _ _ _ _ _ _ _)
   | (with_reducible exact plenumlaw19_awake.mono _)
   | (with_reducible exact plenumlaw19_on.mono _ _)
   | (with_reducible exact timer_Run.mono _ _ _ _ _)
   | (with_reducible exact LeO.refl _)
   | (with_reducible exact LeO.none _)
   | (with_reducible refine LeO.ite ?_ ?_)
   | (with_reducible refine LeO.bind ?_ (fun _ => ?_))
   | exact ih0 _ _ _ _
   | exact ih1 _ _ _ _ _
   | exact ih2 _ _ _ _ _ _
   | exact ih3 _ _ _ _ _ _ _ _
   | exact plenumlaw19_awake.mono _
   | exact plenumlaw19_on.mono _ _
   | exact timer_Run.mono _ _ _ _ _
   | exact LeO.none _
   | refine LeO.ite ?_ ?_
   | refine LeO.bind ?_ (fun _ => ?_)
  ·
   intro y0 y1 y2 y3 y4 y5 y6 y7
   unfold plenumlaw19_TimerCounts.l1
   repeat' first
   | (with_reducible exact ih0 _ _ _ _)
   | (with_reducible exact ih1 _ _ _ _ _)
   | (with_reducible exact ih2 _ _ _ _ _ _)
   | (with_reducible exact ih3 _ _ _ _ _ _ _ _)
   | (with_reducible exact plenumlaw19_awake.mono _)
   | (with_reducible exact plenumlaw19_on.mono _ _)
   | (with_reducible exact timer_Run.mono _ _ _ _ _)
   | (with_reducible exact LeO.refl _)
   | (with_reducible exact LeO.none _)
   | (with_reducible refine LeO.ite ?_ ?_)
   | (with_reducible refine LeO.bind ?_ (fun _ => ?_))
   | exact ih0 _ _ _ _
   | exact ih1 _ _ _ _ _
   | exact ih2 _ _ _ _ _ _
   | exact ih3 _ _ _ _ _ _ _ _
   | exact plenumlaw19_awake.mono _
   | exact plenumlaw19_on.mono _ _
   | exact timer_Run.mono _ _ _ _ _
   | exact LeO.none _
   | refine LeO.ite ?_ ?_
   | refine LeO.bind ?_ (fun _ => ?_)
theorem plenumlaw19_TimerCounts.mono : ∀ a0 a1 a2 k, LeO (plenumlaw19_TimerCounts.f k a0 a1 a2) (plenumlaw19_TimerCounts.f (k + 1) a0 a1 a2) := by
 intro a0 a1 a2 k
 obtain ⟨ih0, ih1, ih2, ih3⟩ := plenumlaw19_TimerCounts.mono_l k
 unfold plenumlaw19_TimerCounts.f
 repeat' first
   | (with_reducible exact ih0 _ _ _ _)
   | (with_reducible exact ih1 _ _ _ _ _)
   | (with_reducible exact ih2 _ _ _ _ _ _)
   | (with_reducible exact ih3 _ _ _ _ _ _ _ _)
   | (with_reducible exact plenumlaw19_awake.mono _)
   | (with_reducible exact plenumlaw19_on.mono _ _)
   | (with_reducible exact timer_Run.mono _ _ _ _ _)
   | (with_reducible exact LeO.refl _)
   | (with_reducible exact LeO.none _)
   | (with_reducible refine LeO.ite ?_ ?_)
   | (with_reducible refine LeO.bind ?_ (fun _ => ?_))
   | exact ih0 _ _ _ _
   | exact ih1 _ _ _ _ _
   | exact ih2 _ _ _ _ _ _
   | exact ih3 _ _ _ _ _ _ _ _
   | exact plenumlaw19_awake.mono _
   | exact plenumlaw19_on.mono _ _
   | exact timer_Run.mono _ _ _ _ _
   | exact LeO.none _
   | refine LeO.ite ?_ ?_
   | refine LeO.bind ?_ (fun _ => ?_)
def plenumlaw19_TimerCounts.T9 : Bool × List (List Nat × List Nat) := (true, [([], []), ([], []), ([], []), ([1, 2], [1, 2]), ([3], [3]), ([4], [4]), ([], []), ([], []), ([6, 7], [6, 7]), ([8], [8]), ([9, 5], [9]), ([5, 10], [5, 10]), ([11], [11]), ([0, 12, 10], [0, 12]), ([13, 13, 0, 1, 2, 3, 4, 5, 6, 7, 8, 9, 10, 11, 12, 13], [0, 13])])
def plenumlaw19_TimerCounts.B9 : List Nat := [0, 0, 0, 6, 14, 30, 0, 0, 192, 448, 1022, 2046, 4094, 8191, 16383]
theorem plenumlaw19_TimerCounts.tab9 : rtab .any (opsOf Tryd.f6 9) = plenumlaw19_TimerCounts.T9 := by kernel_rfl
theorem plenumlaw19_TimerCounts.bits9 : waitsOk plenumlaw19_TimerCounts.T9.2 plenumlaw19_TimerCounts.B9 = true := by kernel_rfl
def plenumlaw19_TimerCounts.T23 : Bool × List (List Nat × List Nat) := (true, [([], []), ([], []), ([0, 1], [0, 1]), ([2], [2]), ([], []), ([4], [4]), ([5], [5]), ([3, 6], [3, 6]), ([7], [7]), ([8], [8]), ([8], [8]), ([9, 10, 8], [8, 9, 10]), ([11, 8], [8, 11]), ([8], [8]), ([13, 8, 8], [8, 13]), ([12, 14, 8], [8, 12, 14]), ([8, 15], [8, 15])])
def plenumlaw19_TimerCounts.B23 : List Nat := [0, 0, 3, 7, 0, 16, 48, 127, 255, 511, 511, 2047, 4095, 511, 8703, 32767, 65535]
theorem plenumlaw19_TimerCounts.tab23 : rtab .any (opsOf Tryd.f6 23) = plenumlaw19_TimerCounts.T23 := by kernel_rfl
theorem plenumlaw19_TimerCounts.bits23 : waitsOk plenumlaw19_TimerCounts.T23.2 plenumlaw19_TimerCounts.B23 = true := by kernel_rfl
set_option maxHeartbeats 8000000 in
set_option maxRecDepth 100000 in
theorem plenumlaw19_TimerCounts.calls (k : Nat) (A0 : Option Addr) (c0 : Nat) (l0 : List Bool) (A1 : Option Addr) (c1 : Nat) (l1 : List Bool) (a2 : Int) (r : Bool) (w : World) (hr0 : Kd.C Kd.bool w A0 l0.length l0) (hc0 : l0.length ≤ c0) (hr1 : Kd.C Kd.bool w A1 l1.length l1) (hc1 : l1.length ≤ c1) (hG : GW w) (h : plenumlaw19_TimerCounts.f k l0 l1 a2 = some r) :
  Calls Tryd.prog 6 #[.slice A0 l0.length c0, .slice A1 l1.length c1, .int .i64 a2] w fun e w' => e = .returned (.bool r) ∧ Below w.heap.size w w' := by
 have hu32 := Tryd.underlying32
 have HG := Aside0.mk hG
 clear hG
 have HR0 := Aside0.mk hr0
 have HC0 := Aside0.mk hc0
 clear hr0 hc0
 have HR1 := Aside0.mk hr1
 have HC1 := Aside0.mk hc1
 clear hr1 hc1
 have HB := Aside0.mk (Below.refl w.heap.size w)
 have H : ((plenumlaw19_awake.f k).bind fun t556 => (if t556 = true then (if (l0.length : Int) > 80 then (plenumlaw19_TimerCounts.j0 k l0 l1 a2 true) else (if (l1.length : Int) = (l0.length : Int) then (if a2 < 1 then (plenumlaw19_TimerCounts.j0 k l0 l1 a2 true) else (plenumlaw19_TimerCounts.j0 k l0 l1 a2 (decide (a2 > 1000)))) else (plenumlaw19_TimerCounts.j0 k l0 l1 a2 true))) else (none))) = some r := h
 clear h
 replace H := Option.bind_eq_some_iff.mp H
 obtain ⟨t556, A40, H⟩ := H
 (try dsimp only at H)
 have A4 := Aside0.mk A40
 clear A40
 by_cases c5 : t556 = true
 ·
  subst c5
  rw [if_pos rfl] at H
  have HC6 := Aside0.mk H
  clear H
  go_enter Tryd.func6, Tryd.ntmps6
  go_upto_region 3 with (first | ((with_reducible refine gate_callee (f := 8) rfl ?_); refine goesL_ (some 18) rfl rfl Tryd.func8 (by kernel_rfl) rfl #[] rfl aeq ?_; (with_reducible refine (plenumlaw19_awake.calls k  true _ ?side1 A4.out).mono ?_); (case side1 => exact GW.below HG.out bl); rintro e w7 ⟨rfl, hb⟩; refine ⟨_, rfl, ?_⟩; have n0_ := Aside0.mk (below_step bl hb); revert n0_; clear HB; intro HB; (try clear hb); (try clear hb2); (try clear hk); (try clear hi)))
  (try simp only [ap, sa, sb, sc])
  go_cut [37] (fun v37 wc => ∃ (kq : Nat) (x37_5 : Bool), v37 = .bool x37_5 ∧ Aside0 (plenumlaw19_TimerCounts.j0 kq l0 l1 a2 x37_5 = some r) ∧ Aside0 (kq ≤ k) ∧ Aside0 (Below w.heap.size w wc))
  case first =>
   have H := HC6.out
   clear HC6
   by_cases c8 : (l0.length : Int) > 80
   ·
    rw [if_pos c8] at H
    have c8b0 : decide (80 < (l0.length : Int)) = true := decide_eq_true c8
    have c8b1 : decide (80 < l0.length) = true := decide_eq_true (by omega)
    clear c8
    (first | rw [c8b0] | (simp only [i64_w, i32_w]; rw [c8b0]) | skip)
    have H' := Aside0.mk H
    clear H
    go_wp2
    go_meet
    case rel => exact ⟨_, (true), (by first | rfl | (simp; done) | (simp [*]; done)), H', ⟨by first | omega | exact Nat.le_refl _⟩, ⟨bl⟩⟩
   rw [if_neg c8] at H
   have c8b0 : decide (80 < (l0.length : Int)) = false := decide_eq_false c8
   have c8b1 : decide (80 < l0.length) = false := decide_eq_false (by omega)
   clear c8
   (first | rw [c8b0] | (simp only [i64_w, i32_w]; rw [c8b0]) | skip)
   by_cases c9 : (l1.length : Int) = (l0.length : Int)
   rotate_left
   ·
    rw [if_neg c9] at H
    have c9b0 : ((l1.length : Int) == (l0.length : Int)) = false := beq_eq_false_iff_ne.mpr c9
    have c9b1 : ((l1.length : Int) != (l0.length : Int)) = true := bne_iff_ne.mpr c9
    have c9b2 : (l1.length == l0.length) = false := by first | simpa using c9 | (simp at c9 ⊢; omega)
    have H' := Aside0.mk H
    clear H
    go_wp2
    go_meet
    case rel => exact ⟨_, (true), (by first | rfl | (simp; done) | (simp [*]; done)), H', ⟨by first | omega | exact Nat.le_refl _⟩, ⟨bl⟩⟩
   rw [if_pos c9] at H
   have c9b0 : ((l1.length : Int) == (l0.length : Int)) = true := beq_iff_eq.mpr c9
   have c9b1 : ((l1.length : Int) != (l0.length : Int)) = false := bne_eq_false_iff_eq.mpr c9
   have c9b2 : (l1.length == l0.length) = true := by first | simpa using c9 | (simp at c9 ⊢; omega)
   clear c9
   by_cases c10 : a2 < 1
   ·
    rw [if_pos c10] at H
    have c10b0 : decide (a2 < 1) = true := decide_eq_true c10
    clear c10
    have H' := Aside0.mk H
    clear H
    go_wp2
    go_meet
    case rel => exact ⟨_, (true), (by first | rfl | (simp; done) | (simp [*]; done)), H', ⟨by first | omega | exact Nat.le_refl _⟩, ⟨bl⟩⟩
   rw [if_neg c10] at H
   have c10b0 : decide (a2 < 1) = false := decide_eq_false c10
   clear c10
   have H' := Aside0.mk H
   clear H
   go_wp2
   go_meet
   case rel => exact ⟨_, (decide (a2 > 1000)), (by first | rfl | (simp; done) | (simp [*]; done)), H', ⟨by first | omega | exact Nat.le_refl _⟩, ⟨bl⟩⟩
  clear HC6
  try clear c1
  try clear p2
  try clear c5
  try clear c6
  try clear c8
  try clear c8b0
  try clear c8b1
  try clear c9
  try clear c9b0
  try clear c9b1
  try clear c9b2
  try clear c10
  try clear c10b0
  obtain ⟨kq, x37_5, rfl, HA, HJ5, HB⟩ := hcut
  cases kq with
  | zero => exact absurd HA.out (by simp [plenumlaw19_TimerCounts.j0])
  | succ kj5 =>
   have H := HA.out
   clear HA
   simp only [plenumlaw19_TimerCounts.j0] at H
   by_cases c11 : x37_5 = true
   ·
    subst c11
    rw [if_pos rfl] at H
    obtain rfl := Option.some.inj H
    go_wp2
    go_ret
    exact ⟨by first | rfl | (simp [errW_none, errW_some] <;> rfl) | (simp [*, errW_none, errW_some] <;> rfl), bl⟩
   replace c11 := Bool.eq_false_iff.mpr c11
   subst c11
   rw [if_neg (show ¬ (false = true) by decide)] at H
   obtain ⟨y557, hy557⟩ : ∃ y_ : List (List (S32)), y_ = (([] : List (List (S32)))) := ⟨_, rfl⟩
   replace H : (plenumlaw19_TimerCounts.l0 kj5 l0 l1 a2 y557 0) = some r := by first | (rw [hy557]; with_reducible exact H) | (have H2_ := (Option.bind_some _ _).symm.trans H; rw [hy557]; with_reducible exact H2_) | (have H2_ := (Option.bind_some _ _).symm.trans H; with_reducible exact H2_) | with_reducible exact H | (rw [hy557]; exact H) | exact H
   have Ny557 := Aside0.mk hy557
   clear hy557
   have H' := Aside0.mk H
   clear H
   go_wp2_with (first | ((with_reducible refine gate_dst (N := 38) rfl ?_); (try (refine gate_guard (by rfl) ?_; dsimp only)); refine Kd.S_lit (Kd.slice 32 k32) _ 24 ?hg (N := 38) ?hd (xs := ([] : List (List (S32)))) (inner := []) (ok := fun _ => True) (okp := fun _ => True) ?hr ?hp (fun _ hk => hk) trivial (Below.refl _ _) (Nat.le_refl _) (by simp) ?_; (case hd => rfl); (case hg => rfl); (case hr => first | (go_simp; done) | (go_simp; rfl)); (case hp => exact (Reps.none _ _)); intro v558 w12 ho13 hb hg_ hnew_; clear hg_ hnew_; (first | rw [← Ny557.out] at ho13 | (simp only [Int.reduceToNat] at ho13; rw [← Ny557.out] at ho13)); have n0_ := Aside0.mk (Kd.S_lower ho13 (below_size bl)); have n1_ := Aside0.mk (below_step bl hb); revert n0_ n1_; clear HB; intro HO559 HB; clear hb ho13))
   go_loopg [7, 8] kj5 (fun kq v7 v8 w' => ∃ (x7_2 : List (List (S32))) (x8_2 : Int), v8 = .int .i64 x8_2 ∧ Aside0 (plenumlaw19_TimerCounts.l0 kq l0 l1 a2 x7_2 x8_2 = some r) ∧ Aside0 (kq ≤ kj5) ∧ Aside0 (Kd.S (Kd.slice 32 k32) 24 w' w.heap.size (fun _ => True) v7 x7_2) ∧ Aside0 (Below w.heap.size w w'))
   case atStart => exact ⟨(y557), (0), (by first | rfl | (simp; done) | (simp [*]; done)), H', ⟨Nat.le_refl _⟩, ⟨rs HO559.out⟩, ⟨bl⟩⟩
   case round =>
    clear H'
    try clear c1
    try clear p2
    try clear c5
    try clear c6
    try clear c8
    try clear c8b0
    try clear c8b1
    try clear c9
    try clear c9b0
    try clear c9b1
    try clear c9b2
    try clear c10
    try clear c10b0
    try clear c11
    try clear p2
    obtain ⟨x7_2, x8_2, rfl, HA, HK2, HO_7, HB⟩ := hrel
    cases gk with
    | zero => exact absurd HA.out (by simp [plenumlaw19_TimerCounts.l0])
    | succ k2 =>
     have H := HA.out
     clear HA
     simp only [plenumlaw19_TimerCounts.l0] at H
     by_cases c14 : x8_2 < (l0.length : Int)
     ·
      rw [if_pos c14] at H
      have c14b0 : decide (x8_2 < (l0.length : Int)) = true := decide_eq_true c14
      clear c14
      by_cases c15 : 0 ≤ x8_2
      rotate_left
      ·
       rw [if_neg c15] at H
       exact absurd H (by simp)
      rw [if_pos c15] at H
      have c15b0 : decide (0 ≤ x8_2) = true := decide_eq_true c15
      clear c15
      replace H := Option.bind_eq_some_iff.mp H
      obtain ⟨⟨t561, t562⟩, A160, H⟩ := H
      (try dsimp only at H)
      have A16 := Aside0.mk A160
      clear A160
      by_cases c17 : x8_2 < (l1.length : Int)
      rotate_left
      ·
       rw [if_neg c17] at H
       exact absurd H (by simp)
      rw [if_pos c17] at H
      have c17b0 : decide (x8_2 < (l1.length : Int)) = true := decide_eq_true c17
      clear c17
      replace H := Option.bind_eq_some_iff.mp H
      obtain ⟨⟨t564, t565⟩, A180, H⟩ := H
      (try dsimp only at H)
      have A18 := Aside0.mk A180
      clear A180
      obtain ⟨y566, hy566⟩ : ∃ y_ : List (S32), y_ = (([(⟨t561, t562⟩ : S32), (⟨t564, t565⟩ : S32)] : List (S32))) := ⟨_, rfl⟩
      replace H : (if x7_2.length < 5864062014805 then (plenumlaw19_TimerCounts.l0 k2 l0 l1 a2 (x7_2 ++ [y566]) (wrap64 (x8_2 + 1))) else (none)) = some r := by first | (rw [hy566]; with_reducible exact H) | (have H2_ := (Option.bind_some _ _).symm.trans H; rw [hy566]; with_reducible exact H2_) | (have H2_ := (Option.bind_some _ _).symm.trans H; with_reducible exact H2_) | with_reducible exact H | (rw [hy566]; exact H) | exact H
      have Ny566 := Aside0.mk hy566
      clear hy566
      by_cases c19 : x7_2.length < 5864062014805
      rotate_left
      ·
       rw [if_neg c19] at H
       exact absurd H (by simp)
      rw [if_pos c19] at H
      have LMc19 := Aside0.mk c19
      clear c19
      obtain ⟨y569, hy569⟩ : ∃ y_ : List (List (S32)), y_ = (x7_2 ++ [y566]) := ⟨_, rfl⟩
      replace H : (plenumlaw19_TimerCounts.l0 k2 l0 l1 a2 y569 (wrap64 (x8_2 + 1))) = some r := by first | (rw [hy569]; with_reducible exact H) | (have H2_ := (Option.bind_some _ _).symm.trans H; rw [hy569]; with_reducible exact H2_) | (have H2_ := (Option.bind_some _ _).symm.trans H; with_reducible exact H2_) | with_reducible exact H | (rw [hy569]; exact H) | exact H
      have Ny569 := Aside0.mk hy569
      clear hy569
      have H' := Aside0.mk H
      clear H
      try go_wp2
      have n0_ := Aside0.mk (Kd.S_drew HO_7.out)
      have n1_ := Aside0.mk (below_drew1 HB.out)
      revert n0_ n1_; clear HO_7 HB; intro HO_7 HB
      have p560 : 0 ≤ (x8_2 : Int) := ode
      have q560 : x8_2 < (l0.length : Int) := ode
      obtain ⟨ad560, e560, hx560_0⟩ := Kd.at_bool HR0.out x8_2 p560 q560
      have hw560_0 := hx560_0
      cases e560
      replace hx560_0 := (HB.out.cell (World.block_lt_of_cell? w _ hx560_0)).trans hx560_0
      replace p560 := eq_true p560
      replace q560 := eq_true q560
      have p563 : 0 ≤ (x8_2 : Int) := ode
      have q563 : x8_2 < (l1.length : Int) := ode
      obtain ⟨ad563, e563, hx563_0⟩ := Kd.at_bool HR1.out x8_2 p563 q563
      have hw563_0 := hx563_0
      cases e563
      replace hx563_0 := (HB.out.cell (World.block_lt_of_cell? w _ hx563_0)).trans hx563_0
      replace p563 := eq_true p563
      replace q563 := eq_true q563
      refine start_ (n := 15) (S := fun w' => w'.cell? (ad560.add (x8_2).toNat) = some (.bool (rdOf false l0 x8_2)) ∧ w'.cell? (ad563.add (x8_2).toNat) = some (.bool (rdOf false l1 x8_2))) (ds := []) #[F, F, F, F, F, F, F, F, F, F, F, F, F, F, F] (by kernel_rfl) rfl rfl ⟨((HB.out.cell (World.block_lt_of_cell? w _ hw560_0)).trans hw560_0), ((HB.out.cell (World.block_lt_of_cell? w _ hw563_0)).trans hw563_0)⟩ (fun hHeld => ?_); refine with_tabW plenumlaw19_TimerCounts.tab9 plenumlaw19_TimerCounts.bits9 (fun HT_ HW_ => ?_)
      generalize wr.drew = w20 at HO_7 HB hx560_0 hx563_0 hHeld ⊢
      refine pure_ (i := 0) (N := some 45) (v := ?_) (a' := ?_) #[T, F, F, F, F, F, F, F, F, F, F, F, F, F, F] rfl rfl (any_of HT_.out (by kernel_rfl)) (fun _ _ _ h => h) (Or.inl ⟨by rfl, ?_⟩) ?_ ?_
      rotate_left
      ·
       intro w'
       go_simp
       with_reducible rfl
      rotate_left
      ·
       simp only [ap, sa, sb, sc, i64_w, i32_w]
       rfl
      refine pure_ (i := 1) (N := some 46) (v := ?_) (a' := ?_) #[T, T, F, F, F, F, F, F, F, F, F, F, F, F, F] rfl rfl (any_of HT_.out (by kernel_rfl)) (fun _ _ _ h => h) (Or.inl ⟨by rfl, ?_⟩) ?_ ?_
      rotate_left
      ·
       intro w'
       go_simp
       with_reducible rfl
      rotate_left
      ·
       simp only [ap, sa, sb, sc, i64_w, i32_w]
       rfl
      refine pure_ (i := 2) (N := some 47) (v := ?_) (a' := ?_) #[T, T, T, F, F, F, F, F, F, F, F, F, F, F, F] rfl rfl (any_of HT_.out (by kernel_rfl)) (fun _ _ _ h => h) (Or.inl ⟨by rfl, ?_⟩) ?_ ?_
      rotate_left
      ·
       intro w'
       go_simp
       with_reducible rfl
      rotate_left
      ·
       simp only [ap, sa, sb, sc, i64_w, i32_w]
       rfl
      refine pure_ (i := 3) (N := some 48) (v := ?_) (a' := ?_) #[T, T, T, T, F, F, F, F, F, F, F, F, F, F, F] rfl rfl (any_of HT_.out (by kernel_rfl)) (fun _ _ _ h => h) (Or.inl ⟨by rfl, ?_⟩) ?_ ?_
      rotate_left
      ·
       intro w'
       go_simp
       with_reducible rfl
      rotate_left
      ·
       simp only [ap, sa, sb, sc, i64_w, i32_w]
       rfl
      refine pure_ (i := 6) (N := some 51) (v := ?_) (a' := ?_) #[T, T, T, T, F, F, T, F, F, F, F, F, F, F, F] rfl rfl (any_of HT_.out (by kernel_rfl)) (fun _ _ _ h => h) (Or.inl ⟨by rfl, ?_⟩) ?_ ?_
      rotate_left
      ·
       intro w'
       go_simp
       with_reducible rfl
      rotate_left
      ·
       simp only [ap, sa, sb, sc, i64_w, i32_w]
       rfl
      refine pure_ (i := 7) (N := some 52) (v := ?_) (a' := ?_) #[T, T, T, T, F, F, T, T, F, F, F, F, F, F, F] rfl rfl (any_of HT_.out (by kernel_rfl)) (fun _ _ _ h => h) (Or.inl ⟨by rfl, ?_⟩) ?_ ?_
      rotate_left
      ·
       intro w'
       go_simp
       with_reducible rfl
      rotate_left
      ·
       simp only [ap, sa, sb, sc, i64_w, i32_w]
       rfl
      refine pure_ (i := 8) (N := some 53) (v := ?_) (a' := ?_) #[T, T, T, T, F, F, T, T, T, F, F, F, F, F, F] rfl rfl (any_of HT_.out (by kernel_rfl)) (fun _ _ _ h => h) (Or.inl ⟨by rfl, ?_⟩) ?_ ?_
      rotate_left
      ·
       intro w'
       go_simp
       with_reducible rfl
      rotate_left
      ·
       simp only [ap, sa, sb, sc, i64_w, i32_w]
       rfl
      refine take_ (i := 4) (N := some 49) (v := ?_) (a' := ?_) #[T, T, T, T, T, F, T, T, T, F, F, F, F, F, F] rfl rfl (take_ofW HT_.out HW_.out (by kernel_rfl)) (fun _ _ _ h => h) (Or.inl ⟨by rfl, ?_⟩) hHeld ?_ ?_
      rotate_left
      ·
       rintro w' ⟨s0, s1⟩
       go_simp
       with_reducible rfl
      rotate_left
      ·
       simp only [ap, sa, sb, sc, i64_w, i32_w]
       rfl
      refine take_ (i := 9) (N := some 54) (v := ?_) (a' := ?_) #[T, T, T, T, T, F, T, T, T, T, F, F, F, F, F] rfl rfl (take_ofW HT_.out HW_.out (by kernel_rfl)) (fun _ _ _ h => h) (Or.inl ⟨by rfl, ?_⟩) hHeld ?_ ?_
      rotate_left
      ·
       rintro w' ⟨s0, s1⟩
       go_simp
       with_reducible rfl
      rotate_left
      ·
       simp only [ap, sa, sb, sc, i64_w, i32_w]
       rfl
      refine one_ (i := 5) (N := some 50) #[T, T, T, T, T, T, T, T, T, T, F, F, F, F, F] rfl rfl (one_of HT_.out (by kernel_rfl)) (by decide) (fun K hK => ?_)
      refine goes_ Tryd.func11 (by kernel_rfl) rfl #[.bool (rdOf false l0 x8_2)] (by rfl) rfl rfl aeq ?_
      with_reducible refine (plenumlaw19_bit.calls (rdOf false l0 x8_2) t561 t562 _ A16.out).mono ?_
      rintro e w21 ⟨rfl, hb⟩
      refine ⟨_, rfl, ?_⟩
      have n0_ := Aside0.mk (Kd.S_below (rs HO_7.out) hb)
      have n1_ := Aside0.mk (below_step bl hb)
      revert n0_ n1_; clear HO_7 HB; intro HO_7 HB
      (try clear hb)
      (try clear hb2)
      (try clear hk)
      (try clear hi)
      refine hK.out _ _ ⟨((HB.out.cell (World.block_lt_of_cell? w _ hw560_0)).trans hw560_0), ((HB.out.cell (World.block_lt_of_cell? w _ hw563_0)).trans hw563_0)⟩ (fun hHeld => ?_)
      clear hK K
      refine norm_ (a' := ?_) ?_ ?_
      rotate_left
      ·
       show Act.put _ (some 50) _ = _
       simp only [ap, sa, sb, sc, i64_w, i32_w]
       rfl
      refine one_ (i := 10) (N := some 55) #[T, T, T, T, T, T, T, T, T, T, T, F, F, F, F] rfl rfl (one_of HT_.out (by kernel_rfl)) (by decide) (fun K hK => ?_)
      refine goes_ Tryd.func11 (by kernel_rfl) rfl #[.bool (rdOf false l1 x8_2)] (by rfl) rfl rfl aeq ?_
      with_reducible refine (plenumlaw19_bit.calls (rdOf false l1 x8_2) t564 t565 _ A18.out).mono ?_
      rintro e w22 ⟨rfl, hb⟩
      refine ⟨_, rfl, ?_⟩
      have n0_ := Aside0.mk (Kd.S_below (rs HO_7.out) hb)
      have n1_ := Aside0.mk (below_step bl hb)
      revert n0_ n1_; clear HO_7 HB; intro HO_7 HB
      (try clear hb)
      (try clear hb2)
      (try clear hk)
      (try clear hi)
      refine hK.out _ _ ⟨((HB.out.cell (World.block_lt_of_cell? w _ hw560_0)).trans hw560_0), ((HB.out.cell (World.block_lt_of_cell? w _ hw563_0)).trans hw563_0)⟩ (fun hHeld => ?_)
      clear hK K
      refine norm_ (a' := ?_) ?_ ?_
      rotate_left
      ·
       show Act.put _ (some 55) _ = _
       simp only [ap, sa, sb, sc, i64_w, i32_w]
       rfl
      refine one_ (i := 11) (N := some 56) #[T, T, T, T, T, T, T, T, T, T, T, T, F, F, F] rfl rfl (one_of HT_.out (by kernel_rfl)) (by decide) (fun K hK => ?_)
      refine Kd.R_lit_step k32 _ 32 ?hg (N := 56) ?hd (xs := ([(⟨t561, t562⟩ : S32), (⟨t564, t565⟩ : S32)] : List (S32))) (inner := [.int .i64 t561, .int .i64 t562, .int .i64 t564, .int .i64 t565]) (ok := fun _ => True) (okp := fun _ => True) ?hr ?hp (fun _ hk => hk) trivial (Below.refl _ _) (Nat.le_refl _) (by simp) ?_; (case hd => rfl); (case hg => rfl); (case hr => first | (go_simp; done) | (go_simp; rfl)); (case hp => exact (Reps.c2 (show Kd.M k32 _ _ _ (⟨t561, t562⟩ : S32) [.int .i64 t561, .int .i64 t562] from (k32_mkM _ _ _ (⟨t561, t562⟩ : S32) )) (Reps.c2 (show Kd.M k32 _ _ _ (⟨t564, t565⟩ : S32) [.int .i64 t564, .int .i64 t565] from (k32_mkM _ _ _ (⟨t564, t565⟩ : S32) )) (Reps.none _ _))))
      intro v567 w23 ho24 hb hg_ hnew_
      clear hg_ hnew_
      (first | rw [← Ny566.out] at ho24 | (simp only [Int.reduceToNat] at ho24; rw [← Ny566.out] at ho24))
      have n0_ := Aside0.mk (Kd.S_elder' (rs HO_7.out) (Kd.R_base ho24) hb)
      have n1_ := Aside0.mk (Kd.R_lower ho24 (below_size bl))
      have n2_ := Aside0.mk (below_step bl hb)
      revert n0_ n1_ n2_; clear HO_7 HB; intro HO_7 HO568 HB
      clear hb ho24
      obtain ⟨Ao26, co26, eo26⟩ := Kd.R_slice HO568.out
      (first | subst eo26 | (injection eo26 with f1_ f2_ f3_; have f4_ := f1_.symm; have f5_ := f3_.symm; clear f1_ f2_ f3_; subst f4_; subst f5_))
      refine hK.out _ _ ⟨((HB.out.cell (World.block_lt_of_cell? w _ hw560_0)).trans hw560_0), ((HB.out.cell (World.block_lt_of_cell? w _ hw563_0)).trans hw563_0)⟩ (fun hHeld => ?_)
      clear hK K
      refine norm_ (a' := ?_) ?_ ?_
      rotate_left
      ·
       show Act.put _ (some 56) _ = _
       simp only [ap, sa, sb, sc, i64_w, i32_w]
       rfl
      refine one_ (i := 12) (N := some 57) #[T, T, T, T, T, T, T, T, T, T, T, T, T, F, F] rfl rfl (one_of HT_.out (by kernel_rfl)) (by decide) (fun K hK => ?_)
      refine value_ (w1 := ?_) (v := ?_) (by rfl) rfl ?_ ?_
      rotate_left 2
      ·
       go_simp
       constructor
       ·
        rfl
       ·
        rfl
      refine hK.out _ _ ⟨(World.cell?_alloc_lt _ _ _ (World.block_lt_of_cell? _ _ (((HB.out.cell (World.block_lt_of_cell? w _ hw560_0)).trans hw560_0)))).trans (((HB.out.cell (World.block_lt_of_cell? w _ hw560_0)).trans hw560_0)), (World.cell?_alloc_lt _ _ _ (World.block_lt_of_cell? _ _ (((HB.out.cell (World.block_lt_of_cell? w _ hw563_0)).trans hw563_0)))).trans (((HB.out.cell (World.block_lt_of_cell? w _ hw563_0)).trans hw563_0))⟩ (fun hHeld => ?_)
      clear hK K
      refine norm_ (a' := ?_) ?_ ?_
      rotate_left
      ·
       show Act.put _ (some 57) _ = _
       simp only [ap, sa, sb, sc, i64_w, i32_w]
       rfl
      refine one_ (i := 13) (N := some 58) #[T, T, T, T, T, T, T, T, T, T, T, T, T, T, F] rfl rfl (one_of HT_.out (by kernel_rfl)) (by decide) (fun K hK => ?_)
      refine Kd.S_append_step (Kd.slice 32 k32) (w0 := w) w.heap.size (by rfl) (.tmp 45) (.tmp 57) 29 24 (.slice none 0 0) 24 rfl Tryd.underlying29 info24 rfl (by decide) (by omega) u7 x7_2 y566 [.slice Ao26 y566.length co26] (fun _ => True) (fun k_ => some k_ = (.slice Ao26 y566.length co26 : Value).ownBlock) rfl rfl ?aP (fun k_ hk_ => ((Kd.R_mono (ok' := fun k_ => ((fun _ => True)) k_ ∧ some k_ ≠ (u7 : Value).ownBlock) (Kd.R_apart' (HO568.out) (Kd.S_typed HO_7.out) (by decide)) (fun k_ hk => ⟨trivial, hk.2⟩))).1 k_ hk_.symm) ?aF ?aO ?aB ?aS ?aL ?_
      (case aP => exact Kd.M_row (Kd.R_mono (Kd.R_tight rfl (Kd.R_mono (ok' := fun k_ => ((fun _ => True)) k_ ∧ some k_ ≠ (u7 : Value).ownBlock) (Kd.R_apart' (HO568.out) (Kd.S_typed HO_7.out) (by decide)) (fun k_ hk => ⟨trivial, hk.2⟩))) (fun _ h_ => h_)))
      (case aB => exact bl)
      (case aF => exact (fun _ _ => trivial))
      (case aO => exact (by (with_reducible repeat (first | apply Kd.S_alloc | apply Kd.S_drewN | apply Kd.S_drew)); exact Kd.S_mono HO_7.out (fun k_ hk => ⟨trivial, fun e_ => hk.2 e_⟩)))
      (case aS => exact (below_size bl))
      (case aL => have := LMc19.out; omega)
      intro v570 w25 ho hb hg hat
      rw [← Ny569.out] at ho
      have n0_ := Aside0.mk (hb)
      have n1_ := Aside0.mk (ho)
      revert n0_ n1_; clear HB HO_7 HO568; intro HB HO571
      clear ho hb hg hat
      refine hK.out _ _ ⟨((HB.out.cell (World.block_lt_of_cell? w _ hw560_0)).trans hw560_0), ((HB.out.cell (World.block_lt_of_cell? w _ hw563_0)).trans hw563_0)⟩ (fun hHeld => ?_)
      clear hK K
      refine norm_ (a' := ?_) ?_ ?_
      rotate_left
      ·
       show Act.put _ (some 58) _ = _
       simp only [ap, sa, sb, sc, i64_w, i32_w]
       rfl
      refine pure_ (i := 14) (N := some 7) (v := ?_) (a' := ?_) #[T, T, T, T, T, T, T, T, T, T, T, T, T, T, T] rfl rfl (any_of HT_.out (by kernel_rfl)) (fun _ _ _ h => h) (Or.inl ⟨by rfl, ?_⟩) ?_ ?_
      rotate_left
      ·
       intro w'
       go_simp
       with_reducible rfl
      rotate_left
      ·
       simp only [ap, sa, sb, sc, i64_w, i32_w]
       rfl
      refine done_ (done_of HT_.out (by kernel_rfl)) ?_
      try go_wp2
      go_roundg k2
      case measure => have := HJ5.out; have := HK2.out; omega
      case rel => exact ⟨(y569), (wrap64 (x8_2 + 1)), (by first | rfl | (simp; done) | (simp [*]; done)), H', ⟨by have := HJ5.out; have := HK2.out; omega⟩, ⟨rs HO571.out⟩, ⟨bl⟩⟩
     rw [if_neg c14] at H
     have c14b0 : decide (x8_2 < (l0.length : Int)) = false := decide_eq_false c14
     clear c14
     replace H := Option.bind_eq_some_iff.mp H
     obtain ⟨⟨t572, t573⟩, A270, H⟩ := H
     (try dsimp only at H)
     have A27 := Aside0.mk A270
     clear A270
     replace H := Option.bind_eq_some_iff.mp H
     obtain ⟨t576, A280, H⟩ := H
     (try dsimp only at H)
     have A28 := Aside0.mk A280
     clear A280
     replace H := Option.bind_eq_some_iff.mp H
     obtain ⟨⟨t579, t580⟩, A290, H⟩ := H
     (try dsimp only at H)
     have A29 := Aside0.mk A290
     clear A290
     replace H := Option.bind_eq_some_iff.mp H
     obtain ⟨⟨t583, t584⟩, A300, H⟩ := H
     (try dsimp only at H)
     have A30 := Aside0.mk A300
     clear A300
     have HC31 := Aside0.mk H
     clear H
     obtain ⟨Ao32, co32, eo32⟩ := Kd.S_slice HO_7.out
     subst eo32
     go_upto_region 13 with (first | ((with_reducible refine gate_callee (f := 9) rfl ?_); refine goesL_ (some 62) rfl rfl Tryd.func9 (by kernel_rfl) rfl #[.string (⟨#[99, 111, 117, 110, 116]⟩ : ByteArray), .slice none 0 0, .slice Ao32 x7_2.length co32, .int .i64 a2] rfl aeq ?_; (refine (timer_Run.calls k2 (⟨#[99, 111, 117, 110, 116]⟩ : ByteArray) _ _ ([] : List Int) _ _ x7_2 a2 t572 t573 _ ?side1 ?side2 ?side3 ?side4 ?side5 A27.out).mono ?_); (case side1 => exact Kd.C_nil _ _); (case side2 => exact Nat.le_refl _); (case side3 => repeat (first | exact (Kd.S_reads' HO_7.out).2.2 | (with_reducible refine Kd.C_alloc ?_ _) | (with_reducible refine Kd.C_drewN ?_ _) | (with_reducible refine Kd.C_drew ?_))); (case side4 => exact (Kd.S_reads' HO_7.out).2.1); (case side5 => exact GW.below HG.out bl); rintro e w33 ⟨v574, rfl, ho0, hb⟩; refine ⟨_, rfl, ?_⟩; have n0_ := Aside0.mk (Kd.S_elder' (rs HO_7.out) (Kd.R_base ho0) hb); have n1_ := Aside0.mk (Kd.R_lower ho0 (below_size bl)); have n2_ := Aside0.mk (below_step bl hb); revert n0_ n1_ n2_; clear HO_7 HB; intro HO_7 HO575 HB; (try clear hb); (try clear hb2); (try clear hk); (try clear hi); (try clear ho0)) | ((with_reducible refine gate_callee (f := 10) rfl ?_); refine goesL_ (some 67) rfl rfl Tryd.func10 (by kernel_rfl) rfl #[.slice A0 l0.length c0] rfl aeq ?_; (with_reducible refine (plenumlaw19_on.calls k2 _ _ l0 t576 _ ?side1 ?side2 A28.out).mono ?_); (case side1 => repeat (first | exact (Kd.C_below HR0.out HB.out) | (with_reducible refine Kd.C_alloc ?_ _) | (with_reducible refine Kd.C_drewN ?_ _) | (with_reducible refine Kd.C_drew ?_))); (case side2 => exact HC0.out); rintro e w34 ⟨v577, rfl, ho0, hb⟩; refine ⟨_, rfl, ?_⟩; have n0_ := Aside0.mk (Kd.S_elder' (rs HO_7.out) (Kd.S_base ho0) hb); have n1_ := Aside0.mk (Kd.R_below (rr HO575.out) hb); have n2_ := Aside0.mk (Kd.S_lower (Kd.S_new' (Kd.S_new' ho0 (Kd.S_lt (rs HO_7.out))) (Kd.R_lt (rr HO575.out))) (below_size bl)); have n3_ := Aside0.mk (below_step bl hb); revert n0_ n1_ n2_ n3_; clear HO_7 HO575 HB; intro HO_7 HO575 HO578 HB; (try clear hb); (try clear hb2); (try clear hk); (try clear hi); (try clear ho0); obtain ⟨Ao35, co35, eo35⟩ := Kd.S_slice HO578.out; subst eo35) | ((with_reducible refine gate_callee (f := 9) rfl ?_); refine goesL_ (some 69) rfl rfl Tryd.func9 (by kernel_rfl) rfl #[.string (⟨#[101, 100, 103, 101]⟩ : ByteArray), .slice none 0 0, .slice Ao35 t576.length co35, .int .i64 a2] rfl aeq ?_; (refine (timer_Run.calls k2 (⟨#[101, 100, 103, 101]⟩ : ByteArray) _ _ ([] : List Int) _ _ t576 a2 t579 t580 _ ?side1 ?side2 ?side3 ?side4 ?side5 A29.out).mono ?_); (case side1 => exact Kd.C_nil _ _); (case side2 => exact Nat.le_refl _); (case side3 => repeat (first | exact (Kd.S_reads' HO578.out).2.2 | (with_reducible refine Kd.C_alloc ?_ _) | (with_reducible refine Kd.C_drewN ?_ _) | (with_reducible refine Kd.C_drew ?_))); (case side4 => exact (Kd.S_reads' HO578.out).2.1); (case side5 => exact GW.below HG.out bl); rintro e w36 ⟨v581, rfl, ho0, hb⟩; refine ⟨_, rfl, ?_⟩; have n0_ := Aside0.mk (Kd.S_elder' (rs HO_7.out) (Kd.R_base ho0) hb); have n1_ := Aside0.mk (Kd.R_elder' (rr HO575.out) (Kd.R_base ho0) hb); have n2_ := Aside0.mk (Kd.S_elder' (rs HO578.out) (Kd.R_base ho0) hb); have n3_ := Aside0.mk (Kd.R_lower (Kd.R_new' ho0 (Kd.R_lt (rr HO575.out))) (below_size bl)); have n4_ := Aside0.mk (below_step bl hb); revert n0_ n1_ n2_ n3_ n4_; clear HO_7 HO575 HO578 HB; intro HO_7 HO575 HO578 HO582 HB; (try clear hb); (try clear hb2); (try clear hk); (try clear hi); (try clear ho0)) | ((with_reducible refine gate_callee (f := 9) rfl ?_); refine goesL_ (some 75) rfl rfl Tryd.func9 (by kernel_rfl) rfl #[.string (⟨#[108, 97, 116, 99, 104]⟩ : ByteArray), .slice none 0 0, .slice Ao32 x7_2.length co32, .int .i64 a2] rfl aeq ?_; (refine (timer_Run.calls k2 (⟨#[108, 97, 116, 99, 104]⟩ : ByteArray) _ _ ([] : List Int) _ _ x7_2 a2 t583 t584 _ ?side1 ?side2 ?side3 ?side4 ?side5 A30.out).mono ?_); (case side1 => exact Kd.C_nil _ _); (case side2 => exact Nat.le_refl _); (case side3 => repeat (first | exact (Kd.S_reads' HO_7.out).2.2 | (with_reducible refine Kd.C_alloc ?_ _) | (with_reducible refine Kd.C_drewN ?_ _) | (with_reducible refine Kd.C_drew ?_))); (case side4 => exact (Kd.S_reads' HO_7.out).2.1); (case side5 => exact GW.below HG.out bl); rintro e w37 ⟨v585, rfl, ho0, hb⟩; refine ⟨_, rfl, ?_⟩; have n0_ := Aside0.mk (Kd.S_elder' (rs HO_7.out) (Kd.R_base ho0) hb); have n1_ := Aside0.mk (Kd.R_elder' (rr HO575.out) (Kd.R_base ho0) hb); have n2_ := Aside0.mk (Kd.S_elder' (rs HO578.out) (Kd.R_base ho0) hb); have n3_ := Aside0.mk (Kd.R_elder' (rr HO582.out) (Kd.R_base ho0) hb); have n4_ := Aside0.mk (Kd.R_lower (Kd.R_new' (Kd.R_new' ho0 (Kd.R_lt (rr HO575.out))) (Kd.R_lt (rr HO582.out))) (below_size bl)); have n5_ := Aside0.mk (below_step bl hb); revert n0_ n1_ n2_ n3_ n4_ n5_; clear HO_7 HO575 HO578 HO582 HB; intro HO_7 HO575 HO578 HO582 HO586 HB; (try clear hb); (try clear hb2); (try clear hk); (try clear hi); (try clear ho0)))
     (try simp only [ap, sa, sb, sc])
     go_cut [108] (fun v108 wc => ∃ (kq : Nat) (x108_30 : Bool), v108 = .bool x108_30 ∧ Aside0 (plenumlaw19_TimerCounts.j2 kq l0 l1 t572 t579 t583 x108_30 = some r) ∧ Aside0 (kq ≤ k2) ∧ Aside0 (Kd.R k32 32 wc w.heap.size (fun k_ => some k_ ≠ (v581 : Value).ownBlock ∧ some k_ ≠ (v585 : Value).ownBlock) v574 t572) ∧ Aside0 (Kd.R k32 32 wc w.heap.size (fun k_ => some k_ ≠ (v574 : Value).ownBlock ∧ some k_ ≠ (v585 : Value).ownBlock) v581 t579) ∧ Aside0 (Kd.R k32 32 wc w.heap.size (fun k_ => some k_ ≠ (v574 : Value).ownBlock ∧ some k_ ≠ (v581 : Value).ownBlock) v585 t583) ∧ Aside0 (Below w.heap.size w wc))
     case first =>
      have H := HC31.out
      clear HC31
      by_cases c38 : t573 = 0
      rotate_left
      ·
       rw [if_neg c38] at H
       have c38b0 : (t573 == 0) = false := beq_eq_false_iff_ne.mpr c38
       have c38b1 : (t573 != 0) = true := bne_iff_ne.mpr c38
       (first | rw [c38b0] | (simp only [i64_w, i32_w]; rw [c38b0]) | skip)
       have H' := Aside0.mk H
       clear H
       go_wp2
       go_meet
       case rel => exact ⟨_, (true), (by first | rfl | (simp; done) | (simp [*]; done)), H', ⟨by have := HJ5.out; have := HK2.out; first | omega | exact Nat.le_refl _⟩, ⟨by (with_reducible repeat (first | apply Kd.R_alloc | apply Kd.R_drewN | apply Kd.R_drew)); exact Kd.R_mono HO575.out (fun _ hk => ⟨hk.1.2, hk.2⟩)⟩, ⟨by (with_reducible repeat (first | apply Kd.R_alloc | apply Kd.R_drewN | apply Kd.R_drew)); exact Kd.R_mono HO582.out (fun _ hk => ⟨hk.1.2, hk.2⟩)⟩, ⟨by (with_reducible repeat (first | apply Kd.R_alloc | apply Kd.R_drewN | apply Kd.R_drew)); exact Kd.R_mono HO586.out (fun _ hk => ⟨hk.1.2, hk.2⟩)⟩, ⟨bl⟩⟩
      rw [if_pos c38] at H
      have c38b0 : (t573 == 0) = true := beq_iff_eq.mpr c38
      have c38b1 : (t573 != 0) = false := bne_eq_false_iff_eq.mpr c38
      clear c38
      (first | rw [c38b0] | (simp only [i64_w, i32_w]; rw [c38b0]) | skip)
      by_cases c39 : t580 = 0
      rotate_left
      ·
       rw [if_neg c39] at H
       have c39b0 : (t580 == 0) = false := beq_eq_false_iff_ne.mpr c39
       have c39b1 : (t580 != 0) = true := bne_iff_ne.mpr c39
       have H' := Aside0.mk H
       clear H
       go_wp2
       go_meet
       case rel => exact ⟨_, (true), (by first | rfl | (simp; done) | (simp [*]; done)), H', ⟨by have := HJ5.out; have := HK2.out; first | omega | exact Nat.le_refl _⟩, ⟨by (with_reducible repeat (first | apply Kd.R_alloc | apply Kd.R_drewN | apply Kd.R_drew)); exact Kd.R_mono HO575.out (fun _ hk => ⟨hk.1.2, hk.2⟩)⟩, ⟨by (with_reducible repeat (first | apply Kd.R_alloc | apply Kd.R_drewN | apply Kd.R_drew)); exact Kd.R_mono HO582.out (fun _ hk => ⟨hk.1.2, hk.2⟩)⟩, ⟨by (with_reducible repeat (first | apply Kd.R_alloc | apply Kd.R_drewN | apply Kd.R_drew)); exact Kd.R_mono HO586.out (fun _ hk => ⟨hk.1.2, hk.2⟩)⟩, ⟨bl⟩⟩
      rw [if_pos c39] at H
      have c39b0 : (t580 == 0) = true := beq_iff_eq.mpr c39
      have c39b1 : (t580 != 0) = false := bne_eq_false_iff_eq.mpr c39
      clear c39
      by_cases c40 : t584 = 0
      rotate_left
      ·
       rw [if_neg c40] at H
       have c40b0 : (t584 == 0) = false := beq_eq_false_iff_ne.mpr c40
       have c40b1 : (t584 != 0) = true := bne_iff_ne.mpr c40
       have H' := Aside0.mk H
       clear H
       go_wp2
       go_meet
       case rel => exact ⟨_, (true), (by first | rfl | (simp; done) | (simp [*]; done)), H', ⟨by have := HJ5.out; have := HK2.out; first | omega | exact Nat.le_refl _⟩, ⟨by (with_reducible repeat (first | apply Kd.R_alloc | apply Kd.R_drewN | apply Kd.R_drew)); exact Kd.R_mono HO575.out (fun _ hk => ⟨hk.1.2, hk.2⟩)⟩, ⟨by (with_reducible repeat (first | apply Kd.R_alloc | apply Kd.R_drewN | apply Kd.R_drew)); exact Kd.R_mono HO582.out (fun _ hk => ⟨hk.1.2, hk.2⟩)⟩, ⟨by (with_reducible repeat (first | apply Kd.R_alloc | apply Kd.R_drewN | apply Kd.R_drew)); exact Kd.R_mono HO586.out (fun _ hk => ⟨hk.1.2, hk.2⟩)⟩, ⟨bl⟩⟩
      rw [if_pos c40] at H
      have c40b0 : (t584 == 0) = true := beq_iff_eq.mpr c40
      have c40b1 : (t584 != 0) = false := bne_eq_false_iff_eq.mpr c40
      clear c40
      by_cases c41 : (t572.length : Int) = (l0.length : Int)
      rotate_left
      ·
       rw [if_neg c41] at H
       have c41b0 : ((t572.length : Int) == (l0.length : Int)) = false := beq_eq_false_iff_ne.mpr c41
       have c41b1 : ((t572.length : Int) != (l0.length : Int)) = true := bne_iff_ne.mpr c41
       have c41b2 : (t572.length == l0.length) = false := by first | simpa using c41 | (simp at c41 ⊢; omega)
       have H' := Aside0.mk H
       clear H
       obtain ⟨Ao48, co48, eo48⟩ := Kd.R_slice HO575.out
       subst eo48
       go_wp2
       go_meet
       case rel => exact ⟨_, (true), (by first | rfl | (simp; done) | (simp [*]; done)), H', ⟨by have := HJ5.out; have := HK2.out; first | omega | exact Nat.le_refl _⟩, ⟨by (with_reducible repeat (first | apply Kd.R_alloc | apply Kd.R_drewN | apply Kd.R_drew)); exact Kd.R_mono HO575.out (fun _ hk => ⟨hk.1.2, hk.2⟩)⟩, ⟨by (with_reducible repeat (first | apply Kd.R_alloc | apply Kd.R_drewN | apply Kd.R_drew)); exact Kd.R_mono HO582.out (fun _ hk => ⟨hk.1.2, hk.2⟩)⟩, ⟨by (with_reducible repeat (first | apply Kd.R_alloc | apply Kd.R_drewN | apply Kd.R_drew)); exact Kd.R_mono HO586.out (fun _ hk => ⟨hk.1.2, hk.2⟩)⟩, ⟨bl⟩⟩
      rw [if_pos c41] at H
      have c41b0 : ((t572.length : Int) == (l0.length : Int)) = true := beq_iff_eq.mpr c41
      have c41b1 : ((t572.length : Int) != (l0.length : Int)) = false := bne_eq_false_iff_eq.mpr c41
      have c41b2 : (t572.length == l0.length) = true := by first | simpa using c41 | (simp at c41 ⊢; omega)
      clear c41
      by_cases c42 : (t579.length : Int) = (l0.length : Int)
      rotate_left
      ·
       rw [if_neg c42] at H
       have c42b0 : ((t579.length : Int) == (l0.length : Int)) = false := beq_eq_false_iff_ne.mpr c42
       have c42b1 : ((t579.length : Int) != (l0.length : Int)) = true := bne_iff_ne.mpr c42
       have c42b2 : (t579.length == l0.length) = false := by first | simpa using c42 | (simp at c42 ⊢; omega)
       have H' := Aside0.mk H
       clear H
       obtain ⟨Ao46, co46, eo46⟩ := Kd.R_slice HO575.out
       subst eo46
       obtain ⟨Ao47, co47, eo47⟩ := Kd.R_slice HO582.out
       subst eo47
       go_wp2
       go_meet
       case rel => exact ⟨_, (true), (by first | rfl | (simp; done) | (simp [*]; done)), H', ⟨by have := HJ5.out; have := HK2.out; first | omega | exact Nat.le_refl _⟩, ⟨by (with_reducible repeat (first | apply Kd.R_alloc | apply Kd.R_drewN | apply Kd.R_drew)); exact Kd.R_mono HO575.out (fun _ hk => ⟨hk.1.2, hk.2⟩)⟩, ⟨by (with_reducible repeat (first | apply Kd.R_alloc | apply Kd.R_drewN | apply Kd.R_drew)); exact Kd.R_mono HO582.out (fun _ hk => ⟨hk.1.2, hk.2⟩)⟩, ⟨by (with_reducible repeat (first | apply Kd.R_alloc | apply Kd.R_drewN | apply Kd.R_drew)); exact Kd.R_mono HO586.out (fun _ hk => ⟨hk.1.2, hk.2⟩)⟩, ⟨bl⟩⟩
      rw [if_pos c42] at H
      have c42b0 : ((t579.length : Int) == (l0.length : Int)) = true := beq_iff_eq.mpr c42
      have c42b1 : ((t579.length : Int) != (l0.length : Int)) = false := bne_eq_false_iff_eq.mpr c42
      have c42b2 : (t579.length == l0.length) = true := by first | simpa using c42 | (simp at c42 ⊢; omega)
      clear c42
      have H' := Aside0.mk H
      clear H
      obtain ⟨Ao43, co43, eo43⟩ := Kd.R_slice HO575.out
      subst eo43
      obtain ⟨Ao44, co44, eo44⟩ := Kd.R_slice HO582.out
      subst eo44
      obtain ⟨Ao45, co45, eo45⟩ := Kd.R_slice HO586.out
      subst eo45
      go_wp2
      go_meet
      case rel => exact ⟨_, (((t583.length : Int) != (l0.length : Int))), (by first | rfl | (simp; done) | (simp [*]; done)), H', ⟨by have := HJ5.out; have := HK2.out; first | omega | exact Nat.le_refl _⟩, ⟨by (with_reducible repeat (first | apply Kd.R_alloc | apply Kd.R_drewN | apply Kd.R_drew)); exact Kd.R_mono HO575.out (fun _ hk => ⟨hk.1.2, hk.2⟩)⟩, ⟨by (with_reducible repeat (first | apply Kd.R_alloc | apply Kd.R_drewN | apply Kd.R_drew)); exact Kd.R_mono HO582.out (fun _ hk => ⟨hk.1.2, hk.2⟩)⟩, ⟨by (with_reducible repeat (first | apply Kd.R_alloc | apply Kd.R_drewN | apply Kd.R_drew)); exact Kd.R_mono HO586.out (fun _ hk => ⟨hk.1.2, hk.2⟩)⟩, ⟨bl⟩⟩
     clear HC31
     try clear c1
     try clear c2
     try clear p2
     try clear c3
     try clear c4
     try clear c5
     try clear p5
     try clear q5
     try clear hx5
     try clear c6
     try clear p6
     try clear c8
     try clear c8b0
     try clear c8b1
     try clear c9
     try clear c9b0
     try clear c9b1
     try clear c9b2
     try clear c10
     try clear c10b0
     try clear c11
     try clear c14
     try clear c14b0
     try clear c15
     try clear c15b0
     try clear c17
     try clear c17b0
     try clear c19
     try clear c38
     try clear c38b0
     try clear c38b1
     try clear c39
     try clear c39b0
     try clear c39b1
     try clear c40
     try clear c40b0
     try clear c40b1
     try clear c41
     try clear c41b0
     try clear c41b1
     try clear c41b2
     try clear c42
     try clear c42b0
     try clear c42b1
     try clear c42b2
     try clear hx560_0
     try clear hx563_0
     try clear p2
     try clear p560
     try clear p563
     try clear q560
     try clear q563
     obtain ⟨kq, x108_30, rfl, HA, HJ30, HO_9, HO_11, HO_13, HB⟩ := hcut
     cases kq with
     | zero => exact absurd HA.out (by simp [plenumlaw19_TimerCounts.j2])
     | succ kj30 =>
      have H := HA.out
      clear HA
      simp only [plenumlaw19_TimerCounts.j2] at H
      by_cases c49 : x108_30 = true
      ·
       subst c49
       rw [if_pos rfl] at H
       exact absurd H (by simp)
      replace c49 := Bool.eq_false_iff.mpr c49
      subst c49
      rw [if_neg (show ¬ (false = true) by decide)] at H
      have H' := Aside0.mk H
      clear H
      go_wp2
      go_loopg [15, 16, 17] kj30 (fun kq v15 v16 v17 w' => ∃ (x15_4 : Int) (x16_4 : Bool) (x17_4 : Int), v15 = .int .i64 x15_4 ∧ v16 = .bool x16_4 ∧ v17 = .int .i64 x17_4 ∧ Aside0 (plenumlaw19_TimerCounts.l1 kq l0 l1 t572 t579 t583 x15_4 x16_4 x17_4 = some r) ∧ Aside0 (kq ≤ kj30) ∧ Aside0 (Kd.R k32 32 w' w.heap.size (fun k_ => some k_ ≠ (v581 : Value).ownBlock ∧ some k_ ≠ (v585 : Value).ownBlock) v574 t572) ∧ Aside0 (Kd.R k32 32 w' w.heap.size (fun k_ => some k_ ≠ (v574 : Value).ownBlock ∧ some k_ ≠ (v585 : Value).ownBlock) v581 t579) ∧ Aside0 (Kd.R k32 32 w' w.heap.size (fun k_ => some k_ ≠ (v574 : Value).ownBlock ∧ some k_ ≠ (v581 : Value).ownBlock) v585 t583) ∧ Aside0 (Below w.heap.size w w'))
      case atStart => exact ⟨(0), (false), (0), (by first | rfl | (simp; done) | (simp [*]; done)), (by first | rfl | (simp; done) | (simp [*]; done)), (by first | rfl | (simp; done) | (simp [*]; done)), H', ⟨Nat.le_refl _⟩, ⟨rr HO_9.out⟩, ⟨rr HO_11.out⟩, ⟨rr HO_13.out⟩, ⟨bl⟩⟩
      case round =>
       clear H'
       try clear c1
       try clear c2
       try clear p2
       try clear c3
       try clear c4
       try clear c5
       try clear p5
       try clear q5
       try clear hx5
       try clear c6
       try clear p6
       try clear c8
       try clear c8b0
       try clear c8b1
       try clear c9
       try clear c9b0
       try clear c9b1
       try clear c9b2
       try clear c10
       try clear c10b0
       try clear c11
       try clear c14
       try clear c14b0
       try clear c15
       try clear c15b0
       try clear c17
       try clear c17b0
       try clear c19
       try clear c38
       try clear c38b0
       try clear c38b1
       try clear c39
       try clear c39b0
       try clear c39b1
       try clear c40
       try clear c40b0
       try clear c40b1
       try clear c41
       try clear c41b0
       try clear c41b1
       try clear c41b2
       try clear c42
       try clear c42b0
       try clear c42b1
       try clear c42b2
       try clear c49
       try clear hx560_0
       try clear hx563_0
       try clear p2
       try clear p5
       try clear p560
       try clear p563
       try clear p6
       try clear q5
       try clear q560
       try clear q563
       obtain ⟨x15_4, x16_4, x17_4, rfl, rfl, rfl, HA, HK4, HO_9, HO_11, HO_13, HB⟩ := hrel
       cases gk with
       | zero => exact absurd HA.out (by simp [plenumlaw19_TimerCounts.l1])
       | succ k4 =>
        have H := HA.out
        clear HA
        simp only [plenumlaw19_TimerCounts.l1] at H
        by_cases c50 : x17_4 < (l0.length : Int)
        rotate_left
        ·
         rw [if_neg c50] at H
         have c50b0 : decide (x17_4 < (l0.length : Int)) = false := decide_eq_false c50
         clear c50
         obtain rfl := Option.some.inj H
         go_wp2
         go_ret
         exact ⟨by first | rfl | (simp [errW_none, errW_some] <;> rfl) | (simp [*, errW_none, errW_some] <;> rfl), bl⟩
        rw [if_pos c50] at H
        have c50b0 : decide (x17_4 < (l0.length : Int)) = true := decide_eq_true c50
        clear c50
        by_cases c51 : 0 ≤ x17_4
        rotate_left
        ·
         rw [if_neg c51] at H
         exact absurd H (by simp)
        rw [if_pos c51] at H
        have c51b0 : decide (0 ≤ x17_4) = true := decide_eq_true c51
        clear c51
        by_cases c52 : x17_4 < (l1.length : Int)
        rotate_left
        ·
         rw [if_neg c52] at H
         exact absurd H (by simp)
        rw [if_pos c52] at H
        have c52b0 : decide (x17_4 < (l1.length : Int)) = true := decide_eq_true c52
        clear c52
        obtain ⟨bq53, hbq53⟩ : ∃ b_ : Bool, b_ = (rdOf false l1 x17_4) := ⟨_, rfl⟩
        replace H : (if bq53 = true then (if x17_4 < (t572.length : Int) then (if (!(((rd_T32 t572 x17_4).f0) == 1) || (!(((rd_T32 t572 x17_4).f1) == (wrap64 0)))) = true then (none) else (if x17_4 < (t583.length : Int) then ((plenumlaw19_bit.f false).bind fun bt590 => (if (!(((rd_T32 t583 x17_4).f0) == bt590.1) || (!(((rd_T32 t583 x17_4).f1) == bt590.2))) = true then (none) else (plenumlaw19_TimerCounts.l1 k4 l0 l1 t572 t579 t583 0 false (wrap64 (x17_4 + 1))))) else (none))) else (none)) else (if x17_4 < (t579.length : Int) then (if x16_4 = true then (if x17_4 < (t572.length : Int) then (if (!(((rd_T32 t572 x17_4).f0) == 1) || (!(((rd_T32 t572 x17_4).f1) == (wrap64 (1000 * (wrap64 (x15_4 + ((rd_T32 t579 x17_4).f1)))))))) = true then (none) else (if x17_4 < (t583.length : Int) then ((plenumlaw19_bit.f true).bind fun bt595 => (if (!(((rd_T32 t583 x17_4).f0) == bt595.1) || (!(((rd_T32 t583 x17_4).f1) == bt595.2))) = true then (none) else (plenumlaw19_TimerCounts.l1 k4 l0 l1 t572 t579 t583 (wrap64 (x15_4 + ((rd_T32 t579 x17_4).f1))) true (wrap64 (x17_4 + 1))))) else (none))) else (none)) else (if x17_4 < (t572.length : Int) then (if (!(((rd_T32 t572 x17_4).f0) == 1) || (!(((rd_T32 t572 x17_4).f1) == (wrap64 (1000 * (wrap64 (x15_4 + ((rd_T32 t579 x17_4).f1)))))))) = true then (none) else (if x17_4 < (t583.length : Int) then ((plenumlaw19_bit.f (rdOf false l0 x17_4)).bind fun bt600 => (if (!(((rd_T32 t583 x17_4).f0) == bt600.1) || (!(((rd_T32 t583 x17_4).f1) == bt600.2))) = true then (none) else (plenumlaw19_TimerCounts.l1 k4 l0 l1 t572 t579 t583 (wrap64 (x15_4 + ((rd_T32 t579 x17_4).f1))) (rdOf false l0 x17_4) (wrap64 (x17_4 + 1))))) else (none))) else (none))) else (none))) = some r := by rw [← hbq53] at H; exact H
        have Nbq53 := Aside0.mk hbq53
        clear hbq53
        by_cases c54 : bq53 = true
        ·
         subst c54
         rw [if_pos rfl] at H
         by_cases c55 : x17_4 < (t572.length : Int)
         rotate_left
         ·
          rw [if_neg c55] at H
          exact absurd H (by simp)
         rw [if_pos c55] at H
         have c55b0 : decide (x17_4 < (t572.length : Int)) = true := decide_eq_true c55
         clear c55
         by_cases c56 : (!(((rd_T32 t572 x17_4).f0) == 1) || (!(((rd_T32 t572 x17_4).f1) == (wrap64 0)))) = true
         ·
          rw [if_pos c56] at H
          have c56b0 : (!(((rd_T32 t572 x17_4).f0) == 1) || (!(((rd_T32 t572 x17_4).f1) == (wrap64 0)))) = true := c56
          clear c56
          exact absurd H (by simp)
         rw [if_neg c56] at H
         have c56b0 : (!(((rd_T32 t572 x17_4).f0) == 1) || (!(((rd_T32 t572 x17_4).f1) == (wrap64 0)))) = false := by simpa using c56
         clear c56
         by_cases c57 : x17_4 < (t583.length : Int)
         rotate_left
         ·
          rw [if_neg c57] at H
          exact absurd H (by simp)
         rw [if_pos c57] at H
         have c57b0 : decide (x17_4 < (t583.length : Int)) = true := decide_eq_true c57
         clear c57
         replace H := Option.bind_eq_some_iff.mp H
         obtain ⟨⟨t590, t591⟩, A580, H⟩ := H
         (try dsimp only at H)
         have A58 := Aside0.mk A580
         clear A580
         by_cases c59 : (!(((rd_T32 t583 x17_4).f0) == t590) || (!(((rd_T32 t583 x17_4).f1) == t591))) = true
         ·
          rw [if_pos c59] at H
          exact absurd H (by simp)
         rw [if_neg c59] at H
         have c59b0 : (!(((rd_T32 t583 x17_4).f0) == t590) || (!(((rd_T32 t583 x17_4).f1) == t591))) = false := by simpa using c59
         clear c59
         have H' := Aside0.mk H
         clear H
         have p587 : 0 ≤ (x17_4 : Int) := ode
         have q587 : x17_4 < (l1.length : Int) := ode
         obtain ⟨ad587, e587, hx587_0⟩ := Kd.at_bool HR1.out x17_4 p587 q587
         (try rw [← Nbq53.out] at hx587_0)
         cases e587
         replace hx587_0 := (HB.out.cell (World.block_lt_of_cell? w _ hx587_0)).trans hx587_0
         replace p587 := eq_true p587
         replace q587 := eq_true q587
         try go_wp2
         have n0_ := Aside0.mk (Kd.R_drew HO_9.out)
         have n1_ := Aside0.mk (Kd.R_drew HO_11.out)
         have n2_ := Aside0.mk (Kd.R_drew HO_13.out)
         have n3_ := Aside0.mk (below_drew1 HB.out)
         revert n0_ n1_ n2_ n3_; clear HO_9 HO_11 HO_13 HB; intro HO_9 HO_11 HO_13 HB
         obtain ⟨Ao61, co61, eo61⟩ := Kd.R_slice HO_9.out
         (first | subst eo61 | (injection eo61 with f1_ f2_ f3_; have f4_ := f1_.symm; have f5_ := f3_.symm; clear f1_ f2_ f3_; subst f4_; subst f5_))
         have p588 : 0 ≤ (x17_4 : Int) := ode
         have q588 : x17_4 < (t572.length : Int) := ode
         obtain ⟨ad588, e588, hx588_0, hx588_1⟩ := at_T32 (Kd.R_reads' HO_9.out).2.2 x17_4 p588 q588
         cases e588
         replace p588 := eq_true p588
         replace q588 := eq_true q588
         obtain ⟨Ao62, co62, eo62⟩ := Kd.R_slice HO_13.out
         (first | subst eo62 | (injection eo62 with f1_ f2_ f3_; have f4_ := f1_.symm; have f5_ := f3_.symm; clear f1_ f2_ f3_; subst f4_; subst f5_))
         have p589 : 0 ≤ (x17_4 : Int) := ode
         have q589 : x17_4 < (t583.length : Int) := ode
         obtain ⟨ad589, e589, hx589_0, hx589_1⟩ := at_T32 (Kd.R_reads' HO_13.out).2.2 x17_4 p589 q589
         cases e589
         replace p589 := eq_true p589
         replace q589 := eq_true q589
         refine start_ (n := 17) (S := fun w' => w'.cell? (ad588.add ((x17_4).toNat * 2)) = some (.int .i64 ((rd_T32 t572 x17_4).f0)) ∧ w'.cell? ⟨(ad588.add ((x17_4).toNat * 2)).block, (ad588.add ((x17_4).toNat * 2)).off + 1, none⟩ = some (.int .i64 ((rd_T32 t572 x17_4).f1)) ∧ w'.cell? (ad589.add ((x17_4).toNat * 2)) = some (.int .i64 ((rd_T32 t583 x17_4).f0)) ∧ w'.cell? ⟨(ad589.add ((x17_4).toNat * 2)).block, (ad589.add ((x17_4).toNat * 2)).off + 1, none⟩ = some (.int .i64 ((rd_T32 t583 x17_4).f1))) (ds := []) #[F, F, F, F, F, F, F, F, F, F, F, F, F, F, F, F, F] (by kernel_rfl) rfl rfl ⟨hx588_0, hx588_1, hx589_0, hx589_1⟩ (fun hHeld => ?_); refine with_tabW plenumlaw19_TimerCounts.tab23 plenumlaw19_TimerCounts.bits23 (fun HT_ HW_ => ?_)
         generalize wr.drew = w60 at HO_9 HO_11 HO_13 HB hx588_0 hx588_1 hx589_0 hx589_1 hHeld ⊢
         refine pure_ (i := 0) (N := some 133) (v := ?_) (a' := ?_) #[T, F, F, F, F, F, F, F, F, F, F, F, F, F, F, F, F] rfl rfl (any_of HT_.out (by kernel_rfl)) (fun _ _ _ h => h) (Or.inl ⟨by rfl, ?_⟩) ?_ ?_
         rotate_left
         ·
          intro w'
          go_simp
          with_reducible rfl
         rotate_left
         ·
          simp only [ap, sa, sb, sc, i64_w, i32_w]
          rfl
         refine pure_ (i := 1) (N := some 134) (v := ?_) (a' := ?_) #[T, T, F, F, F, F, F, F, F, F, F, F, F, F, F, F, F] rfl rfl (any_of HT_.out (by kernel_rfl)) (fun _ _ _ h => h) (Or.inl ⟨by rfl, ?_⟩) ?_ ?_
         rotate_left
         ·
          intro w'
          go_simp
          with_reducible rfl
         rotate_left
         ·
          simp only [ap, sa, sb, sc, i64_w, i32_w]
          rfl
         refine pure_ (i := 2) (N := some 135) (v := ?_) (a' := ?_) #[T, T, T, F, F, F, F, F, F, F, F, F, F, F, F, F, F] rfl rfl (any_of HT_.out (by kernel_rfl)) (fun _ _ _ h => h) (Or.inl ⟨by rfl, ?_⟩) ?_ ?_
         rotate_left
         ·
          intro w'
          go_simp
          with_reducible rfl
         rotate_left
         ·
          simp only [ap, sa, sb, sc, i64_w, i32_w]
          rfl
         refine pure_ (i := 4) (N := some 137) (v := ?_) (a' := ?_) #[T, T, T, F, T, F, F, F, F, F, F, F, F, F, F, F, F] rfl rfl (any_of HT_.out (by kernel_rfl)) (fun _ _ _ h => h) (Or.inl ⟨by rfl, ?_⟩) ?_ ?_
         rotate_left
         ·
          intro w'
          go_simp
          with_reducible rfl
         rotate_left
         ·
          simp only [ap, sa, sb, sc, i64_w, i32_w]
          rfl
         refine pure_ (i := 5) (N := some 138) (v := ?_) (a' := ?_) #[T, T, T, F, T, T, F, F, F, F, F, F, F, F, F, F, F] rfl rfl (any_of HT_.out (by kernel_rfl)) (fun _ _ _ h => h) (Or.inl ⟨by rfl, ?_⟩) ?_ ?_
         rotate_left
         ·
          intro w'
          go_simp
          with_reducible rfl
         rotate_left
         ·
          simp only [ap, sa, sb, sc, i64_w, i32_w]
          rfl
         refine pure_ (i := 6) (N := some 139) (v := ?_) (a' := ?_) #[T, T, T, F, T, T, T, F, F, F, F, F, F, F, F, F, F] rfl rfl (any_of HT_.out (by kernel_rfl)) (fun _ _ _ h => h) (Or.inl ⟨by rfl, ?_⟩) ?_ ?_
         rotate_left
         ·
          intro w'
          go_simp
          with_reducible rfl
         rotate_left
         ·
          simp only [ap, sa, sb, sc, i64_w, i32_w]
          rfl
         refine take_ (i := 3) (N := some 136) (v := ?_) (a' := ?_) #[T, T, T, T, T, T, T, F, F, F, F, F, F, F, F, F, F] rfl rfl (take_ofW HT_.out HW_.out (by kernel_rfl)) (fun _ _ _ h => h) (Or.inl ⟨by rfl, ?_⟩) hHeld ?_ ?_
         rotate_left
         ·
          rintro w' ⟨s0, s1, s2, s3⟩
          go_simp
          with_reducible rfl
         rotate_left
         ·
          simp only [ap, sa, sb, sc, i64_w, i32_w]
          rfl
         refine pure_ (i := 7) (N := some 140) (v := ?_) (a' := ?_) #[T, T, T, T, T, T, T, T, F, F, F, F, F, F, F, F, F] rfl rfl (any_of HT_.out (by kernel_rfl)) (fun _ _ _ h => h) (Or.inl ⟨by rfl, ?_⟩) ?_ ?_
         rotate_left
         ·
          intro w'
          go_simp
          with_reducible rfl
         rotate_left
         ·
          simp only [ap, sa, sb, sc, i64_w, i32_w]
          rfl
         refine pure_ (i := 8) (N := some 141) (v := ?_) (a' := ?_) #[T, T, T, T, T, T, T, T, T, F, F, F, F, F, F, F, F] rfl rfl (any_of HT_.out (by kernel_rfl)) (fun _ _ _ h => h) (Or.inl ⟨by rfl, ?_⟩) ?_ ?_
         rotate_left
         ·
          intro w'
          go_simp
          with_reducible rfl
         rotate_left
         ·
          simp only [ap, sa, sb, sc, i64_w, i32_w]
          rfl
         refine pure_ (i := 9) (N := some 142) (v := ?_) (a' := ?_) #[T, T, T, T, T, T, T, T, T, T, F, F, F, F, F, F, F] rfl rfl (any_of HT_.out (by kernel_rfl)) (fun _ _ _ h => h) (Or.inl ⟨by rfl, ?_⟩) ?_ ?_
         rotate_left
         ·
          intro w'
          go_simp
          with_reducible rfl
         rotate_left
         ·
          simp only [ap, sa, sb, sc, i64_w, i32_w]
          rfl
         refine pure_ (i := 10) (N := some 143) (v := ?_) (a' := ?_) #[T, T, T, T, T, T, T, T, T, T, T, F, F, F, F, F, F] rfl rfl (any_of HT_.out (by kernel_rfl)) (fun _ _ _ h => h) (Or.inl ⟨by rfl, ?_⟩) ?_ ?_
         rotate_left
         ·
          intro w'
          go_simp
          with_reducible rfl
         rotate_left
         ·
          simp only [ap, sa, sb, sc, i64_w, i32_w]
          rfl
         refine pure_ (i := 11) (N := some 144) (v := ?_) (a' := ?_) #[T, T, T, T, T, T, T, T, T, T, T, T, F, F, F, F, F] rfl rfl (any_of HT_.out (by kernel_rfl)) (fun _ _ _ h => h) (Or.inl ⟨by rfl, ?_⟩) ?_ ?_
         rotate_left
         ·
          intro w'
          go_simp
          with_reducible rfl
         rotate_left
         ·
          simp only [ap, sa, sb, sc, i64_w, i32_w]
          rfl
         refine pure_ (i := 13) (N := some 146) (v := ?_) (a' := ?_) #[T, T, T, T, T, T, T, T, T, T, T, T, F, T, F, F, F] rfl rfl (any_of HT_.out (by kernel_rfl)) (fun _ _ _ h => h) (Or.inl ⟨by rfl, ?_⟩) ?_ ?_
         rotate_left
         ·
          intro w'
          go_simp
          with_reducible rfl
         rotate_left
         ·
          simp only [ap, sa, sb, sc, i64_w, i32_w]
          rfl
         refine take_ (i := 12) (N := some 145) (v := ?_) (a' := ?_) #[T, T, T, T, T, T, T, T, T, T, T, T, T, T, F, F, F] rfl rfl (take_ofW HT_.out HW_.out (by kernel_rfl)) (fun _ _ _ h => h) (Or.inl ⟨by rfl, ?_⟩) hHeld ?_ ?_
         rotate_left
         ·
          rintro w' ⟨s0, s1, s2, s3⟩
          go_simp
          with_reducible rfl
         rotate_left
         ·
          simp only [ap, sa, sb, sc, i64_w, i32_w]
          rfl
         refine one_ (i := 14) (N := some 147) #[T, T, T, T, T, T, T, T, T, T, T, T, T, T, T, F, F] rfl rfl (one_of HT_.out (by kernel_rfl)) (by decide) (fun K hK => ?_)
         refine goes_ Tryd.func11 (by kernel_rfl) rfl #[.bool false] (by rfl) rfl rfl aeq ?_
         with_reducible refine (plenumlaw19_bit.calls false t590 t591 _ A58.out).mono ?_
         rintro e w63 ⟨rfl, hb⟩
         have HS0_ := (hb.cell (World.block_lt_of_cell? _ _ (hHeld.1))).trans (hHeld.1)
         have HS1_ := (hb.cell (World.block_lt_of_cell? _ _ (hHeld.2.1))).trans (hHeld.2.1)
         have HS2_ := (hb.cell (World.block_lt_of_cell? _ _ (hHeld.2.2.1))).trans (hHeld.2.2.1)
         have HS3_ := (hb.cell (World.block_lt_of_cell? _ _ (hHeld.2.2.2))).trans (hHeld.2.2.2)
         refine ⟨_, rfl, ?_⟩
         have n0_ := Aside0.mk (Kd.R_below (rr HO_9.out) hb)
         have n1_ := Aside0.mk (Kd.R_below (rr HO_11.out) hb)
         have n2_ := Aside0.mk (Kd.R_below (rr HO_13.out) hb)
         have n3_ := Aside0.mk (below_step bl hb)
         revert n0_ n1_ n2_ n3_; clear HO_9 HO_11 HO_13 HB; intro HO_9 HO_11 HO_13 HB
         (try clear hb)
         (try clear hb2)
         (try clear hk)
         (try clear hi)
         refine hK.out _ _ ⟨HS0_, HS1_, HS2_, HS3_⟩ (fun hHeld => ?_)
         clear hK K
         refine norm_ (a' := ?_) ?_ ?_
         rotate_left
         ·
          show Act.put _ (some 147) _ = _
          simp only [ap, sa, sb, sc, i64_w, i32_w]
          rfl
         refine pure_ (i := 15) (N := some 148) (v := ?_) (a' := ?_) #[T, T, T, T, T, T, T, T, T, T, T, T, T, T, T, T, F] rfl rfl (any_of HT_.out (by kernel_rfl)) (fun _ _ _ h => h) (Or.inl ⟨by rfl, ?_⟩) ?_ ?_
         rotate_left
         ·
          intro w'
          go_simp
          with_reducible rfl
         rotate_left
         ·
          simp only [ap, sa, sb, sc, i64_w, i32_w]
          rfl
         refine pure_ (i := 16) (N := some 149) (v := ?_) (a' := ?_) #[T, T, T, T, T, T, T, T, T, T, T, T, T, T, T, T, T] rfl rfl (any_of HT_.out (by kernel_rfl)) (fun _ _ _ h => h) (Or.inl ⟨by rfl, ?_⟩) ?_ ?_
         rotate_left
         ·
          intro w'
          go_simp
          with_reducible rfl
         rotate_left
         ·
          simp only [ap, sa, sb, sc, i64_w, i32_w]
          rfl
         refine done_ (done_of HT_.out (by kernel_rfl)) ?_
         try go_wp2
         go_roundg k4
         case measure => have := HJ5.out; have := HK2.out; have := HJ30.out; have := HK4.out; omega
         case rel => exact ⟨(0), (false), (wrap64 (x17_4 + 1)), (by first | rfl | (simp; done) | (simp [*]; done)), (by first | rfl | (simp; done) | (simp [*]; done)), (by first | rfl | (simp; done) | (simp [*]; done)), H', ⟨by have := HJ5.out; have := HK2.out; have := HJ30.out; have := HK4.out; omega⟩, ⟨rr HO_9.out⟩, ⟨rr HO_11.out⟩, ⟨rr HO_13.out⟩, ⟨bl⟩⟩
        replace c54 := Bool.eq_false_iff.mpr c54
        subst c54
        rw [if_neg (show ¬ (false = true) by decide)] at H
        by_cases c64 : x17_4 < (t579.length : Int)
        rotate_left
        ·
         rw [if_neg c64] at H
         exact absurd H (by simp)
        rw [if_pos c64] at H
        have c64b0 : decide (x17_4 < (t579.length : Int)) = true := decide_eq_true c64
        clear c64
        by_cases c65 : x16_4 = true
        ·
         subst c65
         rw [if_pos rfl] at H
         by_cases c66 : x17_4 < (t572.length : Int)
         rotate_left
         ·
          rw [if_neg c66] at H
          exact absurd H (by simp)
         rw [if_pos c66] at H
         have c66b0 : decide (x17_4 < (t572.length : Int)) = true := decide_eq_true c66
         clear c66
         by_cases c67 : (!(((rd_T32 t572 x17_4).f0) == 1) || (!(((rd_T32 t572 x17_4).f1) == (wrap64 (1000 * (wrap64 (x15_4 + ((rd_T32 t579 x17_4).f1)))))))) = true
         ·
          rw [if_pos c67] at H
          have c67b0 : (!(((rd_T32 t572 x17_4).f0) == 1) || (!(((rd_T32 t572 x17_4).f1) == (wrap64 (1000 * (wrap64 (x15_4 + ((rd_T32 t579 x17_4).f1)))))))) = true := c67
          clear c67
          exact absurd H (by simp)
         rw [if_neg c67] at H
         have c67b0 : (!(((rd_T32 t572 x17_4).f0) == 1) || (!(((rd_T32 t572 x17_4).f1) == (wrap64 (1000 * (wrap64 (x15_4 + ((rd_T32 t579 x17_4).f1)))))))) = false := by simpa using c67
         clear c67
         by_cases c68 : x17_4 < (t583.length : Int)
         rotate_left
         ·
          rw [if_neg c68] at H
          exact absurd H (by simp)
         rw [if_pos c68] at H
         have c68b0 : decide (x17_4 < (t583.length : Int)) = true := decide_eq_true c68
         clear c68
         replace H := Option.bind_eq_some_iff.mp H
         obtain ⟨⟨t595, t596⟩, A690, H⟩ := H
         (try dsimp only at H)
         have A69 := Aside0.mk A690
         clear A690
         by_cases c70 : (!(((rd_T32 t583 x17_4).f0) == t595) || (!(((rd_T32 t583 x17_4).f1) == t596))) = true
         ·
          rw [if_pos c70] at H
          exact absurd H (by simp)
         rw [if_neg c70] at H
         have c70b0 : (!(((rd_T32 t583 x17_4).f0) == t595) || (!(((rd_T32 t583 x17_4).f1) == t596))) = false := by simpa using c70
         clear c70
         have H' := Aside0.mk H
         clear H
         have p587 : 0 ≤ (x17_4 : Int) := ode
         have q587 : x17_4 < (l1.length : Int) := ode
         obtain ⟨ad587, e587, hx587_0⟩ := Kd.at_bool HR1.out x17_4 p587 q587
         (try rw [← Nbq53.out] at hx587_0)
         cases e587
         replace hx587_0 := (HB.out.cell (World.block_lt_of_cell? w _ hx587_0)).trans hx587_0
         replace p587 := eq_true p587
         replace q587 := eq_true q587
         obtain ⟨Ao71, co71, eo71⟩ := Kd.R_slice HO_11.out
         subst eo71
         have p592 : 0 ≤ (x17_4 : Int) := ode
         have q592 : x17_4 < (t579.length : Int) := ode
         obtain ⟨ad592, e592, hx592_0, hx592_1⟩ := at_T32 (Kd.R_reads' HO_11.out).2.2 x17_4 p592 q592
         cases e592
         replace p592 := eq_true p592
         replace q592 := eq_true q592
         try go_wp2
         have n0_ := Aside0.mk (Kd.R_drew HO_9.out)
         have n1_ := Aside0.mk (Kd.R_drew HO_11.out)
         have n2_ := Aside0.mk (Kd.R_drew HO_13.out)
         have n3_ := Aside0.mk (below_drew1 HB.out)
         revert n0_ n1_ n2_ n3_; clear HO_9 HO_11 HO_13 HB; intro HO_9 HO_11 HO_13 HB
         obtain ⟨Ao73, co73, eo73⟩ := Kd.R_slice HO_9.out
         (first | subst eo73 | (injection eo73 with f1_ f2_ f3_; have f4_ := f1_.symm; have f5_ := f3_.symm; clear f1_ f2_ f3_; subst f4_; subst f5_))
         have p593 : 0 ≤ (x17_4 : Int) := ode
         have q593 : x17_4 < (t572.length : Int) := ode
         obtain ⟨ad593, e593, hx593_0, hx593_1⟩ := at_T32 (Kd.R_reads' HO_9.out).2.2 x17_4 p593 q593
         cases e593
         replace p593 := eq_true p593
         replace q593 := eq_true q593
         obtain ⟨Ao74, co74, eo74⟩ := Kd.R_slice HO_13.out
         (first | subst eo74 | (injection eo74 with f1_ f2_ f3_; have f4_ := f1_.symm; have f5_ := f3_.symm; clear f1_ f2_ f3_; subst f4_; subst f5_))
         have p594 : 0 ≤ (x17_4 : Int) := ode
         have q594 : x17_4 < (t583.length : Int) := ode
         obtain ⟨ad594, e594, hx594_0, hx594_1⟩ := at_T32 (Kd.R_reads' HO_13.out).2.2 x17_4 p594 q594
         cases e594
         replace p594 := eq_true p594
         replace q594 := eq_true q594
         refine start_ (n := 17) (S := fun w' => w'.cell? (ad593.add ((x17_4).toNat * 2)) = some (.int .i64 ((rd_T32 t572 x17_4).f0)) ∧ w'.cell? ⟨(ad593.add ((x17_4).toNat * 2)).block, (ad593.add ((x17_4).toNat * 2)).off + 1, none⟩ = some (.int .i64 ((rd_T32 t572 x17_4).f1)) ∧ w'.cell? (ad594.add ((x17_4).toNat * 2)) = some (.int .i64 ((rd_T32 t583 x17_4).f0)) ∧ w'.cell? ⟨(ad594.add ((x17_4).toNat * 2)).block, (ad594.add ((x17_4).toNat * 2)).off + 1, none⟩ = some (.int .i64 ((rd_T32 t583 x17_4).f1))) (ds := []) #[F, F, F, F, F, F, F, F, F, F, F, F, F, F, F, F, F] (by kernel_rfl) rfl rfl ⟨hx593_0, hx593_1, hx594_0, hx594_1⟩ (fun hHeld => ?_); refine with_tabW plenumlaw19_TimerCounts.tab23 plenumlaw19_TimerCounts.bits23 (fun HT_ HW_ => ?_)
         generalize wr.drew = w72 at HO_9 HO_11 HO_13 HB hx593_0 hx593_1 hx594_0 hx594_1 hHeld ⊢
         refine pure_ (i := 0) (N := some 133) (v := ?_) (a' := ?_) #[T, F, F, F, F, F, F, F, F, F, F, F, F, F, F, F, F] rfl rfl (any_of HT_.out (by kernel_rfl)) (fun _ _ _ h => h) (Or.inl ⟨by rfl, ?_⟩) ?_ ?_
         rotate_left
         ·
          intro w'
          go_simp
          with_reducible rfl
         rotate_left
         ·
          simp only [ap, sa, sb, sc, i64_w, i32_w]
          rfl
         refine pure_ (i := 1) (N := some 134) (v := ?_) (a' := ?_) #[T, T, F, F, F, F, F, F, F, F, F, F, F, F, F, F, F] rfl rfl (any_of HT_.out (by kernel_rfl)) (fun _ _ _ h => h) (Or.inl ⟨by rfl, ?_⟩) ?_ ?_
         rotate_left
         ·
          intro w'
          go_simp
          with_reducible rfl
         rotate_left
         ·
          simp only [ap, sa, sb, sc, i64_w, i32_w]
          rfl
         refine pure_ (i := 2) (N := some 135) (v := ?_) (a' := ?_) #[T, T, T, F, F, F, F, F, F, F, F, F, F, F, F, F, F] rfl rfl (any_of HT_.out (by kernel_rfl)) (fun _ _ _ h => h) (Or.inl ⟨by rfl, ?_⟩) ?_ ?_
         rotate_left
         ·
          intro w'
          go_simp
          with_reducible rfl
         rotate_left
         ·
          simp only [ap, sa, sb, sc, i64_w, i32_w]
          rfl
         refine pure_ (i := 4) (N := some 137) (v := ?_) (a' := ?_) #[T, T, T, F, T, F, F, F, F, F, F, F, F, F, F, F, F] rfl rfl (any_of HT_.out (by kernel_rfl)) (fun _ _ _ h => h) (Or.inl ⟨by rfl, ?_⟩) ?_ ?_
         rotate_left
         ·
          intro w'
          go_simp
          with_reducible rfl
         rotate_left
         ·
          simp only [ap, sa, sb, sc, i64_w, i32_w]
          rfl
         refine pure_ (i := 5) (N := some 138) (v := ?_) (a' := ?_) #[T, T, T, F, T, T, F, F, F, F, F, F, F, F, F, F, F] rfl rfl (any_of HT_.out (by kernel_rfl)) (fun _ _ _ h => h) (Or.inl ⟨by rfl, ?_⟩) ?_ ?_
         rotate_left
         ·
          intro w'
          go_simp
          with_reducible rfl
         rotate_left
         ·
          simp only [ap, sa, sb, sc, i64_w, i32_w]
          rfl
         refine pure_ (i := 6) (N := some 139) (v := ?_) (a' := ?_) #[T, T, T, F, T, T, T, F, F, F, F, F, F, F, F, F, F] rfl rfl (any_of HT_.out (by kernel_rfl)) (fun _ _ _ h => h) (Or.inl ⟨by rfl, ?_⟩) ?_ ?_
         rotate_left
         ·
          intro w'
          go_simp
          with_reducible rfl
         rotate_left
         ·
          simp only [ap, sa, sb, sc, i64_w, i32_w]
          rfl
         refine take_ (i := 3) (N := some 136) (v := ?_) (a' := ?_) #[T, T, T, T, T, T, T, F, F, F, F, F, F, F, F, F, F] rfl rfl (take_ofW HT_.out HW_.out (by kernel_rfl)) (fun _ _ _ h => h) (Or.inl ⟨by rfl, ?_⟩) hHeld ?_ ?_
         rotate_left
         ·
          rintro w' ⟨s0, s1, s2, s3⟩
          go_simp
          with_reducible rfl
         rotate_left
         ·
          simp only [ap, sa, sb, sc, i64_w, i32_w]
          rfl
         refine pure_ (i := 7) (N := some 140) (v := ?_) (a' := ?_) #[T, T, T, T, T, T, T, T, F, F, F, F, F, F, F, F, F] rfl rfl (any_of HT_.out (by kernel_rfl)) (fun _ _ _ h => h) (Or.inl ⟨by rfl, ?_⟩) ?_ ?_
         rotate_left
         ·
          intro w'
          go_simp
          with_reducible rfl
         rotate_left
         ·
          simp only [ap, sa, sb, sc, i64_w, i32_w]
          rfl
         refine pure_ (i := 8) (N := some 141) (v := ?_) (a' := ?_) #[T, T, T, T, T, T, T, T, T, F, F, F, F, F, F, F, F] rfl rfl (any_of HT_.out (by kernel_rfl)) (fun _ _ _ h => h) (Or.inl ⟨by rfl, ?_⟩) ?_ ?_
         rotate_left
         ·
          intro w'
          go_simp
          with_reducible rfl
         rotate_left
         ·
          simp only [ap, sa, sb, sc, i64_w, i32_w]
          rfl
         refine pure_ (i := 9) (N := some 142) (v := ?_) (a' := ?_) #[T, T, T, T, T, T, T, T, T, T, F, F, F, F, F, F, F] rfl rfl (any_of HT_.out (by kernel_rfl)) (fun _ _ _ h => h) (Or.inl ⟨by rfl, ?_⟩) ?_ ?_
         rotate_left
         ·
          intro w'
          go_simp
          with_reducible rfl
         rotate_left
         ·
          simp only [ap, sa, sb, sc, i64_w, i32_w]
          rfl
         refine pure_ (i := 10) (N := some 143) (v := ?_) (a' := ?_) #[T, T, T, T, T, T, T, T, T, T, T, F, F, F, F, F, F] rfl rfl (any_of HT_.out (by kernel_rfl)) (fun _ _ _ h => h) (Or.inl ⟨by rfl, ?_⟩) ?_ ?_
         rotate_left
         ·
          intro w'
          go_simp
          with_reducible rfl
         rotate_left
         ·
          simp only [ap, sa, sb, sc, i64_w, i32_w]
          rfl
         refine pure_ (i := 11) (N := some 144) (v := ?_) (a' := ?_) #[T, T, T, T, T, T, T, T, T, T, T, T, F, F, F, F, F] rfl rfl (any_of HT_.out (by kernel_rfl)) (fun _ _ _ h => h) (Or.inl ⟨by rfl, ?_⟩) ?_ ?_
         rotate_left
         ·
          intro w'
          go_simp
          with_reducible rfl
         rotate_left
         ·
          simp only [ap, sa, sb, sc, i64_w, i32_w]
          rfl
         refine pure_ (i := 13) (N := some 146) (v := ?_) (a' := ?_) #[T, T, T, T, T, T, T, T, T, T, T, T, F, T, F, F, F] rfl rfl (any_of HT_.out (by kernel_rfl)) (fun _ _ _ h => h) (Or.inl ⟨by rfl, ?_⟩) ?_ ?_
         rotate_left
         ·
          intro w'
          go_simp
          with_reducible rfl
         rotate_left
         ·
          simp only [ap, sa, sb, sc, i64_w, i32_w]
          rfl
         refine take_ (i := 12) (N := some 145) (v := ?_) (a' := ?_) #[T, T, T, T, T, T, T, T, T, T, T, T, T, T, F, F, F] rfl rfl (take_ofW HT_.out HW_.out (by kernel_rfl)) (fun _ _ _ h => h) (Or.inl ⟨by rfl, ?_⟩) hHeld ?_ ?_
         rotate_left
         ·
          rintro w' ⟨s0, s1, s2, s3⟩
          go_simp
          with_reducible rfl
         rotate_left
         ·
          simp only [ap, sa, sb, sc, i64_w, i32_w]
          rfl
         refine one_ (i := 14) (N := some 147) #[T, T, T, T, T, T, T, T, T, T, T, T, T, T, T, F, F] rfl rfl (one_of HT_.out (by kernel_rfl)) (by decide) (fun K hK => ?_)
         refine goes_ Tryd.func11 (by kernel_rfl) rfl #[.bool true] (by rfl) rfl rfl aeq ?_
         with_reducible refine (plenumlaw19_bit.calls true t595 t596 _ A69.out).mono ?_
         rintro e w75 ⟨rfl, hb⟩
         have HS0_ := (hb.cell (World.block_lt_of_cell? _ _ (hHeld.1))).trans (hHeld.1)
         have HS1_ := (hb.cell (World.block_lt_of_cell? _ _ (hHeld.2.1))).trans (hHeld.2.1)
         have HS2_ := (hb.cell (World.block_lt_of_cell? _ _ (hHeld.2.2.1))).trans (hHeld.2.2.1)
         have HS3_ := (hb.cell (World.block_lt_of_cell? _ _ (hHeld.2.2.2))).trans (hHeld.2.2.2)
         refine ⟨_, rfl, ?_⟩
         have n0_ := Aside0.mk (Kd.R_below (rr HO_9.out) hb)
         have n1_ := Aside0.mk (Kd.R_below (rr HO_11.out) hb)
         have n2_ := Aside0.mk (Kd.R_below (rr HO_13.out) hb)
         have n3_ := Aside0.mk (below_step bl hb)
         revert n0_ n1_ n2_ n3_; clear HO_9 HO_11 HO_13 HB; intro HO_9 HO_11 HO_13 HB
         (try clear hb)
         (try clear hb2)
         (try clear hk)
         (try clear hi)
         refine hK.out _ _ ⟨HS0_, HS1_, HS2_, HS3_⟩ (fun hHeld => ?_)
         clear hK K
         refine norm_ (a' := ?_) ?_ ?_
         rotate_left
         ·
          show Act.put _ (some 147) _ = _
          simp only [ap, sa, sb, sc, i64_w, i32_w]
          rfl
         refine pure_ (i := 15) (N := some 148) (v := ?_) (a' := ?_) #[T, T, T, T, T, T, T, T, T, T, T, T, T, T, T, T, F] rfl rfl (any_of HT_.out (by kernel_rfl)) (fun _ _ _ h => h) (Or.inl ⟨by rfl, ?_⟩) ?_ ?_
         rotate_left
         ·
          intro w'
          go_simp
          with_reducible rfl
         rotate_left
         ·
          simp only [ap, sa, sb, sc, i64_w, i32_w]
          rfl
         refine pure_ (i := 16) (N := some 149) (v := ?_) (a' := ?_) #[T, T, T, T, T, T, T, T, T, T, T, T, T, T, T, T, T] rfl rfl (any_of HT_.out (by kernel_rfl)) (fun _ _ _ h => h) (Or.inl ⟨by rfl, ?_⟩) ?_ ?_
         rotate_left
         ·
          intro w'
          go_simp
          with_reducible rfl
         rotate_left
         ·
          simp only [ap, sa, sb, sc, i64_w, i32_w]
          rfl
         refine done_ (done_of HT_.out (by kernel_rfl)) ?_
         try go_wp2
         go_roundg k4
         case measure => have := HJ5.out; have := HK2.out; have := HJ30.out; have := HK4.out; omega
         case rel => exact ⟨(wrap64 (x15_4 + ((rd_T32 t579 x17_4).f1))), (true), (wrap64 (x17_4 + 1)), (by first | rfl | (simp; done) | (simp [*]; done)), (by first | rfl | (simp; done) | (simp [*]; done)), (by first | rfl | (simp; done) | (simp [*]; done)), H', ⟨by have := HJ5.out; have := HK2.out; have := HJ30.out; have := HK4.out; omega⟩, ⟨rr HO_9.out⟩, ⟨rr HO_11.out⟩, ⟨rr HO_13.out⟩, ⟨bl⟩⟩
        replace c65 := Bool.eq_false_iff.mpr c65
        subst c65
        rw [if_neg (show ¬ (false = true) by decide)] at H
        by_cases c76 : x17_4 < (t572.length : Int)
        rotate_left
        ·
         rw [if_neg c76] at H
         exact absurd H (by simp)
        rw [if_pos c76] at H
        have c76b0 : decide (x17_4 < (t572.length : Int)) = true := decide_eq_true c76
        clear c76
        by_cases c77 : (!(((rd_T32 t572 x17_4).f0) == 1) || (!(((rd_T32 t572 x17_4).f1) == (wrap64 (1000 * (wrap64 (x15_4 + ((rd_T32 t579 x17_4).f1)))))))) = true
        ·
         rw [if_pos c77] at H
         have c77b0 : (!(((rd_T32 t572 x17_4).f0) == 1) || (!(((rd_T32 t572 x17_4).f1) == (wrap64 (1000 * (wrap64 (x15_4 + ((rd_T32 t579 x17_4).f1)))))))) = true := c77
         clear c77
         exact absurd H (by simp)
        rw [if_neg c77] at H
        have c77b0 : (!(((rd_T32 t572 x17_4).f0) == 1) || (!(((rd_T32 t572 x17_4).f1) == (wrap64 (1000 * (wrap64 (x15_4 + ((rd_T32 t579 x17_4).f1)))))))) = false := by simpa using c77
        clear c77
        by_cases c78 : x17_4 < (t583.length : Int)
        rotate_left
        ·
         rw [if_neg c78] at H
         exact absurd H (by simp)
        rw [if_pos c78] at H
        have c78b0 : decide (x17_4 < (t583.length : Int)) = true := decide_eq_true c78
        clear c78
        replace H := Option.bind_eq_some_iff.mp H
        obtain ⟨⟨t600, t601⟩, A790, H⟩ := H
        (try dsimp only at H)
        have A79 := Aside0.mk A790
        clear A790
        by_cases c80 : (!(((rd_T32 t583 x17_4).f0) == t600) || (!(((rd_T32 t583 x17_4).f1) == t601))) = true
        ·
         rw [if_pos c80] at H
         exact absurd H (by simp)
        rw [if_neg c80] at H
        have c80b0 : (!(((rd_T32 t583 x17_4).f0) == t600) || (!(((rd_T32 t583 x17_4).f1) == t601))) = false := by simpa using c80
        clear c80
        have H' := Aside0.mk H
        clear H
        have p587 : 0 ≤ (x17_4 : Int) := ode
        have q587 : x17_4 < (l1.length : Int) := ode
        obtain ⟨ad587, e587, hx587_0⟩ := Kd.at_bool HR1.out x17_4 p587 q587
        (try rw [← Nbq53.out] at hx587_0)
        cases e587
        replace hx587_0 := (HB.out.cell (World.block_lt_of_cell? w _ hx587_0)).trans hx587_0
        replace p587 := eq_true p587
        replace q587 := eq_true q587
        obtain ⟨Ao81, co81, eo81⟩ := Kd.R_slice HO_11.out
        subst eo81
        have p592 : 0 ≤ (x17_4 : Int) := ode
        have q592 : x17_4 < (t579.length : Int) := ode
        obtain ⟨ad592, e592, hx592_0, hx592_1⟩ := at_T32 (Kd.R_reads' HO_11.out).2.2 x17_4 p592 q592
        cases e592
        replace p592 := eq_true p592
        replace q592 := eq_true q592
        have p597 : 0 ≤ (x17_4 : Int) := ode
        have q597 : x17_4 < (l0.length : Int) := ode
        obtain ⟨ad597, e597, hx597_0⟩ := Kd.at_bool HR0.out x17_4 p597 q597
        (try rw [← Nbq53.out] at hx597_0)
        cases e597
        replace hx597_0 := (HB.out.cell (World.block_lt_of_cell? w _ hx597_0)).trans hx597_0
        replace p597 := eq_true p597
        replace q597 := eq_true q597
        try go_wp2
        have n0_ := Aside0.mk (Kd.R_drew HO_9.out)
        have n1_ := Aside0.mk (Kd.R_drew HO_11.out)
        have n2_ := Aside0.mk (Kd.R_drew HO_13.out)
        have n3_ := Aside0.mk (below_drew1 HB.out)
        revert n0_ n1_ n2_ n3_; clear HO_9 HO_11 HO_13 HB; intro HO_9 HO_11 HO_13 HB
        obtain ⟨Ao83, co83, eo83⟩ := Kd.R_slice HO_9.out
        (first | subst eo83 | (injection eo83 with f1_ f2_ f3_; have f4_ := f1_.symm; have f5_ := f3_.symm; clear f1_ f2_ f3_; subst f4_; subst f5_))
        have p598 : 0 ≤ (x17_4 : Int) := ode
        have q598 : x17_4 < (t572.length : Int) := ode
        obtain ⟨ad598, e598, hx598_0, hx598_1⟩ := at_T32 (Kd.R_reads' HO_9.out).2.2 x17_4 p598 q598
        cases e598
        replace p598 := eq_true p598
        replace q598 := eq_true q598
        obtain ⟨Ao84, co84, eo84⟩ := Kd.R_slice HO_13.out
        (first | subst eo84 | (injection eo84 with f1_ f2_ f3_; have f4_ := f1_.symm; have f5_ := f3_.symm; clear f1_ f2_ f3_; subst f4_; subst f5_))
        have p599 : 0 ≤ (x17_4 : Int) := ode
        have q599 : x17_4 < (t583.length : Int) := ode
        obtain ⟨ad599, e599, hx599_0, hx599_1⟩ := at_T32 (Kd.R_reads' HO_13.out).2.2 x17_4 p599 q599
        cases e599
        replace p599 := eq_true p599
        replace q599 := eq_true q599
        refine start_ (n := 17) (S := fun w' => w'.cell? (ad598.add ((x17_4).toNat * 2)) = some (.int .i64 ((rd_T32 t572 x17_4).f0)) ∧ w'.cell? ⟨(ad598.add ((x17_4).toNat * 2)).block, (ad598.add ((x17_4).toNat * 2)).off + 1, none⟩ = some (.int .i64 ((rd_T32 t572 x17_4).f1)) ∧ w'.cell? (ad599.add ((x17_4).toNat * 2)) = some (.int .i64 ((rd_T32 t583 x17_4).f0)) ∧ w'.cell? ⟨(ad599.add ((x17_4).toNat * 2)).block, (ad599.add ((x17_4).toNat * 2)).off + 1, none⟩ = some (.int .i64 ((rd_T32 t583 x17_4).f1))) (ds := []) #[F, F, F, F, F, F, F, F, F, F, F, F, F, F, F, F, F] (by kernel_rfl) rfl rfl ⟨hx598_0, hx598_1, hx599_0, hx599_1⟩ (fun hHeld => ?_); refine with_tabW plenumlaw19_TimerCounts.tab23 plenumlaw19_TimerCounts.bits23 (fun HT_ HW_ => ?_)
        generalize wr.drew = w82 at HO_9 HO_11 HO_13 HB hx598_0 hx598_1 hx599_0 hx599_1 hHeld ⊢
        refine pure_ (i := 0) (N := some 133) (v := ?_) (a' := ?_) #[T, F, F, F, F, F, F, F, F, F, F, F, F, F, F, F, F] rfl rfl (any_of HT_.out (by kernel_rfl)) (fun _ _ _ h => h) (Or.inl ⟨by rfl, ?_⟩) ?_ ?_
        rotate_left
        ·
         intro w'
         go_simp
         with_reducible rfl
        rotate_left
        ·
         simp only [ap, sa, sb, sc, i64_w, i32_w]
         rfl
        refine pure_ (i := 1) (N := some 134) (v := ?_) (a' := ?_) #[T, T, F, F, F, F, F, F, F, F, F, F, F, F, F, F, F] rfl rfl (any_of HT_.out (by kernel_rfl)) (fun _ _ _ h => h) (Or.inl ⟨by rfl, ?_⟩) ?_ ?_
        rotate_left
        ·
         intro w'
         go_simp
         with_reducible rfl
        rotate_left
        ·
         simp only [ap, sa, sb, sc, i64_w, i32_w]
         rfl
        refine pure_ (i := 2) (N := some 135) (v := ?_) (a' := ?_) #[T, T, T, F, F, F, F, F, F, F, F, F, F, F, F, F, F] rfl rfl (any_of HT_.out (by kernel_rfl)) (fun _ _ _ h => h) (Or.inl ⟨by rfl, ?_⟩) ?_ ?_
        rotate_left
        ·
         intro w'
         go_simp
         with_reducible rfl
        rotate_left
        ·
         simp only [ap, sa, sb, sc, i64_w, i32_w]
         rfl
        refine pure_ (i := 4) (N := some 137) (v := ?_) (a' := ?_) #[T, T, T, F, T, F, F, F, F, F, F, F, F, F, F, F, F] rfl rfl (any_of HT_.out (by kernel_rfl)) (fun _ _ _ h => h) (Or.inl ⟨by rfl, ?_⟩) ?_ ?_
        rotate_left
        ·
         intro w'
         go_simp
         with_reducible rfl
        rotate_left
        ·
         simp only [ap, sa, sb, sc, i64_w, i32_w]
         rfl
        refine pure_ (i := 5) (N := some 138) (v := ?_) (a' := ?_) #[T, T, T, F, T, T, F, F, F, F, F, F, F, F, F, F, F] rfl rfl (any_of HT_.out (by kernel_rfl)) (fun _ _ _ h => h) (Or.inl ⟨by rfl, ?_⟩) ?_ ?_
        rotate_left
        ·
         intro w'
         go_simp
         with_reducible rfl
        rotate_left
        ·
         simp only [ap, sa, sb, sc, i64_w, i32_w]
         rfl
        refine pure_ (i := 6) (N := some 139) (v := ?_) (a' := ?_) #[T, T, T, F, T, T, T, F, F, F, F, F, F, F, F, F, F] rfl rfl (any_of HT_.out (by kernel_rfl)) (fun _ _ _ h => h) (Or.inl ⟨by rfl, ?_⟩) ?_ ?_
        rotate_left
        ·
         intro w'
         go_simp
         with_reducible rfl
        rotate_left
        ·
         simp only [ap, sa, sb, sc, i64_w, i32_w]
         rfl
        refine take_ (i := 3) (N := some 136) (v := ?_) (a' := ?_) #[T, T, T, T, T, T, T, F, F, F, F, F, F, F, F, F, F] rfl rfl (take_ofW HT_.out HW_.out (by kernel_rfl)) (fun _ _ _ h => h) (Or.inl ⟨by rfl, ?_⟩) hHeld ?_ ?_
        rotate_left
        ·
         rintro w' ⟨s0, s1, s2, s3⟩
         go_simp
         with_reducible rfl
        rotate_left
        ·
         simp only [ap, sa, sb, sc, i64_w, i32_w]
         rfl
        refine pure_ (i := 7) (N := some 140) (v := ?_) (a' := ?_) #[T, T, T, T, T, T, T, T, F, F, F, F, F, F, F, F, F] rfl rfl (any_of HT_.out (by kernel_rfl)) (fun _ _ _ h => h) (Or.inl ⟨by rfl, ?_⟩) ?_ ?_
        rotate_left
        ·
         intro w'
         go_simp
         with_reducible rfl
        rotate_left
        ·
         simp only [ap, sa, sb, sc, i64_w, i32_w]
         rfl
        refine pure_ (i := 8) (N := some 141) (v := ?_) (a' := ?_) #[T, T, T, T, T, T, T, T, T, F, F, F, F, F, F, F, F] rfl rfl (any_of HT_.out (by kernel_rfl)) (fun _ _ _ h => h) (Or.inl ⟨by rfl, ?_⟩) ?_ ?_
        rotate_left
        ·
         intro w'
         go_simp
         with_reducible rfl
        rotate_left
        ·
         simp only [ap, sa, sb, sc, i64_w, i32_w]
         rfl
        refine pure_ (i := 9) (N := some 142) (v := ?_) (a' := ?_) #[T, T, T, T, T, T, T, T, T, T, F, F, F, F, F, F, F] rfl rfl (any_of HT_.out (by kernel_rfl)) (fun _ _ _ h => h) (Or.inl ⟨by rfl, ?_⟩) ?_ ?_
        rotate_left
        ·
         intro w'
         go_simp
         with_reducible rfl
        rotate_left
        ·
         simp only [ap, sa, sb, sc, i64_w, i32_w]
         rfl
        refine pure_ (i := 10) (N := some 143) (v := ?_) (a' := ?_) #[T, T, T, T, T, T, T, T, T, T, T, F, F, F, F, F, F] rfl rfl (any_of HT_.out (by kernel_rfl)) (fun _ _ _ h => h) (Or.inl ⟨by rfl, ?_⟩) ?_ ?_
        rotate_left
        ·
         intro w'
         go_simp
         with_reducible rfl
        rotate_left
        ·
         simp only [ap, sa, sb, sc, i64_w, i32_w]
         rfl
        refine pure_ (i := 11) (N := some 144) (v := ?_) (a' := ?_) #[T, T, T, T, T, T, T, T, T, T, T, T, F, F, F, F, F] rfl rfl (any_of HT_.out (by kernel_rfl)) (fun _ _ _ h => h) (Or.inl ⟨by rfl, ?_⟩) ?_ ?_
        rotate_left
        ·
         intro w'
         go_simp
         with_reducible rfl
        rotate_left
        ·
         simp only [ap, sa, sb, sc, i64_w, i32_w]
         rfl
        refine pure_ (i := 13) (N := some 146) (v := ?_) (a' := ?_) #[T, T, T, T, T, T, T, T, T, T, T, T, F, T, F, F, F] rfl rfl (any_of HT_.out (by kernel_rfl)) (fun _ _ _ h => h) (Or.inl ⟨by rfl, ?_⟩) ?_ ?_
        rotate_left
        ·
         intro w'
         go_simp
         with_reducible rfl
        rotate_left
        ·
         simp only [ap, sa, sb, sc, i64_w, i32_w]
         rfl
        refine take_ (i := 12) (N := some 145) (v := ?_) (a' := ?_) #[T, T, T, T, T, T, T, T, T, T, T, T, T, T, F, F, F] rfl rfl (take_ofW HT_.out HW_.out (by kernel_rfl)) (fun _ _ _ h => h) (Or.inl ⟨by rfl, ?_⟩) hHeld ?_ ?_
        rotate_left
        ·
         rintro w' ⟨s0, s1, s2, s3⟩
         go_simp
         with_reducible rfl
        rotate_left
        ·
         simp only [ap, sa, sb, sc, i64_w, i32_w]
         rfl
        refine one_ (i := 14) (N := some 147) #[T, T, T, T, T, T, T, T, T, T, T, T, T, T, T, F, F] rfl rfl (one_of HT_.out (by kernel_rfl)) (by decide) (fun K hK => ?_)
        refine goes_ Tryd.func11 (by kernel_rfl) rfl #[.bool (rdOf false l0 x17_4)] (by rfl) rfl rfl aeq ?_
        with_reducible refine (plenumlaw19_bit.calls (rdOf false l0 x17_4) t600 t601 _ A79.out).mono ?_
        rintro e w85 ⟨rfl, hb⟩
        have HS0_ := (hb.cell (World.block_lt_of_cell? _ _ (hHeld.1))).trans (hHeld.1)
        have HS1_ := (hb.cell (World.block_lt_of_cell? _ _ (hHeld.2.1))).trans (hHeld.2.1)
        have HS2_ := (hb.cell (World.block_lt_of_cell? _ _ (hHeld.2.2.1))).trans (hHeld.2.2.1)
        have HS3_ := (hb.cell (World.block_lt_of_cell? _ _ (hHeld.2.2.2))).trans (hHeld.2.2.2)
        refine ⟨_, rfl, ?_⟩
        have n0_ := Aside0.mk (Kd.R_below (rr HO_9.out) hb)
        have n1_ := Aside0.mk (Kd.R_below (rr HO_11.out) hb)
        have n2_ := Aside0.mk (Kd.R_below (rr HO_13.out) hb)
        have n3_ := Aside0.mk (below_step bl hb)
        revert n0_ n1_ n2_ n3_; clear HO_9 HO_11 HO_13 HB; intro HO_9 HO_11 HO_13 HB
        (try clear hb)
        (try clear hb2)
        (try clear hk)
        (try clear hi)
        refine hK.out _ _ ⟨HS0_, HS1_, HS2_, HS3_⟩ (fun hHeld => ?_)
        clear hK K
        refine norm_ (a' := ?_) ?_ ?_
        rotate_left
        ·
         show Act.put _ (some 147) _ = _
         simp only [ap, sa, sb, sc, i64_w, i32_w]
         rfl
        refine pure_ (i := 15) (N := some 148) (v := ?_) (a' := ?_) #[T, T, T, T, T, T, T, T, T, T, T, T, T, T, T, T, F] rfl rfl (any_of HT_.out (by kernel_rfl)) (fun _ _ _ h => h) (Or.inl ⟨by rfl, ?_⟩) ?_ ?_
        rotate_left
        ·
         intro w'
         go_simp
         with_reducible rfl
        rotate_left
        ·
         simp only [ap, sa, sb, sc, i64_w, i32_w]
         rfl
        refine pure_ (i := 16) (N := some 149) (v := ?_) (a' := ?_) #[T, T, T, T, T, T, T, T, T, T, T, T, T, T, T, T, T] rfl rfl (any_of HT_.out (by kernel_rfl)) (fun _ _ _ h => h) (Or.inl ⟨by rfl, ?_⟩) ?_ ?_
        rotate_left
        ·
         intro w'
         go_simp
         with_reducible rfl
        rotate_left
        ·
         simp only [ap, sa, sb, sc, i64_w, i32_w]
         rfl
        refine done_ (done_of HT_.out (by kernel_rfl)) ?_
        try go_wp2
        go_roundg k4
        case measure => have := HJ5.out; have := HK2.out; have := HJ30.out; have := HK4.out; omega
        case rel => exact ⟨(wrap64 (x15_4 + ((rd_T32 t579 x17_4).f1))), (rdOf false l0 x17_4), (wrap64 (x17_4 + 1)), (by first | rfl | (simp; done) | (simp [*]; done)), (by first | rfl | (simp; done) | (simp [*]; done)), (by first | rfl | (simp; done) | (simp [*]; done)), H', ⟨by have := HJ5.out; have := HK2.out; have := HJ30.out; have := HK4.out; omega⟩, ⟨rr HO_9.out⟩, ⟨rr HO_11.out⟩, ⟨rr HO_13.out⟩, ⟨bl⟩⟩
 ·
  replace c5 := Bool.eq_false_iff.mpr c5
  subst c5
  rw [if_neg (show ¬ (false = true) by decide)] at H
  exact absurd H (by simp)

end Go.Proofs.YtjjbdgngncgikaaDoor.R
