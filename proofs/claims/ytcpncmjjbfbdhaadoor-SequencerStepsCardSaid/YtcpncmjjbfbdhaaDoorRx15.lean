-- Written by this claim's own program out of the translation; not trusted: Lean checks it.
import Derived.Test.YtcpncmjjbfbdhaaDoorRx0
namespace Go.Proofs.YtcpncmjjbfbdhaaDoor.R
open Go.RowKit Go.Proofs.YtcpncmjjbfbdhaaDoorW.PrintWords Go.Proofs.YtcpncmjjbfbdhaaDoorW.PrintLast Go.Proofs.YtcpncmjjbfbdhaaDoorW.PrintMore
attribute [local go_sem] max2_int min2_int max_two min_two max_three min_three max_four min_four   -- for this text's walks alone
set_option linter.unusedVariables false
set_option linter.unusedSimpArgs false

/-! ### plenumref21_State: function 18 -/
def plenumref21_State.j0 : Nat → ByteArray → List Int → Bool → Option (Bool)
 | 0, _, _, _ => none
 | k + 1, x0, x2, x30 => if x30 = true then (some false) else (if x0.toList = ([115, 116, 97, 103, 101] : List UInt8) then (if 1 < (x2.length : Int) then (some (decide ((rd x2 1) ≥ (-6311433599)))) else (none)) else (if 1 < (x2.length : Int) then (some (decide ((rd x2 1) ≥ 0))) else (none)))
def plenumref21_State.f (k : Nat) (a0 : ByteArray) (l1 : List Int) (l2 : List Int) : Option (Bool) := if (l2.length : Int) = 2 then (if 0 < (l2.length : Int) then (if (rd l2 0) < 0 then (plenumref21_State.j0 k a0 l2 true) else (if 0 < (l1.length : Int) then (if (rd l2 0) > (rd l1 0) then (plenumref21_State.j0 k a0 l2 true) else (if 1 < (l2.length : Int) then (plenumref21_State.j0 k a0 l2 (decide ((rd l2 1) > 6311433599))) else (none))) else (none))) else (none)) else (plenumref21_State.j0 k a0 l2 true)
theorem plenumref21_State.mono_l : ∀ k, (∀ y0 y1 y2, LeO (plenumref21_State.j0 k y0 y1 y2) (plenumref21_State.j0 (k + 1) y0 y1 y2))
 | 0 => fun _ _ _ r h => by simp [plenumref21_State.j0] at h
 | k + 1 => by
  have ih0 := plenumref21_State.mono_l k
  ·
   intro y0 y1 y2
   unfold plenumref21_State.j0
   repeat' first
   | (with_reducible exact ih0 _ _ _)
   | (with_reducible exact LeO.refl _)
   | (with_reducible exact LeO.none _)
   | (with_reducible refine LeO.ite ?_ ?_)
   | (with_reducible refine LeO.bind ?_ (fun _ => ?_))
   | exact ih0 _ _ _
   | exact LeO.none _
   | refine LeO.ite ?_ ?_
   | refine LeO.bind ?_ (fun _ => ?_)
theorem plenumref21_State.mono : ∀ a0 a1 a2 k, LeO (plenumref21_State.f k a0 a1 a2) (plenumref21_State.f (k + 1) a0 a1 a2) := by
 intro a0 a1 a2 k
 have ih0 := plenumref21_State.mono_l k
 unfold plenumref21_State.f
 repeat' first
   | (with_reducible exact ih0 _ _ _)
   | (with_reducible exact LeO.refl _)
   | (with_reducible exact LeO.none _)
   | (with_reducible refine LeO.ite ?_ ?_)
   | (with_reducible refine LeO.bind ?_ (fun _ => ?_))
   | exact ih0 _ _ _
   | exact LeO.none _
   | refine LeO.ite ?_ ?_
   | refine LeO.bind ?_ (fun _ => ?_)
set_option maxHeartbeats 8000000 in
set_option maxRecDepth 100000 in
theorem plenumref21_State.calls (k : Nat) (a0 : ByteArray) (A1 : Option Addr) (c1 : Nat) (l1 : List Int) (A2 : Option Addr) (c2 : Nat) (l2 : List Int) (r : Bool) (w : World) (hr1 : Kd.C (Kd.int .i64) w A1 l1.length l1) (hc1 : l1.length ≤ c1) (hr2 : Kd.C (Kd.int .i64) w A2 l2.length l2) (hc2 : l2.length ≤ c2) (h : plenumref21_State.f k a0 l1 l2 = some r) :
  Calls Tryd.prog 18 #[.string a0, .slice A1 l1.length c1, .slice A2 l2.length c2] w fun e w' => e = .returned (.bool r) ∧ Drawn0 w w' := by
 have HR1 := Aside0.mk hr1
 have HC1 := Aside0.mk hc1
 clear hr1 hc1
 have HR2 := Aside0.mk hr2
 have HC2 := Aside0.mk hc2
 clear hr2 hc2
 have H : (if (l2.length : Int) = 2 then (if 0 < (l2.length : Int) then (if (rd l2 0) < 0 then (plenumref21_State.j0 k a0 l2 true) else (if 0 < (l1.length : Int) then (if (rd l2 0) > (rd l1 0) then (plenumref21_State.j0 k a0 l2 true) else (if 1 < (l2.length : Int) then (plenumref21_State.j0 k a0 l2 (decide ((rd l2 1) > 6311433599))) else (none))) else (none))) else (none)) else (plenumref21_State.j0 k a0 l2 true)) = some r := h
 clear h
 have HC4 := Aside0.mk H
 clear H
 go_enter Tryd.func18, Tryd.ntmps18
 go_upto_region 1 with (fail)
 repeat (go_quiet (fail); go_upto_region 1 with (fail))
 go_cut [30] (fun v30 wc => ∃ (kq : Nat) (x30_3 : Bool), v30 = .bool x30_3 ∧ Aside0 (plenumref21_State.j0 kq a0 l2 x30_3 = some r) ∧ Aside0 (kq ≤ k) ∧ Drawn0 w wc)
 case first =>
  have H := HC4.out
  clear HC4
  by_cases c5 : (l2.length : Int) = 2
  ·
   rw [if_pos c5] at H
   have c5b0 : ((l2.length : Int) == 2) = true := beq_iff_eq.mpr c5
   have c5b1 : ((l2.length : Int) != 2) = false := bne_eq_false_iff_eq.mpr c5
   clear c5
   (first | rw [c5b0] | (simp only [i64_w, i32_w]; rw [c5b0]) | skip)
   by_cases c6 : 0 < (l2.length : Int)
   ·
    rw [if_pos c6] at H
    have c6b0 : decide (0 < (l2.length : Int)) = true := decide_eq_true c6
    have c6b1 : decide (0 < l2.length) = true := decide_eq_true (by omega)
    clear c6
    by_cases c7 : (rd l2 0) < 0
    ·
     rw [if_pos c7] at H
     have c7b0 : decide ((rd l2 0) < 0) = true := decide_eq_true c7
     clear c7
     have H' := Aside0.mk H
     clear H
     have p576 : 0 ≤ (0 : Int) := (by omega)
     have q576 : 0 < (l2.length : Int) := ode
     obtain ⟨ad576, e576, hx576_0⟩ := Kd.at_int HR2.out 0 p576 q576
     cases e576
     have qi576 : (0 < l2.length) = True := eq_true (by omega)
     (try rw [show ((0 : Int)).toNat = 0 from rfl] at hx576_0)
     (try rw [Addr.add_zero'] at hx576_0)
     replace p576 := eq_true p576
     replace q576 := eq_true q576
     go_wp2
     repeat (go_quiet (fail); try go_wp2)
     go_meet
     case rel => exact ⟨_, (true), (by first | rfl | (simp; done) | (simp [*]; done)), H', ⟨by first | omega | exact Nat.le_refl _⟩, by repeat (first | exact Drawn0.refl _ | apply Drawn0.step)⟩
    ·
     rw [if_neg c7] at H
     have c7b0 : decide ((rd l2 0) < 0) = false := decide_eq_false c7
     clear c7
     by_cases c8 : 0 < (l1.length : Int)
     ·
      rw [if_pos c8] at H
      have c8b0 : decide (0 < (l1.length : Int)) = true := decide_eq_true c8
      have c8b1 : decide (0 < l1.length) = true := decide_eq_true (by omega)
      clear c8
      by_cases c9 : (rd l2 0) > (rd l1 0)
      ·
       rw [if_pos c9] at H
       have c9b0 : decide ((rd l1 0) < (rd l2 0)) = true := decide_eq_true c9
       clear c9
       have H' := Aside0.mk H
       clear H
       have p576 : 0 ≤ (0 : Int) := (by omega)
       have q576 : 0 < (l2.length : Int) := ode
       obtain ⟨ad576, e576, hx576_0⟩ := Kd.at_int HR2.out 0 p576 q576
       cases e576
       have qi576 : (0 < l2.length) = True := eq_true (by omega)
       (try rw [show ((0 : Int)).toNat = 0 from rfl] at hx576_0)
       (try rw [Addr.add_zero'] at hx576_0)
       replace p576 := eq_true p576
       replace q576 := eq_true q576
       have p577 : 0 ≤ (0 : Int) := (by omega)
       have q577 : 0 < (l2.length : Int) := ode
       obtain ⟨ad577, e577, hx577_0⟩ := Kd.at_int HR2.out 0 p577 q577
       obtain rfl : ad576 = ad577 := (by injection e577)
       have qi577 : (0 < l2.length) = True := eq_true (by omega)
       (try rw [show ((0 : Int)).toNat = 0 from rfl] at hx577_0)
       (try rw [Addr.add_zero'] at hx577_0)
       replace p577 := eq_true p577
       replace q577 := eq_true q577
       have p578 : 0 ≤ (0 : Int) := (by omega)
       have q578 : 0 < (l1.length : Int) := ode
       obtain ⟨ad578, e578, hx578_0⟩ := Kd.at_int HR1.out 0 p578 q578
       cases e578
       have qi578 : (0 < l1.length) = True := eq_true (by omega)
       (try rw [show ((0 : Int)).toNat = 0 from rfl] at hx578_0)
       (try rw [Addr.add_zero'] at hx578_0)
       replace p578 := eq_true p578
       replace q578 := eq_true q578
       go_wp2
       repeat (go_quiet (fail); try go_wp2)
       go_meet
       case rel => exact ⟨_, (true), (by first | rfl | (simp; done) | (simp [*]; done)), H', ⟨by first | omega | exact Nat.le_refl _⟩, by repeat (first | exact Drawn0.refl _ | apply Drawn0.step)⟩
      ·
       rw [if_neg c9] at H
       have c9b0 : decide ((rd l1 0) < (rd l2 0)) = false := decide_eq_false c9
       clear c9
       by_cases c10 : 1 < (l2.length : Int)
       ·
        rw [if_pos c10] at H
        have c10b0 : decide (1 < (l2.length : Int)) = true := decide_eq_true c10
        have c10b1 : decide (1 < l2.length) = true := decide_eq_true (by omega)
        clear c10
        have H' := Aside0.mk H
        clear H
        have p576 : 0 ≤ (0 : Int) := (by omega)
        have q576 : 0 < (l2.length : Int) := ode
        obtain ⟨ad576, e576, hx576_0⟩ := Kd.at_int HR2.out 0 p576 q576
        cases e576
        have qi576 : (0 < l2.length) = True := eq_true (by omega)
        (try rw [show ((0 : Int)).toNat = 0 from rfl] at hx576_0)
        (try rw [Addr.add_zero'] at hx576_0)
        replace p576 := eq_true p576
        replace q576 := eq_true q576
        have p577 : 0 ≤ (0 : Int) := (by omega)
        have q577 : 0 < (l2.length : Int) := ode
        obtain ⟨ad577, e577, hx577_0⟩ := Kd.at_int HR2.out 0 p577 q577
        obtain rfl : ad576 = ad577 := (by injection e577)
        have qi577 : (0 < l2.length) = True := eq_true (by omega)
        (try rw [show ((0 : Int)).toNat = 0 from rfl] at hx577_0)
        (try rw [Addr.add_zero'] at hx577_0)
        replace p577 := eq_true p577
        replace q577 := eq_true q577
        have p578 : 0 ≤ (0 : Int) := (by omega)
        have q578 : 0 < (l1.length : Int) := ode
        obtain ⟨ad578, e578, hx578_0⟩ := Kd.at_int HR1.out 0 p578 q578
        cases e578
        have qi578 : (0 < l1.length) = True := eq_true (by omega)
        (try rw [show ((0 : Int)).toNat = 0 from rfl] at hx578_0)
        (try rw [Addr.add_zero'] at hx578_0)
        replace p578 := eq_true p578
        replace q578 := eq_true q578
        have p579 : 0 ≤ (1 : Int) := (by omega)
        have q579 : 1 < (l2.length : Int) := ode
        obtain ⟨ad579, e579, hx579_0⟩ := Kd.at_int HR2.out 1 p579 q579
        obtain rfl : ad576 = ad579 := (by injection e579)
        (try simp only [show (1 : Int).toNat = 1 from rfl, Nat.reduceMul, Nat.reduceEqDiff, Go.Addr.add, ↓reduceIte] at hx579_0)
        have qi579 : (1 < l2.length) = True := eq_true (by omega)
        (try rw [show ((1 : Int)).toNat = 1 from rfl] at hx579_0)
        replace p579 := eq_true p579
        replace q579 := eq_true q579
        go_wp2
        repeat (go_quiet (fail); try go_wp2)
        go_meet
        case rel => exact ⟨_, (decide ((rd l2 1) > 6311433599)), (by first | rfl | (simp; done) | (simp [*]; done)), H', ⟨by first | omega | exact Nat.le_refl _⟩, by repeat (first | exact Drawn0.refl _ | apply Drawn0.step)⟩
       ·
        rw [if_neg c10] at H
        exact absurd H (by simp)
     ·
      rw [if_neg c8] at H
      exact absurd H (by simp)
   ·
    rw [if_neg c6] at H
    exact absurd H (by simp)
  ·
   rw [if_neg c5] at H
   have c5b0 : ((l2.length : Int) == 2) = false := beq_eq_false_iff_ne.mpr c5
   have c5b1 : ((l2.length : Int) != 2) = true := bne_iff_ne.mpr c5
   (first | rw [c5b0] | (simp only [i64_w, i32_w]; rw [c5b0]) | skip)
   have H' := Aside0.mk H
   clear H
   go_wp2
   repeat (go_quiet (fail); try go_wp2)
   go_meet
   case rel => exact ⟨_, (true), (by first | rfl | (simp; done) | (simp [*]; done)), H', ⟨by first | omega | exact Nat.le_refl _⟩, by repeat (first | exact Drawn0.refl _ | apply Drawn0.step)⟩
 case rest =>
  clear HC4
  try clear c1
  try clear c2
  try clear p2
  try clear c5
  try clear c5b0
  try clear c5b1
  try clear p5
  try clear q5
  try clear hx5
  try clear qi5
  try clear c6
  try clear c6b0
  try clear c6b1
  try clear c7
  try clear c7b0
  try clear c8
  try clear c8b0
  try clear c8b1
  try clear c9
  try clear c9b0
  try clear c10
  try clear c10b0
  try clear c10b1
  try clear hx576_0
  try clear hx577_0
  try clear hx578_0
  try clear hx579_0
  try clear p576
  try clear p577
  try clear p578
  try clear p579
  try clear q576
  try clear q577
  try clear q578
  try clear q579
  obtain ⟨kq, x30_3, rfl, HA, HJ3, ⟨mc3, rfl⟩⟩ := hcut
  cases kq with
  | zero => exact absurd HA.out (by simp [plenumref21_State.j0])
  | succ kj3 =>
   have H := HA.out
   clear HA
   simp only [plenumref21_State.j0] at H
   by_cases c11 : x30_3 = true
   ·
    subst c11
    rw [if_pos rfl] at H
    obtain rfl := Option.some.inj H
    go_wp2
    repeat (go_quiet (fail); try go_wp2)
    go_ret
    exact ⟨by first | rfl | (simp; done) | (simp [*]; done), by repeat (first | exact Drawn0.refl _ | apply Drawn0.step)⟩
   ·
    replace c11 := Bool.eq_false_iff.mpr c11
    subst c11
    rw [if_neg (show ¬ (false = true) by decide)] at H
    by_cases c12 : a0.toList = ([115, 116, 97, 103, 101] : List UInt8)
    ·
     rw [if_pos c12] at H
     have c12b0 : (a0.toList == ([115, 116, 97, 103, 101] : List UInt8)) = true := beq_iff_eq.mpr c12
     have c12b1 : (a0.toList != ([115, 116, 97, 103, 101] : List UInt8)) = false := bne_eq_false_iff_eq.mpr c12
     clear c12
     by_cases c13 : 1 < (l2.length : Int)
     ·
      rw [if_pos c13] at H
      have c13b0 : decide (1 < (l2.length : Int)) = true := decide_eq_true c13
      have c13b1 : decide (1 < l2.length) = true := decide_eq_true (by omega)
      clear c13
      obtain rfl := Option.some.inj H
      have p580 : 0 ≤ (1 : Int) := (by omega)
      have q580 : 1 < (l2.length : Int) := ode
      obtain ⟨ad580, e580, hx580_0⟩ := Kd.at_int HR2.out 1 p580 q580
      cases e580
      (try simp only [show (1 : Int).toNat = 1 from rfl, Nat.reduceMul, Nat.reduceEqDiff, Go.Addr.add, ↓reduceIte] at hx580_0)
      have qi580 : (1 < l2.length) = True := eq_true (by omega)
      (try rw [show ((1 : Int)).toNat = 1 from rfl] at hx580_0)
      replace p580 := eq_true p580
      replace q580 := eq_true q580
      go_wp2
      repeat (go_quiet (fail); try go_wp2)
      go_ret
      exact ⟨by first | rfl | (simp; done) | (simp [*]; done), by repeat (first | exact Drawn0.refl _ | apply Drawn0.step)⟩
     ·
      rw [if_neg c13] at H
      exact absurd H (by simp)
    ·
     rw [if_neg c12] at H
     have c12b0 : (a0.toList == ([115, 116, 97, 103, 101] : List UInt8)) = false := beq_eq_false_iff_ne.mpr c12
     have c12b1 : (a0.toList != ([115, 116, 97, 103, 101] : List UInt8)) = true := bne_iff_ne.mpr c12
     by_cases c14 : 1 < (l2.length : Int)
     ·
      rw [if_pos c14] at H
      have c14b0 : decide (1 < (l2.length : Int)) = true := decide_eq_true c14
      have c14b1 : decide (1 < l2.length) = true := decide_eq_true (by omega)
      clear c14
      obtain rfl := Option.some.inj H
      have p581 : 0 ≤ (1 : Int) := (by omega)
      have q581 : 1 < (l2.length : Int) := ode
      obtain ⟨ad581, e581, hx581_0⟩ := Kd.at_int HR2.out 1 p581 q581
      cases e581
      (try simp only [show (1 : Int).toNat = 1 from rfl, Nat.reduceMul, Nat.reduceEqDiff, Go.Addr.add, ↓reduceIte] at hx581_0)
      have qi581 : (1 < l2.length) = True := eq_true (by omega)
      (try rw [show ((1 : Int)).toNat = 1 from rfl] at hx581_0)
      replace p581 := eq_true p581
      replace q581 := eq_true q581
      go_wp2
      repeat (go_quiet (fail); try go_wp2)
      go_ret
      exact ⟨by first | rfl | (simp; done) | (simp [*]; done), by repeat (first | exact Drawn0.refl _ | apply Drawn0.step)⟩
     ·
      rw [if_neg c14] at H
      exact absurd H (by simp)

/-! ### plenumref21_Stage: function 30 -/
mutual
def plenumref21_Stage.j0 : Nat → List Int → Int → Int → Int → Int → Bool → Option (List Int)
 | 0, _, _, _, _, _, _ => none
 | k + 1, x0, x2, x3, x9, x10, x28 => if x28 = true then (if 3 < (x0.length : Int) then (if (mn (wrap64 ((mx x10 0) + x3)) 6311433599) ≥ (rd x0 3) then (some (([wrap64 (x9 + 1), 0] : List Int))) else (some (([x9, mn (wrap64 ((mx x10 0) + x3)) 6311433599] : List Int)))) else (none)) else (if 2 < (x0.length : Int) then (if x2 < (rd x0 2) then (plenumref21_Stage.j1 k x0 x3 x9 x10 (decide (x9 > 0))) else (plenumref21_Stage.j1 k x0 x3 x9 x10 false)) else (none))
def plenumref21_Stage.j1 : Nat → List Int → Int → Int → Int → Bool → Option (List Int)
 | 0, _, _, _, _, _ => none
 | k + 1, x0, x3, x9, x10, x53 => if x53 = true then (if 4 < (x0.length : Int) then (if (wrap64 (-(mx (wrap64 ((mn x10 0) - x3)) (-6311433599)))) ≥ (rd x0 4) then (some (([wrap64 (x9 - 1), 0] : List Int))) else (some (([x9, mx (wrap64 ((mn x10 0) - x3)) (-6311433599)] : List Int)))) else (none)) else (some (([x9, 0] : List Int)))
end
def plenumref21_Stage.f (k : Nat) (l0 : List Int) (l1 : List Int) (a2 : Int) (a3 : Int) : Option (List Int) := if 0 < (l1.length : Int) then (if 1 < (l1.length : Int) then (if 1 < (l0.length : Int) then (if a2 > (rd l0 1) then (if 0 < (l0.length : Int) then (plenumref21_Stage.j0 k l0 a2 a3 (rd l1 0) (rd l1 1) (decide ((rd l1 0) < (rd l0 0)))) else (none)) else (plenumref21_Stage.j0 k l0 a2 a3 (rd l1 0) (rd l1 1) false)) else (none)) else (none)) else (none)
theorem plenumref21_Stage.mono_l : ∀ k, (∀ y0 y1 y2 y3 y4 y5, LeO (plenumref21_Stage.j0 k y0 y1 y2 y3 y4 y5) (plenumref21_Stage.j0 (k + 1) y0 y1 y2 y3 y4 y5)) ∧ (∀ y0 y1 y2 y3 y4, LeO (plenumref21_Stage.j1 k y0 y1 y2 y3 y4) (plenumref21_Stage.j1 (k + 1) y0 y1 y2 y3 y4))
 | 0 => ⟨fun _ _ _ _ _ _ r h => by simp [plenumref21_Stage.j0] at h, fun _ _ _ _ _ r h => by simp [plenumref21_Stage.j1] at h⟩
 | k + 1 => by
  obtain ⟨ih0, ih1⟩ := plenumref21_Stage.mono_l k
  refine ⟨?_, ?_⟩
  ·
   intro y0 y1 y2 y3 y4 y5
   unfold plenumref21_Stage.j0
   repeat' first
   | (with_reducible exact ih0 _ _ _ _ _ _)
   | (with_reducible exact ih1 _ _ _ _ _)
   | (with_reducible exact LeO.refl _)
   | (with_reducible exact LeO.none _)
   | (with_reducible refine LeO.ite ?_ ?_)
   | (with_reducible refine LeO.bind ?_ (fun _ => ?_))
   | exact ih0 _ _ _ _ _ _
   | exact ih1 _ _ _ _ _
   | exact LeO.none _
   | refine LeO.ite ?_ ?_
   | refine LeO.bind ?_ (fun _ => ?_)
  ·
   intro y0 y1 y2 y3 y4
   unfold plenumref21_Stage.j1
   repeat' first
   | (with_reducible exact ih0 _ _ _ _ _ _)
   | (with_reducible exact ih1 _ _ _ _ _)
   | (with_reducible exact LeO.refl _)
   | (with_reducible exact LeO.none _)
   | (with_reducible refine LeO.ite ?_ ?_)
   | (with_reducible refine LeO.bind ?_ (fun _ => ?_))
   | exact ih0 _ _ _ _ _ _
   | exact ih1 _ _ _ _ _
   | exact LeO.none _
   | refine LeO.ite ?_ ?_
   | refine LeO.bind ?_ (fun _ => ?_)
theorem plenumref21_Stage.mono : ∀ a0 a1 a2 a3 k, LeO (plenumref21_Stage.f k a0 a1 a2 a3) (plenumref21_Stage.f (k + 1) a0 a1 a2 a3) := by
 intro a0 a1 a2 a3 k
 obtain ⟨ih0, ih1⟩ := plenumref21_Stage.mono_l k
 unfold plenumref21_Stage.f
 repeat' first
   | (with_reducible exact ih0 _ _ _ _ _ _)
   | (with_reducible exact ih1 _ _ _ _ _)
   | (with_reducible exact LeO.refl _)
   | (with_reducible exact LeO.none _)
   | (with_reducible refine LeO.ite ?_ ?_)
   | (with_reducible refine LeO.bind ?_ (fun _ => ?_))
   | exact ih0 _ _ _ _ _ _
   | exact ih1 _ _ _ _ _
   | exact LeO.none _
   | refine LeO.ite ?_ ?_
   | refine LeO.bind ?_ (fun _ => ?_)
set_option maxHeartbeats 8000000 in
set_option maxRecDepth 100000 in
theorem plenumref21_Stage.calls (k : Nat) (A0 : Option Addr) (c0 : Nat) (l0 : List Int) (A1 : Option Addr) (c1 : Nat) (l1 : List Int) (a2 : Int) (a3 : Int) (r : List Int) (w : World) (hr0 : Kd.C (Kd.int .i64) w A0 l0.length l0) (hc0 : l0.length ≤ c0) (hr1 : Kd.C (Kd.int .i64) w A1 l1.length l1) (hc1 : l1.length ≤ c1) (h : plenumref21_Stage.f k l0 l1 a2 a3 = some r) :
  Calls Tryd.prog 30 #[.slice A0 l0.length c0, .slice A1 l1.length c1, .int .i64 a2, .int .i64 a3] w fun e w' => ∃ v0_ : Value, e = .returned (v0_) ∧ Kd.R (Kd.int .i64) 2 w' w.heap.size (fun _ => True) v0_ r ∧ Below w.heap.size w w' := by
 have HR0 := Aside0.mk hr0
 have HC0 := Aside0.mk hc0
 clear hr0 hc0
 have HR1 := Aside0.mk hr1
 have HC1 := Aside0.mk hc1
 clear hr1 hc1
 have HB := Aside0.mk (Below.refl w.heap.size w)
 have H : (if 0 < (l1.length : Int) then (if 1 < (l1.length : Int) then (if 1 < (l0.length : Int) then (if a2 > (rd l0 1) then (if 0 < (l0.length : Int) then (plenumref21_Stage.j0 k l0 a2 a3 (rd l1 0) (rd l1 1) (decide ((rd l1 0) < (rd l0 0)))) else (none)) else (plenumref21_Stage.j0 k l0 a2 a3 (rd l1 0) (rd l1 1) false)) else (none)) else (none)) else (none)) = some r := h
 clear h
 by_cases c5 : 0 < (l1.length : Int)
 ·
  rw [if_pos c5] at H
  have c5b0 : decide (0 < (l1.length : Int)) = true := decide_eq_true c5
  have c5b1 : decide (0 < l1.length) = true := decide_eq_true (by omega)
  clear c5
  by_cases c6 : 1 < (l1.length : Int)
  ·
   rw [if_pos c6] at H
   have c6b0 : decide (1 < (l1.length : Int)) = true := decide_eq_true c6
   have c6b1 : decide (1 < l1.length) = true := decide_eq_true (by omega)
   clear c6
   have HC7 := Aside0.mk H
   clear H
   have p583 : 0 ≤ (0 : Int) := (by omega)
   have q583 : 0 < (l1.length : Int) := ode
   obtain ⟨ad583, e583, hx583_0⟩ := Kd.at_int HR1.out 0 p583 q583
   cases e583
   have qi583 : (0 < l1.length) = True := eq_true (by omega)
   (try rw [show ((0 : Int)).toNat = 0 from rfl] at hx583_0)
   (try rw [Addr.add_zero'] at hx583_0)
   replace p583 := eq_true p583
   replace q583 := eq_true q583
   have p584 : 0 ≤ (1 : Int) := (by omega)
   have q584 : 1 < (l1.length : Int) := ode
   obtain ⟨ad584, e584, hx584_0⟩ := Kd.at_int HR1.out 1 p584 q584
   obtain rfl : ad583 = ad584 := (by injection e584)
   (try simp only [show (1 : Int).toNat = 1 from rfl, Nat.reduceMul, Nat.reduceEqDiff, Go.Addr.add, ↓reduceIte] at hx584_0)
   have qi584 : (1 < l1.length) = True := eq_true (by omega)
   (try rw [show ((1 : Int)).toNat = 1 from rfl] at hx584_0)
   replace p584 := eq_true p584
   replace q584 := eq_true q584
   go_enter Tryd.func30, Tryd.ntmps30
   go_upto_region 2 with (fail)
   repeat (go_quiet (fail); go_upto_region 2 with (fail))
   go_cut [28] (fun v28 wc => ∃ (kq : Nat) (x28_6 : Bool), v28 = .bool x28_6 ∧ Aside0 (plenumref21_Stage.j0 kq l0 a2 a3 (rd l1 0) (rd l1 1) x28_6 = some r) ∧ Aside0 (kq ≤ k) ∧ Aside0 (Below w.heap.size w wc))
   case first =>
    have H := HC7.out
    clear HC7
    by_cases c8 : 1 < (l0.length : Int)
    ·
     rw [if_pos c8] at H
     have c8b0 : decide (1 < (l0.length : Int)) = true := decide_eq_true c8
     have c8b1 : decide (1 < l0.length) = true := decide_eq_true (by omega)
     clear c8
     (first | rw [c8b0] | (simp only [i64_w, i32_w]; rw [c8b0]) | skip)
     by_cases c9 : a2 > (rd l0 1)
     ·
      rw [if_pos c9] at H
      have c9b0 : decide ((rd l0 1) < a2) = true := decide_eq_true c9
      clear c9
      by_cases c10 : 0 < (l0.length : Int)
      ·
       rw [if_pos c10] at H
       have c10b0 : decide (0 < (l0.length : Int)) = true := decide_eq_true c10
       have c10b1 : decide (0 < l0.length) = true := decide_eq_true (by omega)
       clear c10
       have H' := Aside0.mk H
       clear H
       have p585 : 0 ≤ (1 : Int) := (by omega)
       have q585 : 1 < (l0.length : Int) := ode
       obtain ⟨ad585, e585, hx585_0⟩ := Kd.at_int HR0.out 1 p585 q585
       cases e585
       (try simp only [show (1 : Int).toNat = 1 from rfl, Nat.reduceMul, Nat.reduceEqDiff, Go.Addr.add, ↓reduceIte] at hx585_0)
       have qi585 : (1 < l0.length) = True := eq_true (by omega)
       (try rw [show ((1 : Int)).toNat = 1 from rfl] at hx585_0)
       replace hx585_0 := (HB.out.cell (World.block_lt_of_cell? w _ hx585_0)).trans hx585_0
       replace p585 := eq_true p585
       replace q585 := eq_true q585
       have p586 : 0 ≤ (0 : Int) := (by omega)
       have q586 : 0 < (l0.length : Int) := ode
       obtain ⟨ad586, e586, hx586_0⟩ := Kd.at_int HR0.out 0 p586 q586
       obtain rfl : ad585 = ad586 := (by injection e586)
       have qi586 : (0 < l0.length) = True := eq_true (by omega)
       (try rw [show ((0 : Int)).toNat = 0 from rfl] at hx586_0)
       (try rw [Addr.add_zero'] at hx586_0)
       replace hx586_0 := (HB.out.cell (World.block_lt_of_cell? w _ hx586_0)).trans hx586_0
       replace p586 := eq_true p586
       replace q586 := eq_true q586
       go_wp2
       repeat (go_quiet (fail); try go_wp2)
       go_meet
       case rel => exact ⟨_, (decide ((rd l1 0) < (rd l0 0))), (by first | rfl | (simp; done) | (simp [*]; done)), H', ⟨by first | omega | exact Nat.le_refl _⟩, ⟨bl⟩⟩
      ·
       rw [if_neg c10] at H
       exact absurd H (by simp)
     ·
      rw [if_neg c9] at H
      have c9b0 : decide ((rd l0 1) < a2) = false := decide_eq_false c9
      clear c9
      have H' := Aside0.mk H
      clear H
      have p585 : 0 ≤ (1 : Int) := (by omega)
      have q585 : 1 < (l0.length : Int) := ode
      obtain ⟨ad585, e585, hx585_0⟩ := Kd.at_int HR0.out 1 p585 q585
      cases e585
      (try simp only [show (1 : Int).toNat = 1 from rfl, Nat.reduceMul, Nat.reduceEqDiff, Go.Addr.add, ↓reduceIte] at hx585_0)
      have qi585 : (1 < l0.length) = True := eq_true (by omega)
      (try rw [show ((1 : Int)).toNat = 1 from rfl] at hx585_0)
      replace hx585_0 := (HB.out.cell (World.block_lt_of_cell? w _ hx585_0)).trans hx585_0
      replace p585 := eq_true p585
      replace q585 := eq_true q585
      go_wp2
      repeat (go_quiet (fail); try go_wp2)
      go_meet
      case rel => exact ⟨_, (false), (by first | rfl | (simp; done) | (simp [*]; done)), H', ⟨by first | omega | exact Nat.le_refl _⟩, ⟨bl⟩⟩
    ·
     rw [if_neg c8] at H
     exact absurd H (by simp)
   case rest =>
    clear HC7
    try clear c1
    try clear p2
    try clear c3
    try clear c5
    try clear c5b0
    try clear c5b1
    try clear p5
    try clear q5
    try clear hx5
    try clear qi5
    try clear c6
    try clear c6b0
    try clear c6b1
    try clear c8
    try clear c8b0
    try clear c8b1
    try clear c9
    try clear c9b0
    try clear c10
    try clear c10b0
    try clear c10b1
    try clear hx583_0
    try clear hx584_0
    try clear hx585_0
    try clear hx586_0
    try clear p583
    try clear p584
    try clear p585
    try clear p586
    try clear q583
    try clear q584
    try clear q585
    try clear q586
    obtain ⟨kq, x28_6, rfl, HA, HJ6, HB⟩ := hcut
    cases kq with
    | zero => exact absurd HA.out (by simp [plenumref21_Stage.j0])
    | succ kj6 =>
     have H := HA.out
     clear HA
     simp only [plenumref21_Stage.j0] at H
     by_cases c11 : x28_6 = true
     ·
      subst c11
      rw [if_pos rfl] at H
      obtain ⟨ji12, hji12⟩ : ∃ j_ : Int, (mx (rd l1 1) 0) = j_ := ⟨_, rfl⟩
      replace H : (if 3 < (l0.length : Int) then (if (mn (wrap64 ((ji12) + a3)) 6311433599) ≥ (rd l0 3) then (some (([wrap64 ((rd l1 0) + 1), 0] : List Int))) else (some (([(rd l1 0), mn (wrap64 ((ji12) + a3)) 6311433599] : List Int)))) else (none)) = some r := by first | (rw [hji12] at H; exact H) | (simp only [hji12] at H ⊢; exact H)
      have hji12_ : (if (rd l1 1) < 0 then 0 else (rd l1 1)) = ji12 := hji12
      obtain ⟨ji13, hji13⟩ : ∃ j_ : Int, (mn (wrap64 ((ji12) + a3)) 6311433599) = j_ := ⟨_, rfl⟩
      replace H : (if 3 < (l0.length : Int) then (if (ji13) ≥ (rd l0 3) then (some (([wrap64 ((rd l1 0) + 1), 0] : List Int))) else (some (([(rd l1 0), ji13] : List Int)))) else (none)) = some r := by first | (rw [hji13] at H; exact H) | (simp only [hji13] at H ⊢; exact H)
      have hji13_ : (if 6311433599 < (wrap64 ((ji12) + a3)) then 6311433599 else (wrap64 ((ji12) + a3))) = ji13 := hji13
      by_cases c14 : 3 < (l0.length : Int)
      ·
       rw [if_pos c14] at H
       have c14b0 : decide (3 < (l0.length : Int)) = true := decide_eq_true c14
       have c14b1 : decide (3 < l0.length) = true := decide_eq_true (by omega)
       clear c14
       by_cases c15 : (ji13) ≥ (rd l0 3)
       ·
        rw [if_pos c15] at H
        have c15b0 : decide ((rd l0 3) ≤ (ji13)) = true := decide_eq_true c15
        clear c15
        obtain ⟨y588, hy588⟩ : ∃ y_ : List Int, y_ = (([wrap64 ((rd l1 0) + 1), 0] : List Int)) := ⟨_, rfl⟩
        replace H : (some y588) = some r := by first | (rw [hy588]; with_reducible exact H) | (have H2_ := (Option.bind_some _ _).symm.trans H; rw [hy588]; with_reducible exact H2_) | (have H2_ := (Option.bind_some _ _).symm.trans H; with_reducible exact H2_) | with_reducible exact H | (rw [hy588]; exact H) | exact H
        have Ny588 := Aside0.mk hy588
        clear hy588
        obtain rfl := Option.some.inj H
        have p587 : 0 ≤ (3 : Int) := (by omega)
        have q587 : 3 < (l0.length : Int) := ode
        obtain ⟨ad587, e587, hx587_0⟩ := Kd.at_int HR0.out 3 p587 q587
        cases e587
        (try simp only [show (3 : Int).toNat = 3 from rfl, Nat.reduceMul, Nat.reduceEqDiff, Go.Addr.add, ↓reduceIte] at hx587_0)
        have qi587 : (3 < l0.length) = True := eq_true (by omega)
        (try rw [show ((3 : Int)).toNat = 3 from rfl] at hx587_0)
        replace hx587_0 := (HB.out.cell (World.block_lt_of_cell? w _ hx587_0)).trans hx587_0
        replace p587 := eq_true p587
        replace q587 := eq_true q587
        go_wp2_with (first | ((with_reducible refine gate_dst (N := 41) rfl ?_); refine Kd.R_lit (Kd.int .i64) _ 2 ?hg (N := 41) ?hd (xs := ([wrap64 ((rd l1 0) + 1), 0] : List Int)) (inner := [.int .i64 (wrap64 ((rd l1 0) + 1)), .int .i64 0]) (ok := fun _ => True) (okp := fun _ => True) ?hr ?hp (fun _ hk => hk) trivial (Below.refl _ _) (Nat.le_refl _) (by simp) ?_; (case hd => rfl); (case hg => rfl); (case hr => first | (go_simp; done) | (go_simp; rfl)); (case hp => exact (Reps.one (show Kd.M (Kd.int .i64) _ _ _ (wrap64 ((rd l1 0) + 1)) [.int .i64 (wrap64 ((rd l1 0) + 1))] from rfl) (Reps.one (show Kd.M (Kd.int .i64) _ _ _ 0 [.int .i64 0] from rfl) (Reps.none _ _)))); intro v589 w16 ho17 hb hg_ hnew_; clear hg_ hnew_; (first | rw [← Ny588.out] at ho17 | (simp only [Int.reduceToNat] at ho17; rw [← Ny588.out] at ho17)); have n0_ := Aside0.mk (Kd.R_lower ho17 (below_size bl)); have n1_ := Aside0.mk (below_step bl hb); clear HB; have HO590 := n0_; have HB := n1_; clear n0_ n1_; clear hb ho17))
        repeat (go_quiet (first | ((with_reducible refine gate_dst (N := 41) rfl ?_); refine Kd.R_lit (Kd.int .i64) _ 2 ?hg (N := 41) ?hd (xs := ([wrap64 ((rd l1 0) + 1), 0] : List Int)) (inner := [.int .i64 (wrap64 ((rd l1 0) + 1)), .int .i64 0]) (ok := fun _ => True) (okp := fun _ => True) ?hr ?hp (fun _ hk => hk) trivial (Below.refl _ _) (Nat.le_refl _) (by simp) ?_; (case hd => rfl); (case hg => rfl); (case hr => first | (go_simp; done) | (go_simp; rfl)); (case hp => exact (Reps.one (show Kd.M (Kd.int .i64) _ _ _ (wrap64 ((rd l1 0) + 1)) [.int .i64 (wrap64 ((rd l1 0) + 1))] from rfl) (Reps.one (show Kd.M (Kd.int .i64) _ _ _ 0 [.int .i64 0] from rfl) (Reps.none _ _)))); intro v589 w16 ho17 hb hg_ hnew_; clear hg_ hnew_; (first | rw [← Ny588.out] at ho17 | (simp only [Int.reduceToNat] at ho17; rw [← Ny588.out] at ho17)); have n0_ := Aside0.mk (Kd.R_lower ho17 (below_size bl)); have n1_ := Aside0.mk (below_step bl hb); clear HB; have HO590 := n0_; have HB := n1_; clear n0_ n1_; clear hb ho17)); try go_wp2_with (first | ((with_reducible refine gate_dst (N := 41) rfl ?_); refine Kd.R_lit (Kd.int .i64) _ 2 ?hg (N := 41) ?hd (xs := ([wrap64 ((rd l1 0) + 1), 0] : List Int)) (inner := [.int .i64 (wrap64 ((rd l1 0) + 1)), .int .i64 0]) (ok := fun _ => True) (okp := fun _ => True) ?hr ?hp (fun _ hk => hk) trivial (Below.refl _ _) (Nat.le_refl _) (by simp) ?_; (case hd => rfl); (case hg => rfl); (case hr => first | (go_simp; done) | (go_simp; rfl)); (case hp => exact (Reps.one (show Kd.M (Kd.int .i64) _ _ _ (wrap64 ((rd l1 0) + 1)) [.int .i64 (wrap64 ((rd l1 0) + 1))] from rfl) (Reps.one (show Kd.M (Kd.int .i64) _ _ _ 0 [.int .i64 0] from rfl) (Reps.none _ _)))); intro v589 w16 ho17 hb hg_ hnew_; clear hg_ hnew_; (first | rw [← Ny588.out] at ho17 | (simp only [Int.reduceToNat] at ho17; rw [← Ny588.out] at ho17)); have n0_ := Aside0.mk (Kd.R_lower ho17 (below_size bl)); have n1_ := Aside0.mk (below_step bl hb); clear HB; have HO590 := n0_; have HB := n1_; clear n0_ n1_; clear hb ho17)))
        go_ret
        exact ⟨_, by first | rfl | (simp [errW_none, errW_some] <;> rfl) | (simp only [← hji12, ← hji13]; first | rfl | (simp [errW_none, errW_some] <;> rfl)) | (simp [*, errW_none, errW_some] <;> rfl), by (with_reducible repeat (first | apply Kd.R_alloc | apply Kd.R_drewN | apply Kd.R_drew)); exact HO590.out, bl⟩
       ·
        rw [if_neg c15] at H
        have c15b0 : decide ((rd l0 3) ≤ (ji13)) = false := decide_eq_false c15
        clear c15
        obtain ⟨y591, hy591⟩ : ∃ y_ : List Int, y_ = (([(rd l1 0), ji13] : List Int)) := ⟨_, rfl⟩
        replace H : (some y591) = some r := by first | (rw [hy591]; with_reducible exact H) | (have H2_ := (Option.bind_some _ _).symm.trans H; rw [hy591]; with_reducible exact H2_) | (have H2_ := (Option.bind_some _ _).symm.trans H; with_reducible exact H2_) | with_reducible exact H | (rw [hy591]; exact H) | exact H
        have Ny591 := Aside0.mk hy591
        clear hy591
        obtain rfl := Option.some.inj H
        have p587 : 0 ≤ (3 : Int) := (by omega)
        have q587 : 3 < (l0.length : Int) := ode
        obtain ⟨ad587, e587, hx587_0⟩ := Kd.at_int HR0.out 3 p587 q587
        cases e587
        (try simp only [show (3 : Int).toNat = 3 from rfl, Nat.reduceMul, Nat.reduceEqDiff, Go.Addr.add, ↓reduceIte] at hx587_0)
        have qi587 : (3 < l0.length) = True := eq_true (by omega)
        (try rw [show ((3 : Int)).toNat = 3 from rfl] at hx587_0)
        replace hx587_0 := (HB.out.cell (World.block_lt_of_cell? w _ hx587_0)).trans hx587_0
        replace p587 := eq_true p587
        replace q587 := eq_true q587
        go_wp2_with (first | ((with_reducible refine gate_dst (N := 44) rfl ?_); refine Kd.R_lit (Kd.int .i64) _ 2 ?hg (N := 44) ?hd (xs := ([(rd l1 0), ji13] : List Int)) (inner := [.int .i64 (rd l1 0), .int .i64 ji13]) (ok := fun _ => True) (okp := fun _ => True) ?hr ?hp (fun _ hk => hk) trivial (Below.refl _ _) (Nat.le_refl _) (by simp) ?_; (case hd => rfl); (case hg => rfl); (case hr => first | (go_simp; done) | (go_simp; rfl)); (case hp => exact (Reps.one (show Kd.M (Kd.int .i64) _ _ _ (rd l1 0) [.int .i64 (rd l1 0)] from rfl) (Reps.one (show Kd.M (Kd.int .i64) _ _ _ ji13 [.int .i64 ji13] from rfl) (Reps.none _ _)))); intro v592 w18 ho19 hb hg_ hnew_; clear hg_ hnew_; (first | rw [← Ny591.out] at ho19 | (simp only [Int.reduceToNat] at ho19; rw [← Ny591.out] at ho19)); have n0_ := Aside0.mk (Kd.R_lower ho19 (below_size bl)); have n1_ := Aside0.mk (below_step bl hb); clear HB; have HO593 := n0_; have HB := n1_; clear n0_ n1_; clear hb ho19))
        repeat (go_quiet (first | ((with_reducible refine gate_dst (N := 44) rfl ?_); refine Kd.R_lit (Kd.int .i64) _ 2 ?hg (N := 44) ?hd (xs := ([(rd l1 0), ji13] : List Int)) (inner := [.int .i64 (rd l1 0), .int .i64 ji13]) (ok := fun _ => True) (okp := fun _ => True) ?hr ?hp (fun _ hk => hk) trivial (Below.refl _ _) (Nat.le_refl _) (by simp) ?_; (case hd => rfl); (case hg => rfl); (case hr => first | (go_simp; done) | (go_simp; rfl)); (case hp => exact (Reps.one (show Kd.M (Kd.int .i64) _ _ _ (rd l1 0) [.int .i64 (rd l1 0)] from rfl) (Reps.one (show Kd.M (Kd.int .i64) _ _ _ ji13 [.int .i64 ji13] from rfl) (Reps.none _ _)))); intro v592 w18 ho19 hb hg_ hnew_; clear hg_ hnew_; (first | rw [← Ny591.out] at ho19 | (simp only [Int.reduceToNat] at ho19; rw [← Ny591.out] at ho19)); have n0_ := Aside0.mk (Kd.R_lower ho19 (below_size bl)); have n1_ := Aside0.mk (below_step bl hb); clear HB; have HO593 := n0_; have HB := n1_; clear n0_ n1_; clear hb ho19)); try go_wp2_with (first | ((with_reducible refine gate_dst (N := 44) rfl ?_); refine Kd.R_lit (Kd.int .i64) _ 2 ?hg (N := 44) ?hd (xs := ([(rd l1 0), ji13] : List Int)) (inner := [.int .i64 (rd l1 0), .int .i64 ji13]) (ok := fun _ => True) (okp := fun _ => True) ?hr ?hp (fun _ hk => hk) trivial (Below.refl _ _) (Nat.le_refl _) (by simp) ?_; (case hd => rfl); (case hg => rfl); (case hr => first | (go_simp; done) | (go_simp; rfl)); (case hp => exact (Reps.one (show Kd.M (Kd.int .i64) _ _ _ (rd l1 0) [.int .i64 (rd l1 0)] from rfl) (Reps.one (show Kd.M (Kd.int .i64) _ _ _ ji13 [.int .i64 ji13] from rfl) (Reps.none _ _)))); intro v592 w18 ho19 hb hg_ hnew_; clear hg_ hnew_; (first | rw [← Ny591.out] at ho19 | (simp only [Int.reduceToNat] at ho19; rw [← Ny591.out] at ho19)); have n0_ := Aside0.mk (Kd.R_lower ho19 (below_size bl)); have n1_ := Aside0.mk (below_step bl hb); clear HB; have HO593 := n0_; have HB := n1_; clear n0_ n1_; clear hb ho19)))
        go_ret
        exact ⟨_, by first | rfl | (simp [errW_none, errW_some] <;> rfl) | (simp only [← hji12, ← hji13]; first | rfl | (simp [errW_none, errW_some] <;> rfl)) | (simp [*, errW_none, errW_some] <;> rfl), by (with_reducible repeat (first | apply Kd.R_alloc | apply Kd.R_drewN | apply Kd.R_drew)); exact HO593.out, bl⟩
      ·
       rw [if_neg c14] at H
       exact absurd H (by simp)
     ·
      replace c11 := Bool.eq_false_iff.mpr c11
      subst c11
      rw [if_neg (show ¬ (false = true) by decide)] at H
      have HC20 := Aside0.mk H
      clear H
      go_upto_region 7 with (fail)
      repeat (go_quiet (fail); go_upto_region 7 with (fail))
      go_cut [53] (fun v53 wc => ∃ (kq : Nat) (x53_19 : Bool), v53 = .bool x53_19 ∧ Aside0 (plenumref21_Stage.j1 kq l0 a3 (rd l1 0) (rd l1 1) x53_19 = some r) ∧ Aside0 (kq ≤ kj6) ∧ Aside0 (Below w.heap.size w wc))
      case first =>
       have H := HC20.out
       clear HC20
       by_cases c21 : 2 < (l0.length : Int)
       ·
        rw [if_pos c21] at H
        have c21b0 : decide (2 < (l0.length : Int)) = true := decide_eq_true c21
        have c21b1 : decide (2 < l0.length) = true := decide_eq_true (by omega)
        clear c21
        (first | rw [c21b0] | (simp only [i64_w, i32_w]; rw [c21b0]) | skip)
        by_cases c22 : a2 < (rd l0 2)
        ·
         rw [if_pos c22] at H
         have c22b0 : decide (a2 < (rd l0 2)) = true := decide_eq_true c22
         clear c22
         have H' := Aside0.mk H
         clear H
         have p594 : 0 ≤ (2 : Int) := (by omega)
         have q594 : 2 < (l0.length : Int) := ode
         obtain ⟨ad594, e594, hx594_0⟩ := Kd.at_int HR0.out 2 p594 q594
         cases e594
         (try simp only [show (2 : Int).toNat = 2 from rfl, Nat.reduceMul, Nat.reduceEqDiff, Go.Addr.add, ↓reduceIte] at hx594_0)
         have qi594 : (2 < l0.length) = True := eq_true (by omega)
         (try rw [show ((2 : Int)).toNat = 2 from rfl] at hx594_0)
         replace hx594_0 := (HB.out.cell (World.block_lt_of_cell? w _ hx594_0)).trans hx594_0
         replace p594 := eq_true p594
         replace q594 := eq_true q594
         go_wp2
         repeat (go_quiet (fail); try go_wp2)
         go_meet
         case rel => exact ⟨_, (decide ((rd l1 0) > 0)), (by first | rfl | (simp; done) | (simp [*]; done)), H', ⟨by have := HJ6.out; first | omega | exact Nat.le_refl _⟩, ⟨bl⟩⟩
        ·
         rw [if_neg c22] at H
         have c22b0 : decide (a2 < (rd l0 2)) = false := decide_eq_false c22
         clear c22
         have H' := Aside0.mk H
         clear H
         have p594 : 0 ≤ (2 : Int) := (by omega)
         have q594 : 2 < (l0.length : Int) := ode
         obtain ⟨ad594, e594, hx594_0⟩ := Kd.at_int HR0.out 2 p594 q594
         cases e594
         (try simp only [show (2 : Int).toNat = 2 from rfl, Nat.reduceMul, Nat.reduceEqDiff, Go.Addr.add, ↓reduceIte] at hx594_0)
         have qi594 : (2 < l0.length) = True := eq_true (by omega)
         (try rw [show ((2 : Int)).toNat = 2 from rfl] at hx594_0)
         replace hx594_0 := (HB.out.cell (World.block_lt_of_cell? w _ hx594_0)).trans hx594_0
         replace p594 := eq_true p594
         replace q594 := eq_true q594
         go_wp2
         repeat (go_quiet (fail); try go_wp2)
         go_meet
         case rel => exact ⟨_, (false), (by first | rfl | (simp; done) | (simp [*]; done)), H', ⟨by have := HJ6.out; first | omega | exact Nat.le_refl _⟩, ⟨bl⟩⟩
       ·
        rw [if_neg c21] at H
        exact absurd H (by simp)
      case rest =>
       clear HC20
       try clear c1
       try clear c2
       try clear p2
       try clear c3
       try clear c5
       try clear c5b0
       try clear c5b1
       try clear p5
       try clear q5
       try clear hx5
       try clear qi5
       try clear c6
       try clear c6b0
       try clear c6b1
       try clear p6
       try clear c8
       try clear c8b0
       try clear c8b1
       try clear c9
       try clear c9b0
       try clear c10
       try clear c10b0
       try clear c10b1
       try clear c11
       try clear c14
       try clear c14b0
       try clear c14b1
       try clear c15
       try clear c15b0
       try clear c21
       try clear c21b0
       try clear c21b1
       try clear c22
       try clear c22b0
       try clear hx583_0
       try clear hx584_0
       try clear hx585_0
       try clear hx586_0
       try clear hx587_0
       try clear hx594_0
       try clear p2
       try clear p5
       try clear p583
       try clear p584
       try clear p585
       try clear p586
       try clear p587
       try clear p594
       try clear q5
       try clear q583
       try clear q584
       try clear q585
       try clear q586
       try clear q587
       try clear q594
       obtain ⟨kq, x53_19, rfl, HA, HJ19, HB⟩ := hcut
       cases kq with
       | zero => exact absurd HA.out (by simp [plenumref21_Stage.j1])
       | succ kj19 =>
        have H := HA.out
        clear HA
        simp only [plenumref21_Stage.j1] at H
        by_cases c23 : x53_19 = true
        ·
         subst c23
         rw [if_pos rfl] at H
         obtain ⟨ji24, hji24⟩ : ∃ j_ : Int, (mn (rd l1 1) 0) = j_ := ⟨_, rfl⟩
         replace H : (if 4 < (l0.length : Int) then (if (wrap64 (-(mx (wrap64 ((ji24) - a3)) (-6311433599)))) ≥ (rd l0 4) then (some (([wrap64 ((rd l1 0) - 1), 0] : List Int))) else (some (([(rd l1 0), mx (wrap64 ((ji24) - a3)) (-6311433599)] : List Int)))) else (none)) = some r := by first | (rw [hji24] at H; exact H) | (simp only [hji24] at H ⊢; exact H)
         have hji24_ : (if 0 < (rd l1 1) then 0 else (rd l1 1)) = ji24 := hji24
         obtain ⟨ji25, hji25⟩ : ∃ j_ : Int, (mx (wrap64 ((ji24) - a3)) (-6311433599)) = j_ := ⟨_, rfl⟩
         replace H : (if 4 < (l0.length : Int) then (if (wrap64 (-(ji25))) ≥ (rd l0 4) then (some (([wrap64 ((rd l1 0) - 1), 0] : List Int))) else (some (([(rd l1 0), ji25] : List Int)))) else (none)) = some r := by first | (rw [hji25] at H; exact H) | (simp only [hji25] at H ⊢; exact H)
         have hji25_ : (if (wrap64 ((ji24) - a3)) < (-6311433599) then (-6311433599) else (wrap64 ((ji24) - a3))) = ji25 := hji25
         by_cases c26 : 4 < (l0.length : Int)
         ·
          rw [if_pos c26] at H
          have c26b0 : decide (4 < (l0.length : Int)) = true := decide_eq_true c26
          have c26b1 : decide (4 < l0.length) = true := decide_eq_true (by omega)
          clear c26
          by_cases c27 : (wrap64 (-(ji25))) ≥ (rd l0 4)
          ·
           rw [if_pos c27] at H
           have c27b0 : decide ((rd l0 4) ≤ (wrap64 (-(ji25)))) = true := decide_eq_true c27
           clear c27
           obtain ⟨y596, hy596⟩ : ∃ y_ : List Int, y_ = (([wrap64 ((rd l1 0) - 1), 0] : List Int)) := ⟨_, rfl⟩
           replace H : (some y596) = some r := by first | (rw [hy596]; with_reducible exact H) | (have H2_ := (Option.bind_some _ _).symm.trans H; rw [hy596]; with_reducible exact H2_) | (have H2_ := (Option.bind_some _ _).symm.trans H; with_reducible exact H2_) | with_reducible exact H | (rw [hy596]; exact H) | exact H
           have Ny596 := Aside0.mk hy596
           clear hy596
           obtain rfl := Option.some.inj H
           have p595 : 0 ≤ (4 : Int) := (by omega)
           have q595 : 4 < (l0.length : Int) := ode
           obtain ⟨ad595, e595, hx595_0⟩ := Kd.at_int HR0.out 4 p595 q595
           cases e595
           (try simp only [show (4 : Int).toNat = 4 from rfl, Nat.reduceMul, Nat.reduceEqDiff, Go.Addr.add, ↓reduceIte] at hx595_0)
           have qi595 : (4 < l0.length) = True := eq_true (by omega)
           (try rw [show ((4 : Int)).toNat = 4 from rfl] at hx595_0)
           replace hx595_0 := (HB.out.cell (World.block_lt_of_cell? w _ hx595_0)).trans hx595_0
           replace p595 := eq_true p595
           replace q595 := eq_true q595
           go_wp2_with (first | ((with_reducible refine gate_dst (N := 67) rfl ?_); refine Kd.R_lit (Kd.int .i64) _ 2 ?hg (N := 67) ?hd (xs := ([wrap64 ((rd l1 0) - 1), 0] : List Int)) (inner := [.int .i64 (wrap64 ((rd l1 0) - 1)), .int .i64 0]) (ok := fun _ => True) (okp := fun _ => True) ?hr ?hp (fun _ hk => hk) trivial (Below.refl _ _) (Nat.le_refl _) (by simp) ?_; (case hd => rfl); (case hg => rfl); (case hr => first | (go_simp; done) | (go_simp; rfl)); (case hp => exact (Reps.one (show Kd.M (Kd.int .i64) _ _ _ (wrap64 ((rd l1 0) - 1)) [.int .i64 (wrap64 ((rd l1 0) - 1))] from rfl) (Reps.one (show Kd.M (Kd.int .i64) _ _ _ 0 [.int .i64 0] from rfl) (Reps.none _ _)))); intro v597 w28 ho29 hb hg_ hnew_; clear hg_ hnew_; (first | rw [← Ny596.out] at ho29 | (simp only [Int.reduceToNat] at ho29; rw [← Ny596.out] at ho29)); have n0_ := Aside0.mk (Kd.R_lower ho29 (below_size bl)); have n1_ := Aside0.mk (below_step bl hb); clear HB; have HO598 := n0_; have HB := n1_; clear n0_ n1_; clear hb ho29))
           repeat (go_quiet (first | ((with_reducible refine gate_dst (N := 67) rfl ?_); refine Kd.R_lit (Kd.int .i64) _ 2 ?hg (N := 67) ?hd (xs := ([wrap64 ((rd l1 0) - 1), 0] : List Int)) (inner := [.int .i64 (wrap64 ((rd l1 0) - 1)), .int .i64 0]) (ok := fun _ => True) (okp := fun _ => True) ?hr ?hp (fun _ hk => hk) trivial (Below.refl _ _) (Nat.le_refl _) (by simp) ?_; (case hd => rfl); (case hg => rfl); (case hr => first | (go_simp; done) | (go_simp; rfl)); (case hp => exact (Reps.one (show Kd.M (Kd.int .i64) _ _ _ (wrap64 ((rd l1 0) - 1)) [.int .i64 (wrap64 ((rd l1 0) - 1))] from rfl) (Reps.one (show Kd.M (Kd.int .i64) _ _ _ 0 [.int .i64 0] from rfl) (Reps.none _ _)))); intro v597 w28 ho29 hb hg_ hnew_; clear hg_ hnew_; (first | rw [← Ny596.out] at ho29 | (simp only [Int.reduceToNat] at ho29; rw [← Ny596.out] at ho29)); have n0_ := Aside0.mk (Kd.R_lower ho29 (below_size bl)); have n1_ := Aside0.mk (below_step bl hb); clear HB; have HO598 := n0_; have HB := n1_; clear n0_ n1_; clear hb ho29)); try go_wp2_with (first | ((with_reducible refine gate_dst (N := 67) rfl ?_); refine Kd.R_lit (Kd.int .i64) _ 2 ?hg (N := 67) ?hd (xs := ([wrap64 ((rd l1 0) - 1), 0] : List Int)) (inner := [.int .i64 (wrap64 ((rd l1 0) - 1)), .int .i64 0]) (ok := fun _ => True) (okp := fun _ => True) ?hr ?hp (fun _ hk => hk) trivial (Below.refl _ _) (Nat.le_refl _) (by simp) ?_; (case hd => rfl); (case hg => rfl); (case hr => first | (go_simp; done) | (go_simp; rfl)); (case hp => exact (Reps.one (show Kd.M (Kd.int .i64) _ _ _ (wrap64 ((rd l1 0) - 1)) [.int .i64 (wrap64 ((rd l1 0) - 1))] from rfl) (Reps.one (show Kd.M (Kd.int .i64) _ _ _ 0 [.int .i64 0] from rfl) (Reps.none _ _)))); intro v597 w28 ho29 hb hg_ hnew_; clear hg_ hnew_; (first | rw [← Ny596.out] at ho29 | (simp only [Int.reduceToNat] at ho29; rw [← Ny596.out] at ho29)); have n0_ := Aside0.mk (Kd.R_lower ho29 (below_size bl)); have n1_ := Aside0.mk (below_step bl hb); clear HB; have HO598 := n0_; have HB := n1_; clear n0_ n1_; clear hb ho29)))
           go_ret
           exact ⟨_, by first | rfl | (simp [errW_none, errW_some] <;> rfl) | (simp only [← hji24, ← hji25]; first | rfl | (simp [errW_none, errW_some] <;> rfl)) | (simp [*, errW_none, errW_some] <;> rfl), by (with_reducible repeat (first | apply Kd.R_alloc | apply Kd.R_drewN | apply Kd.R_drew)); exact HO598.out, bl⟩
          ·
           rw [if_neg c27] at H
           have c27b0 : decide ((rd l0 4) ≤ (wrap64 (-(ji25)))) = false := decide_eq_false c27
           clear c27
           obtain ⟨y599, hy599⟩ : ∃ y_ : List Int, y_ = (([(rd l1 0), ji25] : List Int)) := ⟨_, rfl⟩
           replace H : (some y599) = some r := by first | (rw [hy599]; with_reducible exact H) | (have H2_ := (Option.bind_some _ _).symm.trans H; rw [hy599]; with_reducible exact H2_) | (have H2_ := (Option.bind_some _ _).symm.trans H; with_reducible exact H2_) | with_reducible exact H | (rw [hy599]; exact H) | exact H
           have Ny599 := Aside0.mk hy599
           clear hy599
           obtain rfl := Option.some.inj H
           have p595 : 0 ≤ (4 : Int) := (by omega)
           have q595 : 4 < (l0.length : Int) := ode
           obtain ⟨ad595, e595, hx595_0⟩ := Kd.at_int HR0.out 4 p595 q595
           cases e595
           (try simp only [show (4 : Int).toNat = 4 from rfl, Nat.reduceMul, Nat.reduceEqDiff, Go.Addr.add, ↓reduceIte] at hx595_0)
           have qi595 : (4 < l0.length) = True := eq_true (by omega)
           (try rw [show ((4 : Int)).toNat = 4 from rfl] at hx595_0)
           replace hx595_0 := (HB.out.cell (World.block_lt_of_cell? w _ hx595_0)).trans hx595_0
           replace p595 := eq_true p595
           replace q595 := eq_true q595
           go_wp2_with (first | ((with_reducible refine gate_dst (N := 70) rfl ?_); refine Kd.R_lit (Kd.int .i64) _ 2 ?hg (N := 70) ?hd (xs := ([(rd l1 0), ji25] : List Int)) (inner := [.int .i64 (rd l1 0), .int .i64 ji25]) (ok := fun _ => True) (okp := fun _ => True) ?hr ?hp (fun _ hk => hk) trivial (Below.refl _ _) (Nat.le_refl _) (by simp) ?_; (case hd => rfl); (case hg => rfl); (case hr => first | (go_simp; done) | (go_simp; rfl)); (case hp => exact (Reps.one (show Kd.M (Kd.int .i64) _ _ _ (rd l1 0) [.int .i64 (rd l1 0)] from rfl) (Reps.one (show Kd.M (Kd.int .i64) _ _ _ ji25 [.int .i64 ji25] from rfl) (Reps.none _ _)))); intro v600 w30 ho31 hb hg_ hnew_; clear hg_ hnew_; (first | rw [← Ny599.out] at ho31 | (simp only [Int.reduceToNat] at ho31; rw [← Ny599.out] at ho31)); have n0_ := Aside0.mk (Kd.R_lower ho31 (below_size bl)); have n1_ := Aside0.mk (below_step bl hb); clear HB; have HO601 := n0_; have HB := n1_; clear n0_ n1_; clear hb ho31))
           repeat (go_quiet (first | ((with_reducible refine gate_dst (N := 70) rfl ?_); refine Kd.R_lit (Kd.int .i64) _ 2 ?hg (N := 70) ?hd (xs := ([(rd l1 0), ji25] : List Int)) (inner := [.int .i64 (rd l1 0), .int .i64 ji25]) (ok := fun _ => True) (okp := fun _ => True) ?hr ?hp (fun _ hk => hk) trivial (Below.refl _ _) (Nat.le_refl _) (by simp) ?_; (case hd => rfl); (case hg => rfl); (case hr => first | (go_simp; done) | (go_simp; rfl)); (case hp => exact (Reps.one (show Kd.M (Kd.int .i64) _ _ _ (rd l1 0) [.int .i64 (rd l1 0)] from rfl) (Reps.one (show Kd.M (Kd.int .i64) _ _ _ ji25 [.int .i64 ji25] from rfl) (Reps.none _ _)))); intro v600 w30 ho31 hb hg_ hnew_; clear hg_ hnew_; (first | rw [← Ny599.out] at ho31 | (simp only [Int.reduceToNat] at ho31; rw [← Ny599.out] at ho31)); have n0_ := Aside0.mk (Kd.R_lower ho31 (below_size bl)); have n1_ := Aside0.mk (below_step bl hb); clear HB; have HO601 := n0_; have HB := n1_; clear n0_ n1_; clear hb ho31)); try go_wp2_with (first | ((with_reducible refine gate_dst (N := 70) rfl ?_); refine Kd.R_lit (Kd.int .i64) _ 2 ?hg (N := 70) ?hd (xs := ([(rd l1 0), ji25] : List Int)) (inner := [.int .i64 (rd l1 0), .int .i64 ji25]) (ok := fun _ => True) (okp := fun _ => True) ?hr ?hp (fun _ hk => hk) trivial (Below.refl _ _) (Nat.le_refl _) (by simp) ?_; (case hd => rfl); (case hg => rfl); (case hr => first | (go_simp; done) | (go_simp; rfl)); (case hp => exact (Reps.one (show Kd.M (Kd.int .i64) _ _ _ (rd l1 0) [.int .i64 (rd l1 0)] from rfl) (Reps.one (show Kd.M (Kd.int .i64) _ _ _ ji25 [.int .i64 ji25] from rfl) (Reps.none _ _)))); intro v600 w30 ho31 hb hg_ hnew_; clear hg_ hnew_; (first | rw [← Ny599.out] at ho31 | (simp only [Int.reduceToNat] at ho31; rw [← Ny599.out] at ho31)); have n0_ := Aside0.mk (Kd.R_lower ho31 (below_size bl)); have n1_ := Aside0.mk (below_step bl hb); clear HB; have HO601 := n0_; have HB := n1_; clear n0_ n1_; clear hb ho31)))
           go_ret
           exact ⟨_, by first | rfl | (simp [errW_none, errW_some] <;> rfl) | (simp only [← hji24, ← hji25]; first | rfl | (simp [errW_none, errW_some] <;> rfl)) | (simp [*, errW_none, errW_some] <;> rfl), by (with_reducible repeat (first | apply Kd.R_alloc | apply Kd.R_drewN | apply Kd.R_drew)); exact HO601.out, bl⟩
         ·
          rw [if_neg c26] at H
          exact absurd H (by simp)
        ·
         replace c23 := Bool.eq_false_iff.mpr c23
         subst c23
         rw [if_neg (show ¬ (false = true) by decide)] at H
         obtain ⟨y602, hy602⟩ : ∃ y_ : List Int, y_ = (([(rd l1 0), 0] : List Int)) := ⟨_, rfl⟩
         replace H : (some y602) = some r := by first | (rw [hy602]; with_reducible exact H) | (have H2_ := (Option.bind_some _ _).symm.trans H; rw [hy602]; with_reducible exact H2_) | (have H2_ := (Option.bind_some _ _).symm.trans H; with_reducible exact H2_) | with_reducible exact H | (rw [hy602]; exact H) | exact H
         have Ny602 := Aside0.mk hy602
         clear hy602
         obtain rfl := Option.some.inj H
         go_wp2_with (first | ((with_reducible refine gate_dst (N := 72) rfl ?_); refine Kd.R_lit (Kd.int .i64) _ 2 ?hg (N := 72) ?hd (xs := ([(rd l1 0), 0] : List Int)) (inner := [.int .i64 (rd l1 0), .int .i64 0]) (ok := fun _ => True) (okp := fun _ => True) ?hr ?hp (fun _ hk => hk) trivial (Below.refl _ _) (Nat.le_refl _) (by simp) ?_; (case hd => rfl); (case hg => rfl); (case hr => first | (go_simp; done) | (go_simp; rfl)); (case hp => exact (Reps.one (show Kd.M (Kd.int .i64) _ _ _ (rd l1 0) [.int .i64 (rd l1 0)] from rfl) (Reps.one (show Kd.M (Kd.int .i64) _ _ _ 0 [.int .i64 0] from rfl) (Reps.none _ _)))); intro v603 w32 ho33 hb hg_ hnew_; clear hg_ hnew_; (first | rw [← Ny602.out] at ho33 | (simp only [Int.reduceToNat] at ho33; rw [← Ny602.out] at ho33)); have n0_ := Aside0.mk (Kd.R_lower ho33 (below_size bl)); have n1_ := Aside0.mk (below_step bl hb); clear HB; have HO604 := n0_; have HB := n1_; clear n0_ n1_; clear hb ho33))
         repeat (go_quiet (first | ((with_reducible refine gate_dst (N := 72) rfl ?_); refine Kd.R_lit (Kd.int .i64) _ 2 ?hg (N := 72) ?hd (xs := ([(rd l1 0), 0] : List Int)) (inner := [.int .i64 (rd l1 0), .int .i64 0]) (ok := fun _ => True) (okp := fun _ => True) ?hr ?hp (fun _ hk => hk) trivial (Below.refl _ _) (Nat.le_refl _) (by simp) ?_; (case hd => rfl); (case hg => rfl); (case hr => first | (go_simp; done) | (go_simp; rfl)); (case hp => exact (Reps.one (show Kd.M (Kd.int .i64) _ _ _ (rd l1 0) [.int .i64 (rd l1 0)] from rfl) (Reps.one (show Kd.M (Kd.int .i64) _ _ _ 0 [.int .i64 0] from rfl) (Reps.none _ _)))); intro v603 w32 ho33 hb hg_ hnew_; clear hg_ hnew_; (first | rw [← Ny602.out] at ho33 | (simp only [Int.reduceToNat] at ho33; rw [← Ny602.out] at ho33)); have n0_ := Aside0.mk (Kd.R_lower ho33 (below_size bl)); have n1_ := Aside0.mk (below_step bl hb); clear HB; have HO604 := n0_; have HB := n1_; clear n0_ n1_; clear hb ho33)); try go_wp2_with (first | ((with_reducible refine gate_dst (N := 72) rfl ?_); refine Kd.R_lit (Kd.int .i64) _ 2 ?hg (N := 72) ?hd (xs := ([(rd l1 0), 0] : List Int)) (inner := [.int .i64 (rd l1 0), .int .i64 0]) (ok := fun _ => True) (okp := fun _ => True) ?hr ?hp (fun _ hk => hk) trivial (Below.refl _ _) (Nat.le_refl _) (by simp) ?_; (case hd => rfl); (case hg => rfl); (case hr => first | (go_simp; done) | (go_simp; rfl)); (case hp => exact (Reps.one (show Kd.M (Kd.int .i64) _ _ _ (rd l1 0) [.int .i64 (rd l1 0)] from rfl) (Reps.one (show Kd.M (Kd.int .i64) _ _ _ 0 [.int .i64 0] from rfl) (Reps.none _ _)))); intro v603 w32 ho33 hb hg_ hnew_; clear hg_ hnew_; (first | rw [← Ny602.out] at ho33 | (simp only [Int.reduceToNat] at ho33; rw [← Ny602.out] at ho33)); have n0_ := Aside0.mk (Kd.R_lower ho33 (below_size bl)); have n1_ := Aside0.mk (below_step bl hb); clear HB; have HO604 := n0_; have HB := n1_; clear n0_ n1_; clear hb ho33)))
         go_ret
         exact ⟨_, by first | rfl | (simp [errW_none, errW_some] <;> rfl) | (simp [*, errW_none, errW_some] <;> rfl), by (with_reducible repeat (first | apply Kd.R_alloc | apply Kd.R_drewN | apply Kd.R_drew)); exact HO604.out, bl⟩
  ·
   rw [if_neg c6] at H
   exact absurd H (by simp)
 ·
  rw [if_neg c5] at H
  exact absurd H (by simp)

end Go.Proofs.YtcpncmjjbfbdhaaDoor.R
