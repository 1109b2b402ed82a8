import Derived.Test.YtjjbdgngncgikaaGreatDoorRx0
import Derived.Test.YtjjbdgngncgikaaGreatDoorRx13
namespace Go.Proofs.YtjjbdgngncgikaaGreatDoor.R
open Go.RowKit Go.Proofs.YtjjbdgngncgikaaGreatDoorW.PrintWords Go.Proofs.YtjjbdgngncgikaaGreatDoorW.PrintLast Go.Proofs.YtjjbdgngncgikaaGreatDoorW.PrintMore
attribute [local go_sem] max2_int min2_int max_two min_two max_three min_three max_four min_four
set_option linter.unusedVariables false
set_option linter.unusedSimpArgs false

mutual
def plenumref19_Typed.l0 : Nat → ByteArray → List (S26) → Int → Option (Bool)
 | 0, _, _, _ => none
 | k + 1, x0, x1, x5 => if x5 < (x1.length : Int) then (if x0.toList = ([104, 121, 115, 116] : List UInt8) then (if 0 ≤ x5 then (plenumref19_Typed.j1 k x0 x1 x5 (((rd_T26 x1 x5).f0) != 1)) else (none)) else (plenumref19_Typed.j1 k x0 x1 x5 false)) else (some true)
def plenumref19_Typed.j1 : Nat → ByteArray → List (S26) → Int → Bool → Option (Bool)
 | 0, _, _, _, _ => none
 | k + 1, x0, x1, x5, x21 => if x21 = true then (some false) else (if x0.toList = ([104, 121, 115, 116] : List UInt8) then (plenumref19_Typed.l0 k x0 x1 (wrap64 (x5 + 1))) else (if 0 ≤ x5 then (if x5 < (x1.length : Int) then (if ((rd_T26 x1 x5).f0) = 2 then (if ((rd_T26 x1 x5).f1) = 0 then (plenumref19_Typed.l0 k x0 x1 (wrap64 (x5 + 1))) else (if ((rd_T26 x1 x5).f1) = 1 then (plenumref19_Typed.l0 k x0 x1 (wrap64 (x5 + 1))) else (some false))) else (some false)) else (none)) else (none)))
end
def plenumref19_Typed.f (k : Nat) (a0 : ByteArray) (l1 : List (S26)) : Option (Bool) := plenumref19_Typed.l0 k a0 l1 0
theorem plenumref19_Typed.mono_l : ∀ k, (∀ y0 y1 y2, LeO (plenumref19_Typed.l0 k y0 y1 y2) (plenumref19_Typed.l0 (k + 1) y0 y1 y2)) ∧ (∀ y0 y1 y2 y3, LeO (plenumref19_Typed.j1 k y0 y1 y2 y3) (plenumref19_Typed.j1 (k + 1) y0 y1 y2 y3))
 | 0 => ⟨fun _ _ _ r h => by simp [plenumref19_Typed.l0] at h, fun _ _ _ _ r h => by simp [plenumref19_Typed.j1] at h⟩
 | k + 1 => by
  obtain ⟨ih0, ih1⟩ := plenumref19_Typed.mono_l k
  refine ⟨?_, ?_⟩
  ·
   intro y0 y1 y2
   unfold plenumref19_Typed.l0
   repeat' first
   | (with_reducible exact ih0 _ _ _)
   | (with_reducible exact ih1 _ _ _ _)
   | (with_reducible exact LeO.refl _)
   | (with_reducible exact LeO.none _)
   | (with_reducible refine LeO.ite ?_ ?_)
   | (with_reducible refine LeO.bind ?_ (fun _ => ?_))
   | exact LeO.none _
   | refine LeO.ite ?_ ?_
   | refine LeO.bind ?_ (fun _ => ?_)
  ·
   intro y0 y1 y2 y3
   unfold plenumref19_Typed.j1
   repeat' first
   | (with_reducible exact ih0 _ _ _)
   | (with_reducible exact ih1 _ _ _ _)
   | (with_reducible exact LeO.refl _)
   | (with_reducible exact LeO.none _)
   | (with_reducible refine LeO.ite ?_ ?_)
   | (with_reducible refine LeO.bind ?_ (fun _ => ?_))
   | exact LeO.none _
   | refine LeO.ite ?_ ?_
   | refine LeO.bind ?_ (fun _ => ?_)
theorem plenumref19_Typed.mono : ∀ a0 a1 k, LeO (plenumref19_Typed.f k a0 a1) (plenumref19_Typed.f (k + 1) a0 a1) := by
 intro a0 a1 k
 obtain ⟨ih0, ih1⟩ := plenumref19_Typed.mono_l k
 unfold plenumref19_Typed.f
 repeat' first
   | (with_reducible exact ih0 _ _ _)
   | (with_reducible exact ih1 _ _ _ _)
   | (with_reducible exact LeO.refl _)
   | (with_reducible exact LeO.none _)
   | (with_reducible refine LeO.ite ?_ ?_)
   | (with_reducible refine LeO.bind ?_ (fun _ => ?_))
   | exact LeO.none _
   | refine LeO.ite ?_ ?_
   | refine LeO.bind ?_ (fun _ => ?_)
set_option maxHeartbeats 8000000 in
set_option maxRecDepth 100000 in
theorem plenumref19_Typed.calls (k : Nat) (a0 : ByteArray) (A1 : Option Addr) (c1 : Nat) (l1 : List (S26)) (r : Bool) (w : World) (hr1 : Kd.C k26 w A1 l1.length l1) (hc1 : l1.length ≤ c1) (h : plenumref19_Typed.f k a0 l1 = some r) :
  Calls Tryz.prog 38 #[.string a0, .slice A1 l1.length c1] w fun e w' => e = .returned (.bool r) ∧ Drawn0 w w' := by
 have HR1 := am hr1
 have HC1 := am hc1
 clear hr1 hc1
 have H : (plenumref19_Typed.l0 k a0 l1 0) = some r := h
 clear h
 have H' := am H
 clear H
 go_enter Tryz.func38, Tryz.ntmps38
 go_wp2
 go_loopg [5] k (fun kq v5 w' => ∃ (x5_1 : Int), v5 = .int .i64 x5_1 ∧ Aside0 (plenumref19_Typed.l0 kq a0 l1 x5_1 = some r) ∧ Aside0 (kq ≤ k) ∧ Drawn0 w w')
 case atStart => exact ⟨(0), (by first | rfl | (simp; done) | (simp [*]; done)), H', ⟨Nat.le_refl _⟩, by repeat (first | exact Drawn0.refl _ | apply Drawn0.step)⟩
 case round =>
  clear H'
  obtain ⟨x5_1, rfl, HA, HK1, ⟨m1, rfl⟩⟩ := hrel
  cases gk with
  | zero => exact absurd HA.out (by simp [plenumref19_Typed.l0])
  | succ k1 =>
   have H := HA.out
   clear HA
   simp only [plenumref19_Typed.l0] at H
   by_cases c3 : x5_1 < (l1.length : Int)
   rotate_left
   ·
    rw [if_neg c3] at H
    have c3b0 := decide_eq_false c3
    clear c3
    obtain rfl := Option.some.inj H
    go_wp2
    go_ret
    exact ⟨by first | rfl | (simp; done) | (simp [*]; done), by repeat (first | exact Drawn0.refl _ | apply Drawn0.step)⟩
   rw [if_pos c3] at H
   have c3b0 := decide_eq_true c3
   clear c3
   have HC4 := am H
   clear H
   go_upto_region 4 with (fail)
   go_cut [21] (fun v21 wc => ∃ (kq : Nat) (x21_3 : Bool), v21 = .bool x21_3 ∧ Aside0 (plenumref19_Typed.j1 kq a0 l1 x5_1 x21_3 = some r) ∧ Aside0 (kq ≤ k1) ∧ Drawn0 w wc)
   case first =>
    have H := HC4.out
    clear HC4
    by_cases c5 : a0.toList = ([104, 121, 115, 116] : List UInt8)
    rotate_left
    ·
     rw [if_neg c5] at H
     have c5b0 := beq_eq_false_iff_ne.mpr c5
     have c5b1 := bne_iff_ne.mpr c5
     (first | rw [c5b0] | (simp only [i64_w, i32_w]; rw [c5b0]) | skip)
     have H' := am H
     clear H
     go_wp2
     go_meet
     case rel => exact ⟨_, (false), (by first | rfl | (simp; done) | (simp [*]; done)), H', ⟨by have := HK1.out; first | omega | exact Nat.le_refl _⟩, by repeat (first | exact Drawn0.refl _ | apply Drawn0.step)⟩
    rw [if_pos c5] at H
    have c5b0 := beq_iff_eq.mpr c5
    have c5b1 := bne_eq_false_iff_eq.mpr c5
    clear c5
    (first | rw [c5b0] | (simp only [i64_w, i32_w]; rw [c5b0]) | skip)
    have c6 := oi H; rw [if_pos c6] at H
    have c6b0 := decide_eq_true c6
    clear c6
    have H' := am H
    clear H
    have q513 := ixv (i := x5_1) (n := l1.length) ode ode; obtain ⟨ad513, e513, hx513_0, hx513_1⟩ := at_T26 HR1.out x5_1 (of_eq_true q513.1) (of_eq_true q513.2); cases e513; obtain ⟨p513, q513⟩ := q513
    go_wp2
    go_meet
    case rel => exact ⟨_, ((((rd_T26 l1 x5_1).f0) != 1)), (by first | rfl | (simp; done) | (simp [*]; done)), H', ⟨by have := HK1.out; first | omega | exact Nat.le_refl _⟩, by repeat (first | exact Drawn0.refl _ | apply Drawn0.step)⟩
   clear HC4
   obtain ⟨kq, x21_3, rfl, HA, HJ3, ⟨mc3, rfl⟩⟩ := hcut
   cases kq with
   | zero => exact absurd HA.out (by simp [plenumref19_Typed.j1])
   | succ kj3 =>
    have H := HA.out
    clear HA
    simp only [plenumref19_Typed.j1] at H
    by_cases c7 : x21_3 = true
    ·
     subst c7
     rw [if_pos rfl] at H
     obtain rfl := Option.some.inj H
     go_wp2
     go_ret
     exact ⟨by first | rfl | (simp; done) | (simp [*]; done), by repeat (first | exact Drawn0.refl _ | apply Drawn0.step)⟩
    replace c7 := Bool.eq_false_iff.mpr c7
    subst c7
    rw [if_neg (show ¬ (false = true) by decide)] at H
    by_cases c8 : a0.toList = ([104, 121, 115, 116] : List UInt8)
    ·
     rw [if_pos c8] at H
     have c8b0 := beq_iff_eq.mpr c8
     have c8b1 := bne_eq_false_iff_eq.mpr c8
     clear c8
     have H' := am H
     clear H
     go_wp2
     go_roundg kj3
     case measure => have := HK1.out; have := HJ3.out; omega
     case rel => exact ⟨(wrap64 (x5_1 + 1)), (by first | rfl | (simp; done) | (simp [*]; done)), H', ⟨by have := HK1.out; have := HJ3.out; omega⟩, by repeat (first | exact Drawn0.refl _ | apply Drawn0.step)⟩
    rw [if_neg c8] at H
    have c8b0 := beq_eq_false_iff_ne.mpr c8
    have c8b1 := bne_iff_ne.mpr c8
    have c9 := oi H; rw [if_pos c9] at H
    have c9b0 := decide_eq_true c9
    clear c9
    have c10 := oi H; rw [if_pos c10] at H
    have c10b0 := decide_eq_true c10
    clear c10
    by_cases c11 : ((rd_T26 l1 x5_1).f0) = 2
    rotate_left
    ·
     rw [if_neg c11] at H
     have c11b0 := beq_eq_false_iff_ne.mpr c11
     have c11b1 := bne_iff_ne.mpr c11
     obtain rfl := Option.some.inj H
     have q514 := ixv (i := x5_1) (n := l1.length) ode ode; obtain ⟨ad514, e514, hx514_0, hx514_1⟩ := at_T26 HR1.out x5_1 (of_eq_true q514.1) (of_eq_true q514.2); cases e514; obtain ⟨p514, q514⟩ := q514
     go_wp2
     go_ret
     exact ⟨by first | rfl | (simp; done) | (simp [*]; done), by repeat (first | exact Drawn0.refl _ | apply Drawn0.step)⟩
    rw [if_pos c11] at H
    have c11b0 := beq_iff_eq.mpr c11
    have c11b1 := bne_eq_false_iff_eq.mpr c11
    clear c11
    by_cases c12 : ((rd_T26 l1 x5_1).f1) = 0
    ·
     rw [if_pos c12] at H
     have c12b0 := beq_iff_eq.mpr c12
     have c12b1 := bne_eq_false_iff_eq.mpr c12
     clear c12
     have H' := am H
     clear H
     have q514 := ixv (i := x5_1) (n := l1.length) ode ode; obtain ⟨ad514, e514, hx514_0, hx514_1⟩ := at_T26 HR1.out x5_1 (of_eq_true q514.1) (of_eq_true q514.2); cases e514; obtain ⟨p514, q514⟩ := q514; have q515 := ixv (i := x5_1) (n := l1.length) ode ode; obtain ⟨ad515, e515, hx515_0, hx515_1⟩ := at_T26 HR1.out x5_1 (of_eq_true q515.1) (of_eq_true q515.2); obtain rfl : ad514 = ad515 := (by injection e515); obtain ⟨p515, q515⟩ := q515
     go_wp2
     go_roundg kj3
     case measure => have := HK1.out; have := HJ3.out; omega
     case rel => exact ⟨(wrap64 (x5_1 + 1)), (by first | rfl | (simp; done) | (simp [*]; done)), H', ⟨by have := HK1.out; have := HJ3.out; omega⟩, by repeat (first | exact Drawn0.refl _ | apply Drawn0.step)⟩
    rw [if_neg c12] at H
    have c12b0 := beq_eq_false_iff_ne.mpr c12
    have c12b1 := bne_iff_ne.mpr c12
    by_cases c13 : ((rd_T26 l1 x5_1).f1) = 1
    rotate_left
    ·
     rw [if_neg c13] at H
     have c13b0 := beq_eq_false_iff_ne.mpr c13
     have c13b1 := bne_iff_ne.mpr c13
     obtain rfl := Option.some.inj H
     have q514 := ixv (i := x5_1) (n := l1.length) ode ode; obtain ⟨ad514, e514, hx514_0, hx514_1⟩ := at_T26 HR1.out x5_1 (of_eq_true q514.1) (of_eq_true q514.2); cases e514; obtain ⟨p514, q514⟩ := q514; have q515 := ixv (i := x5_1) (n := l1.length) ode ode; obtain ⟨ad515, e515, hx515_0, hx515_1⟩ := at_T26 HR1.out x5_1 (of_eq_true q515.1) (of_eq_true q515.2); obtain rfl : ad514 = ad515 := (by injection e515); obtain ⟨p515, q515⟩ := q515; have q516 := ixv (i := x5_1) (n := l1.length) ode ode; obtain ⟨ad516, e516, hx516_0, hx516_1⟩ := at_T26 HR1.out x5_1 (of_eq_true q516.1) (of_eq_true q516.2); obtain rfl : ad514 = ad516 := (by injection e516); obtain ⟨p516, q516⟩ := q516
     go_wp2
     go_ret
     exact ⟨by first | rfl | (simp; done) | (simp [*]; done), by repeat (first | exact Drawn0.refl _ | apply Drawn0.step)⟩
    rw [if_pos c13] at H
    have c13b0 := beq_iff_eq.mpr c13
    have c13b1 := bne_eq_false_iff_eq.mpr c13
    clear c13
    have H' := am H
    clear H
    have q514 := ixv (i := x5_1) (n := l1.length) ode ode; obtain ⟨ad514, e514, hx514_0, hx514_1⟩ := at_T26 HR1.out x5_1 (of_eq_true q514.1) (of_eq_true q514.2); cases e514; obtain ⟨p514, q514⟩ := q514; have q515 := ixv (i := x5_1) (n := l1.length) ode ode; obtain ⟨ad515, e515, hx515_0, hx515_1⟩ := at_T26 HR1.out x5_1 (of_eq_true q515.1) (of_eq_true q515.2); obtain rfl : ad514 = ad515 := (by injection e515); obtain ⟨p515, q515⟩ := q515; have q516 := ixv (i := x5_1) (n := l1.length) ode ode; obtain ⟨ad516, e516, hx516_0, hx516_1⟩ := at_T26 HR1.out x5_1 (of_eq_true q516.1) (of_eq_true q516.2); obtain rfl : ad514 = ad516 := (by injection e516); obtain ⟨p516, q516⟩ := q516
    go_wp2
    go_roundg kj3
    case measure => have := HK1.out; have := HJ3.out; omega
    case rel => exact ⟨(wrap64 (x5_1 + 1)), (by first | rfl | (simp; done) | (simp [*]; done)), H', ⟨by have := HK1.out; have := HJ3.out; omega⟩, by repeat (first | exact Drawn0.refl _ | apply Drawn0.step)⟩
def plenumref19_Check.j0 : Nat → ByteArray → List (S26) → Bool → Option (Int)
 | 0, _, _, _ => none
 | k + 1, x0, x3, x39 => if x39 = true then (some 1) else ((plenumref19_Typed.f k x0 x3).bind fun t521 => (if t521 = true then (some 0) else (some 11)))
def plenumref19_Check.f (k : Nat) (a0 : ByteArray) (l1 : List Int) (l2 : List Int) (l3 : List (S26)) (a4 : Int) : Option (Int) := (plenumref19_Known.f k a0).bind fun t517 => (if t517 = true then ((plenumref19_Formed.f a0 l1).bind fun t518 => (if t518 = true then ((plenumref19_Possible.f k a0 l1 l2).bind fun t519 => (if t519 = true then (if a4 < 1 then (plenumref19_Check.j0 k a0 l3 true) else (if a4 > 86400 then (plenumref19_Check.j0 k a0 l3 true) else ((plenumref19_Count.f a0).bind fun t520 => (plenumref19_Check.j0 k a0 l3 ((l3.length : Int) != t520))))) else (plenumref19_Check.j0 k a0 l3 true))) else (plenumref19_Check.j0 k a0 l3 true))) else (some 3))
theorem plenumref19_Check.mono_l : ∀ k, (∀ y0 y1 y2, LeO (plenumref19_Check.j0 k y0 y1 y2) (plenumref19_Check.j0 (k + 1) y0 y1 y2))
 | 0 => fun _ _ _ r h => by simp [plenumref19_Check.j0] at h
 | k + 1 => by
  have ih0 := plenumref19_Check.mono_l k
  ·
   intro y0 y1 y2
   unfold plenumref19_Check.j0
   repeat' first
   | (with_reducible exact ih0 _ _ _)
   | (with_reducible exact plenumref19_Known.mono _ _)
   | (with_reducible exact plenumref19_Possible.mono _ _ _ _)
   | (with_reducible exact plenumref19_Typed.mono _ _ _)
   | (with_reducible exact LeO.refl _)
   | (with_reducible exact LeO.none _)
   | (with_reducible refine LeO.ite ?_ ?_)
   | (with_reducible refine LeO.bind ?_ (fun _ => ?_))
   | exact LeO.none _
   | refine LeO.ite ?_ ?_
   | refine LeO.bind ?_ (fun _ => ?_)
theorem plenumref19_Check.mono : ∀ a0 a1 a2 a3 a4 k, LeO (plenumref19_Check.f k a0 a1 a2 a3 a4) (plenumref19_Check.f (k + 1) a0 a1 a2 a3 a4) := by
 intro a0 a1 a2 a3 a4 k
 have ih0 := plenumref19_Check.mono_l k
 unfold plenumref19_Check.f
 repeat' first
   | (with_reducible exact ih0 _ _ _)
   | (with_reducible exact plenumref19_Known.mono _ _)
   | (with_reducible exact plenumref19_Possible.mono _ _ _ _)
   | (with_reducible exact plenumref19_Typed.mono _ _ _)
   | (with_reducible exact LeO.refl _)
   | (with_reducible exact LeO.none _)
   | (with_reducible refine LeO.ite ?_ ?_)
   | (with_reducible refine LeO.bind ?_ (fun _ => ?_))
   | exact LeO.none _
   | refine LeO.ite ?_ ?_
   | refine LeO.bind ?_ (fun _ => ?_)
set_option maxHeartbeats 8000000 in
set_option maxRecDepth 100000 in
theorem plenumref19_Check.calls (k : Nat) (a0 : ByteArray) (A1 : Option Addr) (c1 : Nat) (l1 : List Int) (A2 : Option Addr) (c2 : Nat) (l2 : List Int) (A3 : Option Addr) (c3 : Nat) (l3 : List (S26)) (a4 : Int) (r : Int) (w : World) (hr1 : Kd.C (Kd.int .i64) w A1 l1.length l1) (hc1 : l1.length ≤ c1) (hr2 : Kd.C (Kd.int .i64) w A2 l2.length l2) (hc2 : l2.length ≤ c2) (hr3 : Kd.C k26 w A3 l3.length l3) (hc3 : l3.length ≤ c3) (h : plenumref19_Check.f k a0 l1 l2 l3 a4 = some r) :
  Calls Tryz.prog 20 #[.string a0, .slice A1 l1.length c1, .slice A2 l2.length c2, .slice A3 l3.length c3, .int .i64 a4] w fun e w' => e = .returned (.int .i64 r) ∧ Below w.heap.size w w' := by
 have HR1 := am hr1
 have HC1 := am hc1
 clear hr1 hc1
 have HR2 := am hr2
 have HC2 := am hc2
 clear hr2 hc2
 have HR3 := am hr3
 have HC3 := am hc3
 clear hr3 hc3
 have HB := am (Below.refl w.heap.size w)
 have H : ((plenumref19_Known.f k a0).bind fun t517 => (if t517 = true then ((plenumref19_Formed.f a0 l1).bind fun t518 => (if t518 = true then ((plenumref19_Possible.f k a0 l1 l2).bind fun t519 => (if t519 = true then (if a4 < 1 then (plenumref19_Check.j0 k a0 l3 true) else (if a4 > 86400 then (plenumref19_Check.j0 k a0 l3 true) else ((plenumref19_Count.f a0).bind fun t520 => (plenumref19_Check.j0 k a0 l3 ((l3.length : Int) != t520))))) else (plenumref19_Check.j0 k a0 l3 true))) else (plenumref19_Check.j0 k a0 l3 true))) else (some 3))) = some r := h
 clear h
 obtain ⟨t517, A6, H⟩ := Option.bind_eq_some_iff.mp H
 (try dsimp only at H)
 replace A6 := am A6
 by_cases c7 : t517 = true
 rotate_left
 ·
  replace c7 := Bool.eq_false_iff.mpr c7
  subst c7
  rw [if_neg (show ¬ (false = true) by decide)] at H
  obtain rfl := Option.some.inj H
  go_enter Tryz.func20, Tryz.ntmps20
  go_wp2_with (first | ((refine gate_callee (f := 35) rfl ?_); refine gl (some 12) Tryz.func35 #[.string a0] ?_; (with_reducible refine (plenumref19_Known.calls k a0 false _ A6.out).mono ?_); rintro e w20 ⟨rfl, hb⟩; refine ⟨_, rfl, ?_⟩; replace HB := am (below_step bl hb); (try clear hb); (try clear hb2); (try clear hk); (try clear hi)))
  go_ret
  exact ⟨ew, bl⟩
 subst c7
 rw [if_pos rfl] at H
 have HC8 := am H
 clear H
 go_enter Tryz.func20, Tryz.ntmps20
 go_upto_region 3 with (first | ((refine gate_callee (f := 35) rfl ?_); refine gl (some 12) Tryz.func35 #[.string a0] ?_; (with_reducible refine (plenumref19_Known.calls k a0 true _ A6.out).mono ?_); rintro e w9 ⟨rfl, hb⟩; refine ⟨_, rfl, ?_⟩; replace HB := am (below_step bl hb); (try clear hb); (try clear hb2); (try clear hk); (try clear hi)))
 (try simp only [ap, sa, sb, sc])
 go_cut [39] (fun v39 wc => ∃ (kq : Nat) (x39_7 : Bool), v39 = .bool x39_7 ∧ Aside0 (plenumref19_Check.j0 kq a0 l3 x39_7 = some r) ∧ Aside0 (kq ≤ k) ∧ Aside0 (Below w.heap.size w wc))
 case first =>
  have H := HC8.out
  clear HC8
  obtain ⟨t518, A10, H⟩ := Option.bind_eq_some_iff.mp H
  (try dsimp only at H)
  replace A10 := am A10
  by_cases c11 : t518 = true
  rotate_left
  ·
   replace c11 := Bool.eq_false_iff.mpr c11
   subst c11
   rw [if_neg (show ¬ (false = true) by decide)] at H
   have H' := am H
   clear H
   go_wp2_with (first | ((refine gate_callee (f := 36) rfl ?_); refine gl (some 16) Tryz.func36 #[.string a0, .slice A1 l1.length c1] ?_; (with_reducible refine (plenumref19_Formed.calls a0 _ _ l1 false _ ?side1 ?side2 A10.out).mono ?_); (case side1 => exact cc (Kd.C_below HR1.out HB.out)); (case side2 => exact HC1.out); rintro e w' ⟨rfl, ⟨nd, rfl⟩⟩; refine ⟨_, rfl, ?_⟩))
   go_meet
   case rel => exact ⟨_, (true), (by first | rfl | (simp; done) | (simp [*]; done)), H', ⟨by first | omega | exact Nat.le_refl _⟩, ⟨bl⟩⟩
  subst c11
  rw [if_pos rfl] at H
  obtain ⟨t519, A12, H⟩ := Option.bind_eq_some_iff.mp H
  (try dsimp only at H)
  replace A12 := am A12
  by_cases c13 : t519 = true
  rotate_left
  ·
   replace c13 := Bool.eq_false_iff.mpr c13
   subst c13
   rw [if_neg (show ¬ (false = true) by decide)] at H
   have H' := am H
   clear H
   go_wp2_with (first | ((refine gate_callee (f := 36) rfl ?_); refine gl (some 16) Tryz.func36 #[.string a0, .slice A1 l1.length c1] ?_; (with_reducible refine (plenumref19_Formed.calls a0 _ _ l1 true _ ?side1 ?side2 A10.out).mono ?_); (case side1 => exact cc (Kd.C_below HR1.out HB.out)); (case side2 => exact HC1.out); rintro e w' ⟨rfl, ⟨nd, rfl⟩⟩; refine ⟨_, rfl, ?_⟩) | (go_at_call 9; (with_reducible refine (plenumref19_Possible.calls k a0 _ _ l1 _ _ l2 false _ ?side1 ?side2 ?side3 ?side4 A12.out).mono ?_); (case side1 => exact cc (Kd.C_below HR1.out bl)); (case side2 => exact HC1.out); (case side3 => exact cc (Kd.C_below HR2.out bl)); (case side4 => exact HC2.out); rintro e w' ⟨rfl, ⟨nd, rfl⟩⟩))
   go_meet
   case rel => exact ⟨_, (true), (by first | rfl | (simp; done) | (simp [*]; done)), H', ⟨by first | omega | exact Nat.le_refl _⟩, ⟨bl⟩⟩
  subst c13
  rw [if_pos rfl] at H
  by_cases c14 : a4 < 1
  ·
   rw [if_pos c14] at H
   have c14b0 := decide_eq_true c14
   clear c14
   (first | rw [c14b0] | (simp only [i64_w, i32_w]; rw [c14b0]) | skip)
   have H' := am H
   clear H
   go_wp2_with (first | ((refine gate_callee (f := 36) rfl ?_); refine gl (some 16) Tryz.func36 #[.string a0, .slice A1 l1.length c1] ?_; (with_reducible refine (plenumref19_Formed.calls a0 _ _ l1 true _ ?side1 ?side2 A10.out).mono ?_); (case side1 => exact cc (Kd.C_below HR1.out HB.out)); (case side2 => exact HC1.out); rintro e w' ⟨rfl, ⟨nd, rfl⟩⟩; refine ⟨_, rfl, ?_⟩) | (go_at_call 9; (with_reducible refine (plenumref19_Possible.calls k a0 _ _ l1 _ _ l2 true _ ?side1 ?side2 ?side3 ?side4 A12.out).mono ?_); (case side1 => exact cc (Kd.C_below HR1.out bl)); (case side2 => exact HC1.out); (case side3 => exact cc (Kd.C_below HR2.out bl)); (case side4 => exact HC2.out); rintro e w' ⟨rfl, ⟨nd, rfl⟩⟩))
   go_meet
   case rel => exact ⟨_, (true), (by first | rfl | (simp; done) | (simp [*]; done)), H', ⟨by first | omega | exact Nat.le_refl _⟩, ⟨bl⟩⟩
  rw [if_neg c14] at H
  have c14b0 := decide_eq_false c14
  clear c14
  (first | rw [c14b0] | (simp only [i64_w, i32_w]; rw [c14b0]) | skip)
  by_cases c15 : a4 > 86400
  ·
   rw [if_pos c15] at H
   have c15b0 : decide (86400 < a4) = true := decide_eq_true c15
   clear c15
   have H' := am H
   clear H
   go_wp2_with (first | ((refine gate_callee (f := 36) rfl ?_); refine gl (some 16) Tryz.func36 #[.string a0, .slice A1 l1.length c1] ?_; (with_reducible refine (plenumref19_Formed.calls a0 _ _ l1 true _ ?side1 ?side2 A10.out).mono ?_); (case side1 => exact cc (Kd.C_below HR1.out HB.out)); (case side2 => exact HC1.out); rintro e w' ⟨rfl, ⟨nd, rfl⟩⟩; refine ⟨_, rfl, ?_⟩) | (go_at_call 9; (with_reducible refine (plenumref19_Possible.calls k a0 _ _ l1 _ _ l2 true _ ?side1 ?side2 ?side3 ?side4 A12.out).mono ?_); (case side1 => exact cc (Kd.C_below HR1.out bl)); (case side2 => exact HC1.out); (case side3 => exact cc (Kd.C_below HR2.out bl)); (case side4 => exact HC2.out); rintro e w' ⟨rfl, ⟨nd, rfl⟩⟩))
   go_meet
   case rel => exact ⟨_, (true), (by first | rfl | (simp; done) | (simp [*]; done)), H', ⟨by first | omega | exact Nat.le_refl _⟩, ⟨bl⟩⟩
  rw [if_neg c15] at H
  have c15b0 : decide (86400 < a4) = false := decide_eq_false c15
  clear c15
  obtain ⟨t520, A16, H⟩ := Option.bind_eq_some_iff.mp H
  (try dsimp only at H)
  replace A16 := am A16
  have H' := am H
  clear H
  go_wp2_with (first | ((refine gate_callee (f := 36) rfl ?_); refine gl (some 16) Tryz.func36 #[.string a0, .slice A1 l1.length c1] ?_; (with_reducible refine (plenumref19_Formed.calls a0 _ _ l1 true _ ?side1 ?side2 A10.out).mono ?_); (case side1 => exact cc (Kd.C_below HR1.out HB.out)); (case side2 => exact HC1.out); rintro e w' ⟨rfl, ⟨nd, rfl⟩⟩; refine ⟨_, rfl, ?_⟩) | (go_at_call 9; (with_reducible refine (plenumref19_Possible.calls k a0 _ _ l1 _ _ l2 true _ ?side1 ?side2 ?side3 ?side4 A12.out).mono ?_); (case side1 => exact cc (Kd.C_below HR1.out bl)); (case side2 => exact HC1.out); (case side3 => exact cc (Kd.C_below HR2.out bl)); (case side4 => exact HC2.out); rintro e w' ⟨rfl, ⟨nd, rfl⟩⟩) | (go_at_call 37; (with_reducible refine (plenumref19_Count.calls a0 t520 _ A16.out).mono ?_); rintro e w' ⟨rfl, ⟨nd, rfl⟩⟩))
  go_meet
  case rel => exact ⟨_, (((l3.length : Int) != t520)), (by first | rfl | (simp; done) | (simp [*]; done)), H', ⟨by first | omega | exact Nat.le_refl _⟩, ⟨bl⟩⟩
 clear HC8
 obtain ⟨kq, x39_7, rfl, HA, HJ7, HB⟩ := hcut
 cases kq with
 | zero => exact absurd HA.out (by simp [plenumref19_Check.j0])
 | succ kj7 =>
  have H := HA.out
  clear HA
  simp only [plenumref19_Check.j0] at H
  by_cases c17 : x39_7 = true
  ·
   subst c17
   rw [if_pos rfl] at H
   obtain rfl := Option.some.inj H
   go_wp2
   go_ret
   exact ⟨ew, bl⟩
  replace c17 := Bool.eq_false_iff.mpr c17
  subst c17
  rw [if_neg (show ¬ (false = true) by decide)] at H
  obtain ⟨t521, A18, H⟩ := Option.bind_eq_some_iff.mp H
  (try dsimp only at H)
  replace A18 := am A18
  by_cases c19 : t521 = true
  ·
   subst c19
   rw [if_pos rfl] at H
   obtain rfl := Option.some.inj H
   go_wp2_with (first | ((refine gate_callee (f := 38) rfl ?_); refine gl (some 42) Tryz.func38 #[.string a0, .slice A3 l3.length c3] ?_; (with_reducible refine (plenumref19_Typed.calls kj7 a0 _ _ l3 true _ ?side1 ?side2 A18.out).mono ?_); (case side1 => exact cc (Kd.C_below HR3.out HB.out)); (case side2 => exact HC3.out); rintro e w' ⟨rfl, ⟨nd, rfl⟩⟩; refine ⟨_, rfl, ?_⟩))
   go_ret
   exact ⟨ew, bl⟩
  replace c19 := Bool.eq_false_iff.mpr c19
  subst c19
  rw [if_neg (show ¬ (false = true) by decide)] at H
  obtain rfl := Option.some.inj H
  go_wp2_with (first | ((refine gate_callee (f := 38) rfl ?_); refine gl (some 42) Tryz.func38 #[.string a0, .slice A3 l3.length c3] ?_; (with_reducible refine (plenumref19_Typed.calls kj7 a0 _ _ l3 false _ ?side1 ?side2 A18.out).mono ?_); (case side1 => exact cc (Kd.C_below HR3.out HB.out)); (case side2 => exact HC3.out); rintro e w' ⟨rfl, ⟨nd, rfl⟩⟩; refine ⟨_, rfl, ?_⟩))
  go_ret
  exact ⟨ew, bl⟩
def plenumref19_binary.f (a0 : Int) : Option (Int × Int) := some (2, a0)
set_option maxHeartbeats 8000000 in
set_option maxRecDepth 100000 in
theorem plenumref19_binary.calls (a0 : Int) (r1 : Int) (r2 : Int) (w : World) (h : plenumref19_binary.f a0 = some (r1, r2)) :
  Calls Tryz.prog 39 #[.int .i64 a0] w fun e w' => e = .returned (.agg #[.int .i64 r1, .int .i64 r2]) ∧ Below w.heap.size w w' := by
 have hu26 := Tryz.underlying26
 have HB := am (Below.refl w.heap.size w)
 have H : (some (2, a0)) = some (r1, r2) := h
 clear h
 simp only [Option.some.injEq, Prod.mk.injEq] at H
 obtain ⟨rfl, rfl⟩ := H
 go_enter Tryz.func39, Tryz.ntmps39
 go_wp2_with (first | ((refine gate_dst (N := 2) rfl ?_); refine bx (N := 2) (cs := #[.int .i64 0, .int .i64 0]) (t := 26) ?_; intro gb522 hg w2 hbox hb; have BK522 := am (hbox); have GW522 := am (gw hg (below_size bl)); have GE522 := am (gw hg (below_size bl)); replace HB := am (below_step bl hb); clear hb hbox hg; obtain ⟨hcz3_0, hcz3_1, hfz3_0, hfz3_1⟩ := bz2 BK522.out))
 refine bodyPost_ret (results_cell_row rfl _ _ gb522 26 #[.int .i64 2, .int .i64 a0] (0, 0) _ rfl (by refine rb ?_; refine blk_put (cs := #[.int .i64 2, .int .i64 0]) ?_ 1 _ rfl; refine rb ?_; refine blk_put (cs := #[.int .i64 0, .int .i64 0]) ?_ 0 _ rfl; exact rb BK522.out) Tryz.underlying26 rfl (by kernel_rfl)) rfl ?_
 exact ⟨ew, bs1 GE522.out⟩
end Go.Proofs.YtjjbdgngncgikaaGreatDoor.R
