-- printed
import Derived.Test.YtjjbdgngncgikaaGreatDoorRx0
namespace Go.Proofs.YtjjbdgngncgikaaGreatDoor.R
open Go.RowKit Go.Proofs.YtjjbdgngncgikaaGreatDoorW.PrintWords Go.Proofs.YtjjbdgngncgikaaGreatDoorW.PrintLast Go.Proofs.YtjjbdgngncgikaaGreatDoorW.PrintMore
attribute [local go_sem] max2_int min2_int max_two min_two max_three min_three max_four min_four   -- for this text's walks alone
set_option linter.unusedVariables false
set_option linter.unusedSimpArgs false

/-! ### plenumref19_Length: function 22 -/
def plenumref19_Length.f (a0 : ByteArray) : Option (Int) := if a0.toList = ([99, 111, 117, 110, 116] : List UInt8) then (some 2) else (if a0.toList = ([109, 105, 110, 114, 117, 110] : List UInt8) then (some 2) else (if a0.toList = ([112, 117, 108, 115, 101] : List UInt8) then (some 2) else (some 1)))
set_option maxHeartbeats 8000000 in
set_option maxRecDepth 100000 in
theorem plenumref19_Length.calls (a0 : ByteArray) (r : Int) (w : World) (h : plenumref19_Length.f a0 = some r) :
  Calls Tryz.prog 22 #[.string a0] w fun e w' => e = .returned (.int .i64 r) ∧ Drawn0 w w' := by
 have H : (if a0.toList = ([99, 111, 117, 110, 116] : List UInt8) then (some 2) else (if a0.toList = ([109, 105, 110, 114, 117, 110] : List UInt8) then (some 2) else (if a0.toList = ([112, 117, 108, 115, 101] : List UInt8) then (some 2) else (some 1)))) = some r := h
 clear h
 by_cases c2 : a0.toList = ([99, 111, 117, 110, 116] : List UInt8)
 ·
  rw [if_pos c2] at H
  have c2b0 := beq_iff_eq.mpr c2
  have c2b1 := bne_eq_false_iff_eq.mpr c2
  clear c2
  obtain rfl := Option.some.inj H
  go_enter Tryz.func22, Tryz.ntmps22
  go_wp2
  go_ret
  exact ⟨by first | rfl | (simp; done) | (simp [*]; done), by repeat (first | exact Drawn0.refl _ | apply Drawn0.step)⟩
 rw [if_neg c2] at H
 have c2b0 := beq_eq_false_iff_ne.mpr c2
 have c2b1 := bne_iff_ne.mpr c2
 by_cases c3 : a0.toList = ([109, 105, 110, 114, 117, 110] : List UInt8)
 ·
  rw [if_pos c3] at H
  have c3b0 := beq_iff_eq.mpr c3
  have c3b1 := bne_eq_false_iff_eq.mpr c3
  clear c3
  obtain rfl := Option.some.inj H
  go_enter Tryz.func22, Tryz.ntmps22
  go_wp2
  go_ret
  exact ⟨by first | rfl | (simp; done) | (simp [*]; done), by repeat (first | exact Drawn0.refl _ | apply Drawn0.step)⟩
 rw [if_neg c3] at H
 have c3b0 := beq_eq_false_iff_ne.mpr c3
 have c3b1 := bne_iff_ne.mpr c3
 by_cases c4 : a0.toList = ([112, 117, 108, 115, 101] : List UInt8)
 rotate_left
 ·
  rw [if_neg c4] at H
  have c4b0 := beq_eq_false_iff_ne.mpr c4
  have c4b1 := bne_iff_ne.mpr c4
  obtain rfl := Option.some.inj H
  go_enter Tryz.func22, Tryz.ntmps22
  go_wp2
  go_ret
  exact ⟨by first | rfl | (simp; done) | (simp [*]; done), by repeat (first | exact Drawn0.refl _ | apply Drawn0.step)⟩
 rw [if_pos c4] at H
 have c4b0 := beq_iff_eq.mpr c4
 have c4b1 := bne_eq_false_iff_eq.mpr c4
 clear c4
 obtain rfl := Option.some.inj H
 go_enter Tryz.func22, Tryz.ntmps22
 go_wp2
 go_ret
 exact ⟨by first | rfl | (simp; done) | (simp [*]; done), by repeat (first | exact Drawn0.refl _ | apply Drawn0.step)⟩
/-! ### plenumref19_least: function 23 -/
def plenumref19_least.f (l0 : List Int) (a1 : Int) : Option (Int) := if a1 = 1 then (if 0 < (l0.length : Int) then (some (rd l0 0)) else (none)) else (if 1 < (l0.length : Int) then (some (rd l0 1)) else (none))
set_option maxHeartbeats 8000000 in
set_option maxRecDepth 100000 in
theorem plenumref19_least.calls (A0 : Option Addr) (c0 : Nat) (l0 : List Int) (a1 : Int) (r : Int) (w : World) (hr0 : Kd.C (Kd.int .i64) w A0 l0.length l0) (hc0 : l0.length ≤ c0) (h : plenumref19_least.f l0 a1 = some r) :
  Calls Tryz.prog 23 #[.slice A0 l0.length c0, .int .i64 a1] w fun e w' => e = .returned (.int .i64 r) ∧ Drawn0 w w' := by
 have HR0 := am hr0
 have HC0 := am hc0
 clear hr0 hc0
 have H : (if a1 = 1 then (if 0 < (l0.length : Int) then (some (rd l0 0)) else (none)) else (if 1 < (l0.length : Int) then (some (rd l0 1)) else (none))) = some r := h
 clear h
 by_cases c3 : a1 = 1
 ·
  rw [if_pos c3] at H
  have c3b0 := beq_iff_eq.mpr c3
  have c3b1 := bne_eq_false_iff_eq.mpr c3
  clear c3
  by_cases c4 : 0 < (l0.length : Int)
  rotate_left
  ·
   rw [if_neg c4] at H
   exact absurd H (by simp)
  rw [if_pos c4] at H
  have c4b0 := decide_eq_true c4
  have c4b1 : decide (0 < l0.length) = true := decide_eq_true (by omega)
  clear c4
  obtain rfl := Option.some.inj H
  have q476 := ix0 (n := l0.length) ode; obtain ⟨ad476, e476, hx476_0⟩ := Kd.at_int HR0.out 0 (by omega) (of_eq_true q476.2.2); cases e476; (try rw [t0] at hx476_0); (try rw [Addr.add_zero'] at hx476_0); obtain ⟨qi476, p476, q476⟩ := q476
  go_enter Tryz.func23, Tryz.ntmps23
  go_wp2
  go_ret
  exact ⟨by first | rfl | (simp; done) | (simp [*]; done), by repeat (first | exact Drawn0.refl _ | apply Drawn0.step)⟩
 rw [if_neg c3] at H
 have c3b0 := beq_eq_false_iff_ne.mpr c3
 have c3b1 := bne_iff_ne.mpr c3
 by_cases c5 : 1 < (l0.length : Int)
 rotate_left
 ·
  rw [if_neg c5] at H
  exact absurd H (by simp)
 rw [if_pos c5] at H
 have c5b0 := decide_eq_true c5
 have c5b1 : decide (1 < l0.length) = true := decide_eq_true (by omega)
 clear c5
 obtain rfl := Option.some.inj H
 have p477 : 0 ≤ (1 : Int) := (by omega); have q477 : 1 < (l0.length : Int) := ode; obtain ⟨ad477, e477, hx477_0⟩ := Kd.at_int HR0.out 1 p477 q477; cases e477
 (try simp only [t1, Nat.reduceMul, Nat.reduceEqDiff, Go.Addr.add, ↓reduceIte] at hx477_0)
 have qi477 : (1 < l0.length) = True := eq_true (by omega); (try rw [t1] at hx477_0); replace p477 := eq_true p477; replace q477 := eq_true q477
 go_enter Tryz.func23, Tryz.ntmps23
 go_wp2
 go_ret
 exact ⟨by first | rfl | (simp; done) | (simp [*]; done), by repeat (first | exact Drawn0.refl _ | apply Drawn0.step)⟩
/-! ### plenumref19_Possible: function 9 -/
def plenumref19_Possible.j0 : Nat → ByteArray → List Int → List Int → Int → Bool → Option (Bool)
 | 0, _, _, _, _, _ => none
 | k + 1, x0, x1, x2, x7, x45 => if x45 = true then (some false) else (if x0.toList = ([99, 111, 117, 110, 116] : List UInt8) then (if 1 < (x2.length : Int) then (if (rd x2 1) ≥ 0 then (some (decide ((rd x2 1) ≤ 1000000000))) else (some false)) else (none)) else (if x0.toList = ([112, 117, 108, 115, 101] : List UInt8) then (if 1 < (x2.length : Int) then (if (rd x2 1) ≥ 0 then (if 0 < (x1.length : Int) then (some (decide ((rd x2 1) ≤ (rd x1 0)))) else (none)) else (some false)) else (none)) else (if x0.toList = ([109, 105, 110, 114, 117, 110] : List UInt8) then (if 1 < (x2.length : Int) then (if (rd x2 1) ≥ 0 then ((plenumref19_least.f x1 x7).bind fun t489 => (some (decide ((rd x2 1) ≤ t489)))) else (some false)) else (none)) else (some true))))
def plenumref19_Possible.f (k : Nat) (a0 : ByteArray) (l1 : List Int) (l2 : List Int) : Option (Bool) := (plenumref19_Length.f a0).bind fun t478 => (if (l2.length : Int) = t478 then (if 0 < (l2.length : Int) then (if a0.toList = ([111, 110, 100, 101, 108, 97, 121] : List UInt8) then (if (rd l2 0) ≥ 0 then (if 0 < (l1.length : Int) then (some (decide ((rd l2 0) ≤ (wrap64 ((rd l1 0) + 1))))) else (none)) else (some false)) else (if a0.toList = ([111, 102, 102, 100, 101, 108, 97, 121] : List UInt8) then (if (rd l2 0) ≥ (-1) then (if 0 < (l1.length : Int) then (some (decide ((rd l2 0) ≤ (rd l1 0)))) else (none)) else (some false)) else (if (rd l2 0) < 0 then (plenumref19_Possible.j0 k a0 l1 l2 (rd l2 0) true) else (plenumref19_Possible.j0 k a0 l1 l2 (rd l2 0) (decide ((rd l2 0) > 1)))))) else (none)) else (some false))
theorem plenumref19_Possible.mono_l : ∀ k, (∀ y0 y1 y2 y3 y4, LeO (plenumref19_Possible.j0 k y0 y1 y2 y3 y4) (plenumref19_Possible.j0 (k + 1) y0 y1 y2 y3 y4))
 | 0 => fun _ _ _ _ _ r h => by simp [plenumref19_Possible.j0] at h
 | k + 1 => by
  have ih0 := plenumref19_Possible.mono_l k
  ·
   intro y0 y1 y2 y3 y4
   unfold plenumref19_Possible.j0
   repeat' first
   | (with_reducible exact ih0 _ _ _ _ _)
   | (with_reducible exact LeO.refl _)
   | (with_reducible exact LeO.none _)
   | (with_reducible refine LeO.ite ?_ ?_)
   | (with_reducible refine LeO.bind ?_ (fun _ => ?_))
   | exact LeO.none _
   | refine LeO.ite ?_ ?_
   | refine LeO.bind ?_ (fun _ => ?_)
theorem plenumref19_Possible.mono : ∀ a0 a1 a2 k, LeO (plenumref19_Possible.f k a0 a1 a2) (plenumref19_Possible.f (k + 1) a0 a1 a2) := by
 intro a0 a1 a2 k
 have ih0 := plenumref19_Possible.mono_l k
 unfold plenumref19_Possible.f
 repeat' first
   | (with_reducible exact ih0 _ _ _ _ _)
   | (with_reducible exact LeO.refl _)
   | (with_reducible exact LeO.none _)
   | (with_reducible refine LeO.ite ?_ ?_)
   | (with_reducible refine LeO.bind ?_ (fun _ => ?_))
   | exact LeO.none _
   | refine LeO.ite ?_ ?_
   | refine LeO.bind ?_ (fun _ => ?_)
set_option maxHeartbeats 8000000 in
set_option maxRecDepth 100000 in
theorem plenumref19_Possible.calls (k : Nat) (a0 : ByteArray) (A1 : Option Addr) (c1 : Nat) (l1 : List Int) (A2 : Option Addr) (c2 : Nat) (l2 : List Int) (r : Bool) (w : World) (hr1 : Kd.C (Kd.int .i64) w A1 l1.length l1) (hc1 : l1.length ≤ c1) (hr2 : Kd.C (Kd.int .i64) w A2 l2.length l2) (hc2 : l2.length ≤ c2) (h : plenumref19_Possible.f k a0 l1 l2 = some r) :
  Calls Tryz.prog 9 #[.string a0, .slice A1 l1.length c1, .slice A2 l2.length c2] w fun e w' => e = .returned (.bool r) ∧ Drawn0 w w' := by
 have HR1 := am hr1
 have HC1 := am hc1
 clear hr1 hc1
 have HR2 := am hr2
 have HC2 := am hc2
 clear hr2 hc2
 have H : ((plenumref19_Length.f a0).bind fun t478 => (if (l2.length : Int) = t478 then (if 0 < (l2.length : Int) then (if a0.toList = ([111, 110, 100, 101, 108, 97, 121] : List UInt8) then (if (rd l2 0) ≥ 0 then (if 0 < (l1.length : Int) then (some (decide ((rd l2 0) ≤ (wrap64 ((rd l1 0) + 1))))) else (none)) else (some false)) else (if a0.toList = ([111, 102, 102, 100, 101, 108, 97, 121] : List UInt8) then (if (rd l2 0) ≥ (-1) then (if 0 < (l1.length : Int) then (some (decide ((rd l2 0) ≤ (rd l1 0)))) else (none)) else (some false)) else (if (rd l2 0) < 0 then (plenumref19_Possible.j0 k a0 l1 l2 (rd l2 0) true) else (plenumref19_Possible.j0 k a0 l1 l2 (rd l2 0) (decide ((rd l2 0) > 1)))))) else (none)) else (some false))) = some r := h
 clear h
 replace H := Option.bind_eq_some_iff.mp H
 obtain ⟨t478, A40, H⟩ := H
 (try dsimp only at H)
 have A4 := am A40
 clear A40
 by_cases c5 : (l2.length : Int) = t478
 rotate_left
 ·
  rw [if_neg c5] at H
  have c5b0 := beq_eq_false_iff_ne.mpr c5
  have c5b1 := bne_iff_ne.mpr c5
  obtain rfl := Option.some.inj H
  go_enter Tryz.func9, Tryz.ntmps9
  go_wp2_with (first | (go_at_call 22; (with_reducible refine (plenumref19_Length.calls a0 t478 _ A4.out).mono ?_); rintro e w' ⟨rfl, ⟨nd, rfl⟩⟩; (try exact dd)) | (go_quiet (first | (go_at_call 22; (with_reducible refine (plenumref19_Length.calls a0 t478 _ A4.out).mono ?_); rintro e w' ⟨rfl, ⟨nd, rfl⟩⟩; (try exact dd)))))
  go_ret
  exact ⟨by first | rfl | (simp; done) | (simp [*]; done), by repeat (first | exact Drawn0.refl _ | apply Drawn0.step)⟩
 rw [if_pos c5] at H
 have c5b0 := beq_iff_eq.mpr c5
 have c5b1 := bne_eq_false_iff_eq.mpr c5
 clear c5
 by_cases c6 : 0 < (l2.length : Int)
 rotate_left
 ·
  rw [if_neg c6] at H
  exact absurd H (by simp)
 rw [if_pos c6] at H
 have c6b0 := decide_eq_true c6
 have c6b1 : decide (0 < l2.length) = true := decide_eq_true (by omega)
 clear c6
 by_cases c7 : a0.toList = ([111, 110, 100, 101, 108, 97, 121] : List UInt8)
 ·
  rw [if_pos c7] at H
  have c7b0 := beq_iff_eq.mpr c7
  have c7b1 := bne_eq_false_iff_eq.mpr c7
  clear c7
  by_cases c8 : (rd l2 0) ≥ 0
  rotate_left
  ·
   rw [if_neg c8] at H
   have c8b0 : decide (0 ≤ (rd l2 0)) = false := decide_eq_false c8
   clear c8
   obtain rfl := Option.some.inj H
   go_enter Tryz.func9, Tryz.ntmps9
   go_wp2_with (first | (go_at_call 22; (with_reducible refine (plenumref19_Length.calls a0 t478 _ A4.out).mono ?_); rintro e w' ⟨rfl, ⟨nd, rfl⟩⟩; (try exact dd); have q479 := ix0 (n := l2.length) ode; obtain ⟨ad479, e479, hx479_0⟩ := Kd.at_int HR2.out 0 (by omega) (of_eq_true q479.2.2); cases e479; (try rw [t0] at hx479_0); (try rw [Addr.add_zero'] at hx479_0); obtain ⟨qi479, p479, q479⟩ := q479) | (go_quiet (first | (go_at_call 22; (with_reducible refine (plenumref19_Length.calls a0 t478 _ A4.out).mono ?_); rintro e w' ⟨rfl, ⟨nd, rfl⟩⟩; (try exact dd); have q479 := ix0 (n := l2.length) ode; obtain ⟨ad479, e479, hx479_0⟩ := Kd.at_int HR2.out 0 (by omega) (of_eq_true q479.2.2); cases e479; (try rw [t0] at hx479_0); (try rw [Addr.add_zero'] at hx479_0); obtain ⟨qi479, p479, q479⟩ := q479))))
   go_ret
   exact ⟨by first | rfl | (simp; done) | (simp [*]; done), by repeat (first | exact Drawn0.refl _ | apply Drawn0.step)⟩
  rw [if_pos c8] at H
  have c8b0 : decide (0 ≤ (rd l2 0)) = true := decide_eq_true c8
  clear c8
  by_cases c9 : 0 < (l1.length : Int)
  rotate_left
  ·
   rw [if_neg c9] at H
   exact absurd H (by simp)
  rw [if_pos c9] at H
  have c9b0 := decide_eq_true c9
  have c9b1 : decide (0 < l1.length) = true := decide_eq_true (by omega)
  clear c9
  obtain rfl := Option.some.inj H
  go_enter Tryz.func9, Tryz.ntmps9
  go_wp2_with (first | (go_at_call 22; (with_reducible refine (plenumref19_Length.calls a0 t478 _ A4.out).mono ?_); rintro e w' ⟨rfl, ⟨nd, rfl⟩⟩; (try exact dd); have q479 := ix0 (n := l2.length) ode; obtain ⟨ad479, e479, hx479_0⟩ := Kd.at_int HR2.out 0 (by omega) (of_eq_true q479.2.2); cases e479; (try rw [t0] at hx479_0); (try rw [Addr.add_zero'] at hx479_0); obtain ⟨qi479, p479, q479⟩ := q479; have q480 := ix0 (n := l1.length) ode; obtain ⟨ad480, e480, hx480_0⟩ := Kd.at_int HR1.out 0 (by omega) (of_eq_true q480.2.2); cases e480; (try rw [t0] at hx480_0); (try rw [Addr.add_zero'] at hx480_0); obtain ⟨qi480, p480, q480⟩ := q480) | (go_quiet (first | (go_at_call 22; (with_reducible refine (plenumref19_Length.calls a0 t478 _ A4.out).mono ?_); rintro e w' ⟨rfl, ⟨nd, rfl⟩⟩; (try exact dd); have q479 := ix0 (n := l2.length) ode; obtain ⟨ad479, e479, hx479_0⟩ := Kd.at_int HR2.out 0 (by omega) (of_eq_true q479.2.2); cases e479; (try rw [t0] at hx479_0); (try rw [Addr.add_zero'] at hx479_0); obtain ⟨qi479, p479, q479⟩ := q479; have q480 := ix0 (n := l1.length) ode; obtain ⟨ad480, e480, hx480_0⟩ := Kd.at_int HR1.out 0 (by omega) (of_eq_true q480.2.2); cases e480; (try rw [t0] at hx480_0); (try rw [Addr.add_zero'] at hx480_0); obtain ⟨qi480, p480, q480⟩ := q480))))
  go_ret
  exact ⟨by first | rfl | (simp; done) | (simp [*]; done), by repeat (first | exact Drawn0.refl _ | apply Drawn0.step)⟩
 rw [if_neg c7] at H
 have c7b0 := beq_eq_false_iff_ne.mpr c7
 have c7b1 := bne_iff_ne.mpr c7
 by_cases c10 : a0.toList = ([111, 102, 102, 100, 101, 108, 97, 121] : List UInt8)
 ·
  rw [if_pos c10] at H
  have c10b0 := beq_iff_eq.mpr c10
  have c10b1 := bne_eq_false_iff_eq.mpr c10
  clear c10
  by_cases c11 : (rd l2 0) ≥ (-1)
  rotate_left
  ·
   rw [if_neg c11] at H
   have c11b0 : decide ((-1) ≤ (rd l2 0)) = false := decide_eq_false c11
   clear c11
   obtain rfl := Option.some.inj H
   go_enter Tryz.func9, Tryz.ntmps9
   go_wp2_with (first | (go_at_call 22; (with_reducible refine (plenumref19_Length.calls a0 t478 _ A4.out).mono ?_); rintro e w' ⟨rfl, ⟨nd, rfl⟩⟩; (try exact dd); have q479 := ix0 (n := l2.length) ode; obtain ⟨ad479, e479, hx479_0⟩ := Kd.at_int HR2.out 0 (by omega) (of_eq_true q479.2.2); cases e479; (try rw [t0] at hx479_0); (try rw [Addr.add_zero'] at hx479_0); obtain ⟨qi479, p479, q479⟩ := q479) | (go_quiet (first | (go_at_call 22; (with_reducible refine (plenumref19_Length.calls a0 t478 _ A4.out).mono ?_); rintro e w' ⟨rfl, ⟨nd, rfl⟩⟩; (try exact dd); have q479 := ix0 (n := l2.length) ode; obtain ⟨ad479, e479, hx479_0⟩ := Kd.at_int HR2.out 0 (by omega) (of_eq_true q479.2.2); cases e479; (try rw [t0] at hx479_0); (try rw [Addr.add_zero'] at hx479_0); obtain ⟨qi479, p479, q479⟩ := q479))))
   go_ret
   exact ⟨by first | rfl | (simp; done) | (simp [*]; done), by repeat (first | exact Drawn0.refl _ | apply Drawn0.step)⟩
  rw [if_pos c11] at H
  have c11b0 : decide ((-1) ≤ (rd l2 0)) = true := decide_eq_true c11
  clear c11
  by_cases c12 : 0 < (l1.length : Int)
  rotate_left
  ·
   rw [if_neg c12] at H
   exact absurd H (by simp)
  rw [if_pos c12] at H
  have c12b0 := decide_eq_true c12
  have c12b1 : decide (0 < l1.length) = true := decide_eq_true (by omega)
  clear c12
  obtain rfl := Option.some.inj H
  go_enter Tryz.func9, Tryz.ntmps9
  go_wp2_with (first | (go_at_call 22; (with_reducible refine (plenumref19_Length.calls a0 t478 _ A4.out).mono ?_); rintro e w' ⟨rfl, ⟨nd, rfl⟩⟩; (try exact dd); have q479 := ix0 (n := l2.length) ode; obtain ⟨ad479, e479, hx479_0⟩ := Kd.at_int HR2.out 0 (by omega) (of_eq_true q479.2.2); cases e479; (try rw [t0] at hx479_0); (try rw [Addr.add_zero'] at hx479_0); obtain ⟨qi479, p479, q479⟩ := q479; have q481 := ix0 (n := l1.length) ode; obtain ⟨ad481, e481, hx481_0⟩ := Kd.at_int HR1.out 0 (by omega) (of_eq_true q481.2.2); cases e481; (try rw [t0] at hx481_0); (try rw [Addr.add_zero'] at hx481_0); obtain ⟨qi481, p481, q481⟩ := q481) | (go_quiet (first | (go_at_call 22; (with_reducible refine (plenumref19_Length.calls a0 t478 _ A4.out).mono ?_); rintro e w' ⟨rfl, ⟨nd, rfl⟩⟩; (try exact dd); have q479 := ix0 (n := l2.length) ode; obtain ⟨ad479, e479, hx479_0⟩ := Kd.at_int HR2.out 0 (by omega) (of_eq_true q479.2.2); cases e479; (try rw [t0] at hx479_0); (try rw [Addr.add_zero'] at hx479_0); obtain ⟨qi479, p479, q479⟩ := q479; have q481 := ix0 (n := l1.length) ode; obtain ⟨ad481, e481, hx481_0⟩ := Kd.at_int HR1.out 0 (by omega) (of_eq_true q481.2.2); cases e481; (try rw [t0] at hx481_0); (try rw [Addr.add_zero'] at hx481_0); obtain ⟨qi481, p481, q481⟩ := q481))))
  go_ret
  exact ⟨by first | rfl | (simp; done) | (simp [*]; done), by repeat (first | exact Drawn0.refl _ | apply Drawn0.step)⟩
 rw [if_neg c10] at H
 have c10b0 := beq_eq_false_iff_ne.mpr c10
 have c10b1 := bne_iff_ne.mpr c10
 have HC13 := am H
 clear H
 go_enter Tryz.func9, Tryz.ntmps9
 go_upto_region 9 with (first | (go_at_call 22; (with_reducible refine (plenumref19_Length.calls a0 t478 _ A4.out).mono ?_); rintro e w' ⟨rfl, ⟨nd, rfl⟩⟩; (try exact dd); have q479 := ix0 (n := l2.length) ode; obtain ⟨ad479, e479, hx479_0⟩ := Kd.at_int HR2.out 0 (by omega) (of_eq_true q479.2.2); cases e479; (try rw [t0] at hx479_0); (try rw [Addr.add_zero'] at hx479_0); obtain ⟨qi479, p479, q479⟩ := q479))
 repeat (go_quiet (first | (go_at_call 22; (with_reducible refine (plenumref19_Length.calls a0 t478 _ A4.out).mono ?_); rintro e w' ⟨rfl, ⟨nd, rfl⟩⟩; (try exact dd); have q479 := ix0 (n := l2.length) ode; obtain ⟨ad479, e479, hx479_0⟩ := Kd.at_int HR2.out 0 (by omega) (of_eq_true q479.2.2); cases e479; (try rw [t0] at hx479_0); (try rw [Addr.add_zero'] at hx479_0); obtain ⟨qi479, p479, q479⟩ := q479)); go_upto_region 9 with (first | (go_at_call 22; (with_reducible refine (plenumref19_Length.calls a0 t478 _ A4.out).mono ?_); rintro e w' ⟨rfl, ⟨nd, rfl⟩⟩; (try exact dd); have q479 := ix0 (n := l2.length) ode; obtain ⟨ad479, e479, hx479_0⟩ := Kd.at_int HR2.out 0 (by omega) (of_eq_true q479.2.2); cases e479; (try rw [t0] at hx479_0); (try rw [Addr.add_zero'] at hx479_0); obtain ⟨qi479, p479, q479⟩ := q479)))
 (try simp only [ap, sa, sb, sc])
 go_cut [45] (fun v45 wc => ∃ (kq : Nat) (x45_12 : Bool), v45 = .bool x45_12 ∧ Aside0 (plenumref19_Possible.j0 kq a0 l1 l2 (rd l2 0) x45_12 = some r) ∧ Aside0 (kq ≤ k) ∧ Drawn0 w wc)
 case first =>
  have H := HC13.out
  clear HC13
  by_cases c14 : (rd l2 0) < 0
  ·
   rw [if_pos c14] at H
   have c14b0 := decide_eq_true c14
   clear c14
   (first | rw [c14b0] | (simp only [i64_w, i32_w]; rw [c14b0]) | skip)
   have H' := am H
   clear H
   go_wp2
   repeat (go_quiet (fail); try go_wp2)
   go_meet
   case rel => exact ⟨_, (true), (by first | rfl | (simp; done) | (simp [*]; done)), H', ⟨by first | omega | exact Nat.le_refl _⟩, by repeat (first | exact Drawn0.refl _ | apply Drawn0.step)⟩
  rw [if_neg c14] at H
  have c14b0 := decide_eq_false c14
  clear c14
  (first | rw [c14b0] | (simp only [i64_w, i32_w]; rw [c14b0]) | skip)
  have H' := am H
  clear H
  go_wp2
  repeat (go_quiet (fail); try go_wp2)
  go_meet
  case rel => exact ⟨_, (decide ((rd l2 0) > 1)), (by first | rfl | (simp; done) | (simp [*]; done)), H', ⟨by first | omega | exact Nat.le_refl _⟩, by repeat (first | exact Drawn0.refl _ | apply Drawn0.step)⟩
 clear HC13
 obtain ⟨kq, x45_12, rfl, HA, HJ12, ⟨mc12, rfl⟩⟩ := hcut
 cases kq with
 | zero => exact absurd HA.out (by simp [plenumref19_Possible.j0])
 | succ kj12 =>
  have H := HA.out
  clear HA
  simp only [plenumref19_Possible.j0] at H
  by_cases c15 : x45_12 = true
  ·
   subst c15
   rw [if_pos rfl] at H
   obtain rfl := Option.some.inj H
   go_wp2
   repeat (go_quiet (fail); try go_wp2)
   go_ret
   exact ⟨by first | rfl | (simp; done) | (simp [*]; done), by repeat (first | exact Drawn0.refl _ | apply Drawn0.step)⟩
  replace c15 := Bool.eq_false_iff.mpr c15
  subst c15
  rw [if_neg (show ¬ (false = true) by decide)] at H
  by_cases c16 : a0.toList = ([99, 111, 117, 110, 116] : List UInt8)
  ·
   rw [if_pos c16] at H
   have c16b0 := beq_iff_eq.mpr c16
   have c16b1 := bne_eq_false_iff_eq.mpr c16
   clear c16
   by_cases c17 : 1 < (l2.length : Int)
   rotate_left
   ·
    rw [if_neg c17] at H
    exact absurd H (by simp)
   rw [if_pos c17] at H
   have c17b0 := decide_eq_true c17
   have c17b1 : decide (1 < l2.length) = true := decide_eq_true (by omega)
   clear c17
   by_cases c18 : (rd l2 1) ≥ 0
   rotate_left
   ·
    rw [if_neg c18] at H
    have c18b0 : decide (0 ≤ (rd l2 1)) = false := decide_eq_false c18
    clear c18
    obtain rfl := Option.some.inj H
    have p482 : 0 ≤ (1 : Int) := (by omega); have q482 : 1 < (l2.length : Int) := ode; obtain ⟨ad482, e482, hx482_0⟩ := Kd.at_int HR2.out 1 p482 q482
    obtain rfl : ad479 = ad482 := (by injection e482)
    (try simp only [t1, Nat.reduceMul, Nat.reduceEqDiff, Go.Addr.add, ↓reduceIte] at hx482_0)
    have qi482 : (1 < l2.length) = True := eq_true (by omega); (try rw [t1] at hx482_0); replace p482 := eq_true p482; replace q482 := eq_true q482
    go_wp2
    repeat (go_quiet (fail); try go_wp2)
    go_ret
    exact ⟨by first | rfl | (simp; done) | (simp [*]; done), by repeat (first | exact Drawn0.refl _ | apply Drawn0.step)⟩
   rw [if_pos c18] at H
   have c18b0 : decide (0 ≤ (rd l2 1)) = true := decide_eq_true c18
   clear c18
   obtain rfl := Option.some.inj H
   have p482 : 0 ≤ (1 : Int) := (by omega); have q482 : 1 < (l2.length : Int) := ode; obtain ⟨ad482, e482, hx482_0⟩ := Kd.at_int HR2.out 1 p482 q482
   obtain rfl : ad479 = ad482 := (by injection e482)
   (try simp only [t1, Nat.reduceMul, Nat.reduceEqDiff, Go.Addr.add, ↓reduceIte] at hx482_0)
   have qi482 : (1 < l2.length) = True := eq_true (by omega); (try rw [t1] at hx482_0); replace p482 := eq_true p482; replace q482 := eq_true q482; have p483 : 0 ≤ (1 : Int) := (by omega); have q483 : 1 < (l2.length : Int) := ode; obtain ⟨ad483, e483, hx483_0⟩ := Kd.at_int HR2.out 1 p483 q483
   obtain rfl : ad479 = ad483 := (by injection e483)
   (try simp only [t1, Nat.reduceMul, Nat.reduceEqDiff, Go.Addr.add, ↓reduceIte] at hx483_0)
   have qi483 : (1 < l2.length) = True := eq_true (by omega); (try rw [t1] at hx483_0); replace p483 := eq_true p483; replace q483 := eq_true q483
   go_wp2
   repeat (go_quiet (fail); try go_wp2)
   go_ret
   exact ⟨by first | rfl | (simp; done) | (simp [*]; done), by repeat (first | exact Drawn0.refl _ | apply Drawn0.step)⟩
  rw [if_neg c16] at H
  have c16b0 := beq_eq_false_iff_ne.mpr c16
  have c16b1 := bne_iff_ne.mpr c16
  by_cases c19 : a0.toList = ([112, 117, 108, 115, 101] : List UInt8)
  ·
   rw [if_pos c19] at H
   have c19b0 := beq_iff_eq.mpr c19
   have c19b1 := bne_eq_false_iff_eq.mpr c19
   clear c19
   by_cases c20 : 1 < (l2.length : Int)
   rotate_left
   ·
    rw [if_neg c20] at H
    exact absurd H (by simp)
   rw [if_pos c20] at H
   have c20b0 := decide_eq_true c20
   have c20b1 : decide (1 < l2.length) = true := decide_eq_true (by omega)
   clear c20
   by_cases c21 : (rd l2 1) ≥ 0
   rotate_left
   ·
    rw [if_neg c21] at H
    have c21b0 : decide (0 ≤ (rd l2 1)) = false := decide_eq_false c21
    clear c21
    obtain rfl := Option.some.inj H
    have p484 : 0 ≤ (1 : Int) := (by omega); have q484 : 1 < (l2.length : Int) := ode; obtain ⟨ad484, e484, hx484_0⟩ := Kd.at_int HR2.out 1 p484 q484
    obtain rfl : ad479 = ad484 := (by injection e484)
    (try simp only [t1, Nat.reduceMul, Nat.reduceEqDiff, Go.Addr.add, ↓reduceIte] at hx484_0)
    have qi484 : (1 < l2.length) = True := eq_true (by omega); (try rw [t1] at hx484_0); replace p484 := eq_true p484; replace q484 := eq_true q484
    go_wp2
    repeat (go_quiet (fail); try go_wp2)
    go_ret
    exact ⟨by first | rfl | (simp; done) | (simp [*]; done), by repeat (first | exact Drawn0.refl _ | apply Drawn0.step)⟩
   rw [if_pos c21] at H
   have c21b0 : decide (0 ≤ (rd l2 1)) = true := decide_eq_true c21
   clear c21
   by_cases c22 : 0 < (l1.length : Int)
   rotate_left
   ·
    rw [if_neg c22] at H
    exact absurd H (by simp)
   rw [if_pos c22] at H
   have c22b0 := decide_eq_true c22
   have c22b1 : decide (0 < l1.length) = true := decide_eq_true (by omega)
   clear c22
   obtain rfl := Option.some.inj H
   have p484 : 0 ≤ (1 : Int) := (by omega); have q484 : 1 < (l2.length : Int) := ode; obtain ⟨ad484, e484, hx484_0⟩ := Kd.at_int HR2.out 1 p484 q484
   obtain rfl : ad479 = ad484 := (by injection e484)
   (try simp only [t1, Nat.reduceMul, Nat.reduceEqDiff, Go.Addr.add, ↓reduceIte] at hx484_0)
   have qi484 : (1 < l2.length) = True := eq_true (by omega); (try rw [t1] at hx484_0); replace p484 := eq_true p484; replace q484 := eq_true q484; have p485 : 0 ≤ (1 : Int) := (by omega); have q485 : 1 < (l2.length : Int) := ode; obtain ⟨ad485, e485, hx485_0⟩ := Kd.at_int HR2.out 1 p485 q485
   obtain rfl : ad479 = ad485 := (by injection e485)
   (try simp only [t1, Nat.reduceMul, Nat.reduceEqDiff, Go.Addr.add, ↓reduceIte] at hx485_0)
   have qi485 : (1 < l2.length) = True := eq_true (by omega); (try rw [t1] at hx485_0); replace p485 := eq_true p485; replace q485 := eq_true q485; have q486 := ix0 (n := l1.length) ode; obtain ⟨ad486, e486, hx486_0⟩ := Kd.at_int HR1.out 0 (by omega) (of_eq_true q486.2.2); cases e486; (try rw [t0] at hx486_0); (try rw [Addr.add_zero'] at hx486_0); obtain ⟨qi486, p486, q486⟩ := q486
   go_wp2
   repeat (go_quiet (fail); try go_wp2)
   go_ret
   exact ⟨by first | rfl | (simp; done) | (simp [*]; done), by repeat (first | exact Drawn0.refl _ | apply Drawn0.step)⟩
  rw [if_neg c19] at H
  have c19b0 := beq_eq_false_iff_ne.mpr c19
  have c19b1 := bne_iff_ne.mpr c19
  by_cases c23 : a0.toList = ([109, 105, 110, 114, 117, 110] : List UInt8)
  rotate_left
  ·
   rw [if_neg c23] at H
   have c23b0 := beq_eq_false_iff_ne.mpr c23
   have c23b1 := bne_iff_ne.mpr c23
   obtain rfl := Option.some.inj H
   go_wp2
   repeat (go_quiet (fail); try go_wp2)
   go_ret
   exact ⟨by first | rfl | (simp; done) | (simp [*]; done), by repeat (first | exact Drawn0.refl _ | apply Drawn0.step)⟩
  rw [if_pos c23] at H
  have c23b0 := beq_iff_eq.mpr c23
  have c23b1 := bne_eq_false_iff_eq.mpr c23
  clear c23
  by_cases c24 : 1 < (l2.length : Int)
  rotate_left
  ·
   rw [if_neg c24] at H
   exact absurd H (by simp)
  rw [if_pos c24] at H
  have c24b0 := decide_eq_true c24
  have c24b1 : decide (1 < l2.length) = true := decide_eq_true (by omega)
  clear c24
  by_cases c25 : (rd l2 1) ≥ 0
  rotate_left
  ·
   rw [if_neg c25] at H
   have c25b0 : decide (0 ≤ (rd l2 1)) = false := decide_eq_false c25
   clear c25
   obtain rfl := Option.some.inj H
   have p487 : 0 ≤ (1 : Int) := (by omega); have q487 : 1 < (l2.length : Int) := ode; obtain ⟨ad487, e487, hx487_0⟩ := Kd.at_int HR2.out 1 p487 q487
   obtain rfl : ad479 = ad487 := (by injection e487)
   (try simp only [t1, Nat.reduceMul, Nat.reduceEqDiff, Go.Addr.add, ↓reduceIte] at hx487_0)
   have qi487 : (1 < l2.length) = True := eq_true (by omega); (try rw [t1] at hx487_0); replace p487 := eq_true p487; replace q487 := eq_true q487
   go_wp2
   repeat (go_quiet (fail); try go_wp2)
   go_ret
   exact ⟨by first | rfl | (simp; done) | (simp [*]; done), by repeat (first | exact Drawn0.refl _ | apply Drawn0.step)⟩
  rw [if_pos c25] at H
  have c25b0 : decide (0 ≤ (rd l2 1)) = true := decide_eq_true c25
  clear c25
  replace H := Option.bind_eq_some_iff.mp H
  obtain ⟨t489, A260, H⟩ := H
  (try dsimp only at H)
  have A26 := am A260
  clear A260
  obtain rfl := Option.some.inj H
  have p487 : 0 ≤ (1 : Int) := (by omega); have q487 : 1 < (l2.length : Int) := ode; obtain ⟨ad487, e487, hx487_0⟩ := Kd.at_int HR2.out 1 p487 q487
  obtain rfl : ad479 = ad487 := (by injection e487)
  (try simp only [t1, Nat.reduceMul, Nat.reduceEqDiff, Go.Addr.add, ↓reduceIte] at hx487_0)
  have qi487 : (1 < l2.length) = True := eq_true (by omega); (try rw [t1] at hx487_0); replace p487 := eq_true p487; replace q487 := eq_true q487; have p488 : 0 ≤ (1 : Int) := (by omega); have q488 : 1 < (l2.length : Int) := ode; obtain ⟨ad488, e488, hx488_0⟩ := Kd.at_int HR2.out 1 p488 q488
  obtain rfl : ad479 = ad488 := (by injection e488)
  (try simp only [t1, Nat.reduceMul, Nat.reduceEqDiff, Go.Addr.add, ↓reduceIte] at hx488_0)
  have qi488 : (1 < l2.length) = True := eq_true (by omega); (try rw [t1] at hx488_0); replace p488 := eq_true p488; replace q488 := eq_true q488
  go_wp2_with (first | (go_at_call 23; (with_reducible refine (plenumref19_least.calls _ _ l1 (rd l2 0) t489 _ ?side1 ?side2 A26.out).mono ?_); (case side1 => repeat (first | exact HR1.out | (with_reducible refine Kd.C_alloc ?_ _) | (with_reducible refine Kd.C_drewN ?_ _) | (with_reducible refine Kd.C_drew ?_))); (case side2 => exact HC1.out); rintro e w' ⟨rfl, ⟨nd, rfl⟩⟩; (try exact dd)) | (go_quiet (first | (go_at_call 23; (with_reducible refine (plenumref19_least.calls _ _ l1 (rd l2 0) t489 _ ?side1 ?side2 A26.out).mono ?_); (case side1 => repeat (first | exact HR1.out | (with_reducible refine Kd.C_alloc ?_ _) | (with_reducible refine Kd.C_drewN ?_ _) | (with_reducible refine Kd.C_drew ?_))); (case side2 => exact HC1.out); rintro e w' ⟨rfl, ⟨nd, rfl⟩⟩; (try exact dd)))))
  go_ret
  exact ⟨by first | rfl | (simp; done) | (simp [*]; done), by repeat (first | exact Drawn0.refl _ | apply Drawn0.step)⟩
/-! ### plenumref19_Names: function 45 -/
def plenumref19_Names.f  : Option (List ByteArray) := some (([(⟨#[99, 111, 117, 110, 116]⟩ : ByteArray), (⟨#[101, 100, 103, 101]⟩ : ByteArray), (⟨#[104, 121, 115, 116]⟩ : ByteArray), (⟨#[108, 97, 116, 99, 104]⟩ : ByteArray), (⟨#[109, 105, 110, 114, 117, 110]⟩ : ByteArray), (⟨#[111, 102, 102, 100, 101, 108, 97, 121]⟩ : ByteArray), (⟨#[111, 110, 100, 101, 108, 97, 121]⟩ : ByteArray), (⟨#[112, 117, 108, 115, 101]⟩ : ByteArray)] : List ByteArray))
set_option maxHeartbeats 8000000 in
set_option maxRecDepth 100000 in
theorem plenumref19_Names.calls  (r : List ByteArray) (w : World) (h : plenumref19_Names.f  = some r) :
  Calls Tryz.prog 45 #[] w fun e w' => ∃ v0_ : Value, e = .returned (v0_) ∧ Kd.R Kd.string 9 w' w.heap.size (fun _ => True) v0_ r ∧ Below w.heap.size w w' := by
 have HB := am (Below.refl w.heap.size w)
 have H : (some (([(⟨#[99, 111, 117, 110, 116]⟩ : ByteArray), (⟨#[101, 100, 103, 101]⟩ : ByteArray), (⟨#[104, 121, 115, 116]⟩ : ByteArray), (⟨#[108, 97, 116, 99, 104]⟩ : ByteArray), (⟨#[109, 105, 110, 114, 117, 110]⟩ : ByteArray), (⟨#[111, 102, 102, 100, 101, 108, 97, 121]⟩ : ByteArray), (⟨#[111, 110, 100, 101, 108, 97, 121]⟩ : ByteArray), (⟨#[112, 117, 108, 115, 101]⟩ : ByteArray)] : List ByteArray))) = some r := h
 clear h
 obtain ⟨y490, hy490⟩ : ∃ y_ : List ByteArray, y_ = (([(⟨#[99, 111, 117, 110, 116]⟩ : ByteArray), (⟨#[101, 100, 103, 101]⟩ : ByteArray), (⟨#[104, 121, 115, 116]⟩ : ByteArray), (⟨#[108, 97, 116, 99, 104]⟩ : ByteArray), (⟨#[109, 105, 110, 114, 117, 110]⟩ : ByteArray), (⟨#[111, 102, 102, 100, 101, 108, 97, 121]⟩ : ByteArray), (⟨#[111, 110, 100, 101, 108, 97, 121]⟩ : ByteArray), (⟨#[112, 117, 108, 115, 101]⟩ : ByteArray)] : List ByteArray)) := ⟨_, rfl⟩
 (try rw [← hy490] at H); (try rw [Option.bind_some] at H); (try dsimp only at H)
 have Ny490 := am hy490
 clear hy490
 obtain rfl := Option.some.inj H
 go_enter Tryz.func45, Tryz.ntmps45
 go_wp2_with (first | ((refine gate_dst (N := 1) rfl ?_); refine Kd.R_lit Kd.string _ 9 ?hg (N := 1) ?hd (xs := ([(⟨#[99, 111, 117, 110, 116]⟩ : ByteArray), (⟨#[101, 100, 103, 101]⟩ : ByteArray), (⟨#[104, 121, 115, 116]⟩ : ByteArray), (⟨#[108, 97, 116, 99, 104]⟩ : ByteArray), (⟨#[109, 105, 110, 114, 117, 110]⟩ : ByteArray), (⟨#[111, 102, 102, 100, 101, 108, 97, 121]⟩ : ByteArray), (⟨#[111, 110, 100, 101, 108, 97, 121]⟩ : ByteArray), (⟨#[112, 117, 108, 115, 101]⟩ : ByteArray)] : List ByteArray)) (inner := [.string (⟨#[99, 111, 117, 110, 116]⟩ : ByteArray), .string (⟨#[101, 100, 103, 101]⟩ : ByteArray), .string (⟨#[104, 121, 115, 116]⟩ : ByteArray), .string (⟨#[108, 97, 116, 99, 104]⟩ : ByteArray), .string (⟨#[109, 105, 110, 114, 117, 110]⟩ : ByteArray), .string (⟨#[111, 102, 102, 100, 101, 108, 97, 121]⟩ : ByteArray), .string (⟨#[111, 110, 100, 101, 108, 97, 121]⟩ : ByteArray), .string (⟨#[112, 117, 108, 115, 101]⟩ : ByteArray)]) (ok := fun _ => True) (okp := fun _ => True) ?hr ?hp (fun _ hk => hk) trivial (Below.refl _ _) (Nat.le_refl _) (by simp) ?_; (case hd => rfl); (case hg => rfl); (case hr => first | (go_simp; done) | (go_simp; rfl)); (case hp => exact (Reps.one (show Kd.M Kd.string _ _ _ (⟨#[99, 111, 117, 110, 116]⟩ : ByteArray) [.string (⟨#[99, 111, 117, 110, 116]⟩ : ByteArray)] from rfl) (Reps.one (show Kd.M Kd.string _ _ _ (⟨#[101, 100, 103, 101]⟩ : ByteArray) [.string (⟨#[101, 100, 103, 101]⟩ : ByteArray)] from rfl) (Reps.one (show Kd.M Kd.string _ _ _ (⟨#[104, 121, 115, 116]⟩ : ByteArray) [.string (⟨#[104, 121, 115, 116]⟩ : ByteArray)] from rfl) (Reps.one (show Kd.M Kd.string _ _ _ (⟨#[108, 97, 116, 99, 104]⟩ : ByteArray) [.string (⟨#[108, 97, 116, 99, 104]⟩ : ByteArray)] from rfl) (Reps.one (show Kd.M Kd.string _ _ _ (⟨#[109, 105, 110, 114, 117, 110]⟩ : ByteArray) [.string (⟨#[109, 105, 110, 114, 117, 110]⟩ : ByteArray)] from rfl) (Reps.one (show Kd.M Kd.string _ _ _ (⟨#[111, 102, 102, 100, 101, 108, 97, 121]⟩ : ByteArray) [.string (⟨#[111, 102, 102, 100, 101, 108, 97, 121]⟩ : ByteArray)] from rfl) (Reps.one (show Kd.M Kd.string _ _ _ (⟨#[111, 110, 100, 101, 108, 97, 121]⟩ : ByteArray) [.string (⟨#[111, 110, 100, 101, 108, 97, 121]⟩ : ByteArray)] from rfl) (Reps.one (show Kd.M Kd.string _ _ _ (⟨#[112, 117, 108, 115, 101]⟩ : ByteArray) [.string (⟨#[112, 117, 108, 115, 101]⟩ : ByteArray)] from rfl) (Reps.none _ _)))))))))); intro v491 w1 ho2 hb hg_ hnew_; clear hg_ hnew_; (first | rw [← Ny490.out] at ho2 | (simp only [Int.reduceToNat] at ho2; rw [← Ny490.out] at ho2)); have HO492 := am (Kd.R_lower ho2 (below_size bl)); replace HB := am (below_step bl hb); clear hb ho2))
 go_ret
 exact ⟨_, ew, rr HO492.out, bl⟩
/-! ### plenumref19_Known: function 35 -/
def plenumref19_Known.l0 : Nat → ByteArray → List ByteArray → Int → Option (Bool)
 | 0, _, _, _ => none
 | k + 1, x0, x3, x4 => if x4 < (x3.length : Int) then (if 0 ≤ x4 then (if (rdOf ByteArray.empty x3 x4).toList = x0.toList then (some true) else (plenumref19_Known.l0 k x0 x3 (wrap64 (x4 + 1)))) else (none)) else (some false)
def plenumref19_Known.f (k : Nat) (a0 : ByteArray) : Option (Bool) := (plenumref19_Names.f).bind fun t493 => (plenumref19_Known.l0 k a0 t493 0)
theorem plenumref19_Known.mono_l : ∀ k, (∀ y0 y1 y2, LeO (plenumref19_Known.l0 k y0 y1 y2) (plenumref19_Known.l0 (k + 1) y0 y1 y2))
 | 0 => fun _ _ _ r h => by simp [plenumref19_Known.l0] at h
 | k + 1 => by
  have ih0 := plenumref19_Known.mono_l k
  ·
   intro y0 y1 y2
   unfold plenumref19_Known.l0
   repeat' first
   | (with_reducible exact ih0 _ _ _)
   | (with_reducible exact LeO.refl _)
   | (with_reducible exact LeO.none _)
   | (with_reducible refine LeO.ite ?_ ?_)
   | (with_reducible refine LeO.bind ?_ (fun _ => ?_))
   | exact LeO.none _
   | refine LeO.ite ?_ ?_
   | refine LeO.bind ?_ (fun _ => ?_)
theorem plenumref19_Known.mono : ∀ a0 k, LeO (plenumref19_Known.f k a0) (plenumref19_Known.f (k + 1) a0) := by
 intro a0 k
 have ih0 := plenumref19_Known.mono_l k
 unfold plenumref19_Known.f
 repeat' first
   | (with_reducible exact ih0 _ _ _)
   | (with_reducible exact LeO.refl _)
   | (with_reducible exact LeO.none _)
   | (with_reducible refine LeO.ite ?_ ?_)
   | (with_reducible refine LeO.bind ?_ (fun _ => ?_))
   | exact LeO.none _
   | refine LeO.ite ?_ ?_
   | refine LeO.bind ?_ (fun _ => ?_)
set_option maxHeartbeats 8000000 in
set_option maxRecDepth 100000 in
theorem plenumref19_Known.calls (k : Nat) (a0 : ByteArray) (r : Bool) (w : World) (h : plenumref19_Known.f k a0 = some r) :
  Calls Tryz.prog 35 #[.string a0] w fun e w' => e = .returned (.bool r) ∧ Below w.heap.size w w' := by
 have HB := am (Below.refl w.heap.size w)
 have H : ((plenumref19_Names.f).bind fun t493 => (plenumref19_Known.l0 k a0 t493 0)) = some r := h
 clear h
 replace H := Option.bind_eq_some_iff.mp H
 obtain ⟨t493, A20, H⟩ := H
 (try dsimp only at H)
 have A2 := am A20
 clear A20
 have H' := am H
 clear H
 go_enter Tryz.func35, Tryz.ntmps35
 go_wp2_with (first | ((refine gate_callee (f := 45) rfl ?_); refine goesL_ (some 5) rfl rfl Tryz.func45 (by kernel_rfl) rfl #[] rfl aeq ?_; (with_reducible refine (plenumref19_Names.calls  t493 _ A2.out).mono ?_); rintro e w3 ⟨v494, rfl, ho0, hb⟩; refine ⟨_, rfl, ?_⟩; have HO495 := am (Kd.R_lower ho0 (below_size bl)); replace HB := am (below_step bl hb); (try clear hb); (try clear hb2); (try clear hk); (try clear hi); (try clear ho0)))
 go_loopg [4] k (fun kq v4 w' => ∃ (x4_1 : Int), v4 = .int .i64 x4_1 ∧ Aside0 (plenumref19_Known.l0 kq a0 t493 x4_1 = some r) ∧ Aside0 (kq ≤ k) ∧ Aside0 (Kd.R Kd.string 9 w' w.heap.size (fun _ => True) v494 t493) ∧ Aside0 (Below w.heap.size w w'))
 case atStart => exact ⟨(0), (by first | rfl | (simp; done) | (simp [*]; done)), H', ⟨Nat.le_refl _⟩, ⟨rr HO495.out⟩, ⟨bl⟩⟩
 case round =>
  clear H'
  obtain ⟨x4_1, rfl, HA, HK1, HO_3, HB⟩ := hrel
  cases gk with
  | zero => exact absurd HA.out (by simp [plenumref19_Known.l0])
  | succ k1 =>
   have H := HA.out
   clear HA
   simp only [plenumref19_Known.l0] at H
   by_cases c4 : x4_1 < (t493.length : Int)
   rotate_left
   ·
    rw [if_neg c4] at H
    have c4b0 := decide_eq_false c4
    clear c4
    obtain rfl := Option.some.inj H
    obtain ⟨Ao9, co9, eo9⟩ := Kd.R_slice HO_3.out
    subst eo9
    go_wp2
    go_ret
    exact ⟨ew, bl⟩
   rw [if_pos c4] at H
   have c4b0 := decide_eq_true c4
   clear c4
   by_cases c5 : 0 ≤ x4_1
   rotate_left
   ·
    rw [if_neg c5] at H
    exact absurd H (by simp)
   rw [if_pos c5] at H
   have c5b0 := decide_eq_true c5
   clear c5
   by_cases c6 : (rdOf ByteArray.empty t493 x4_1).toList = a0.toList
   ·
    rw [if_pos c6] at H
    have c6b0 := beq_iff_eq.mpr c6
    have c6b1 := bne_eq_false_iff_eq.mpr c6
    clear c6
    obtain rfl := Option.some.inj H
    obtain ⟨Ao7, co7, eo7⟩ := Kd.R_slice HO_3.out
    subst eo7
    have p496 : 0 ≤ (x4_1 : Int) := ode; have q496 : x4_1 < (t493.length : Int) := ode; obtain ⟨ad496, e496, hx496_0⟩ := Kd.at_string (Kd.R_reads' HO_3.out).2.2 x4_1 p496 q496; cases e496; replace p496 := eq_true p496; replace q496 := eq_true q496
    go_wp2
    go_ret
    exact ⟨ew, bl⟩
   rw [if_neg c6] at H
   have c6b0 := beq_eq_false_iff_ne.mpr c6
   have c6b1 := bne_iff_ne.mpr c6
   have H' := am H
   clear H
   obtain ⟨Ao8, co8, eo8⟩ := Kd.R_slice HO_3.out
   subst eo8
   have p496 : 0 ≤ (x4_1 : Int) := ode; have q496 : x4_1 < (t493.length : Int) := ode; obtain ⟨ad496, e496, hx496_0⟩ := Kd.at_string (Kd.R_reads' HO_3.out).2.2 x4_1 p496 q496; cases e496; replace p496 := eq_true p496; replace q496 := eq_true q496
   go_wp2
   go_roundg k1
   case measure => have := HK1.out; omega
   case rel => exact ⟨(wrap64 (x4_1 + 1)), (by first | rfl | (simp; done) | (simp [*]; done)), H', ⟨by have := HK1.out; omega⟩, ⟨rr HO_3.out⟩, ⟨bl⟩⟩
/-! ### plenumref19_inside: function 46 -/
def plenumref19_inside.f (a0 : Int) : Option (Bool) := if a0 ≥ (-1000000000000) then (some (decide (a0 ≤ 1000000000000))) else (some false)
set_option maxHeartbeats 8000000 in
set_option maxRecDepth 100000 in
theorem plenumref19_inside.calls (a0 : Int) (r : Bool) (w : World) (h : plenumref19_inside.f a0 = some r) :
  Calls Tryz.prog 46 #[.int .i64 a0] w fun e w' => e = .returned (.bool r) ∧ Drawn0 w w' := by
 have H : (if a0 ≥ (-1000000000000) then (some (decide (a0 ≤ 1000000000000))) else (some false)) = some r := h
 clear h
 by_cases c2 : a0 ≥ (-1000000000000)
 ·
  rw [if_pos c2] at H
  have c2b0 : decide ((-1000000000000) ≤ a0) = true := decide_eq_true c2
  clear c2
  obtain rfl := Option.some.inj H
  go_enter Tryz.func46, Tryz.ntmps46
  go_wp2
  go_ret
  exact ⟨by first | rfl | (simp; done) | (simp [*]; done), by repeat (first | exact Drawn0.refl _ | apply Drawn0.step)⟩
 rw [if_neg c2] at H
 have c2b0 : decide ((-1000000000000) ≤ a0) = false := decide_eq_false c2
 clear c2
 obtain rfl := Option.some.inj H
 go_enter Tryz.func46, Tryz.ntmps46
 go_wp2
 go_ret
 exact ⟨by first | rfl | (simp; done) | (simp [*]; done), by repeat (first | exact Drawn0.refl _ | apply Drawn0.step)⟩
/-! ### plenumref19_seconds: function 47 -/
def plenumref19_seconds.f (a0 : Int) : Option (Bool) := if a0 ≥ 0 then (some (decide (a0 ≤ 86400))) else (some false)
set_option maxHeartbeats 8000000 in
set_option maxRecDepth 100000 in
theorem plenumref19_seconds.calls (a0 : Int) (r : Bool) (w : World) (h : plenumref19_seconds.f a0 = some r) :
  Calls Tryz.prog 47 #[.int .i64 a0] w fun e w' => e = .returned (.bool r) ∧ Drawn0 w w' := by
 have H : (if a0 ≥ 0 then (some (decide (a0 ≤ 86400))) else (some false)) = some r := h
 clear h
 by_cases c2 : a0 ≥ 0
 ·
  rw [if_pos c2] at H
  have c2b0 : decide (0 ≤ a0) = true := decide_eq_true c2
  clear c2
  obtain rfl := Option.some.inj H
  go_enter Tryz.func47, Tryz.ntmps47
  go_wp2
  go_ret
  exact ⟨by first | rfl | (simp; done) | (simp [*]; done), by repeat (first | exact Drawn0.refl _ | apply Drawn0.step)⟩
 rw [if_neg c2] at H
 have c2b0 : decide (0 ≤ a0) = false := decide_eq_false c2
 clear c2
 obtain rfl := Option.some.inj H
 go_enter Tryz.func47, Tryz.ntmps47
 go_wp2
 go_ret
 exact ⟨by first | rfl | (simp; done) | (simp [*]; done), by repeat (first | exact Drawn0.refl _ | apply Drawn0.step)⟩
end Go.Proofs.YtjjbdgngncgikaaGreatDoor.R
