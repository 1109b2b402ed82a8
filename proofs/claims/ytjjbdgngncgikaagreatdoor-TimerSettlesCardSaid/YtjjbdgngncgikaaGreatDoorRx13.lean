import Derived.Test.YtjjbdgngncgikaaGreatDoorRx0
namespace Go.Proofs.YtjjbdgngncgikaaGreatDoor.R
open Go.RowKit Go.Proofs.YtjjbdgngncgikaaGreatDoorW.PrintWords Go.Proofs.YtjjbdgngncgikaaGreatDoorW.PrintLast Go.Proofs.YtjjbdgngncgikaaGreatDoorW.PrintMore
attribute [local go_sem] max2_int min2_int max_two min_two max_three min_three max_four min_four
set_option linter.unusedVariables false
set_option linter.unusedSimpArgs false

def plenumref19_Length.f (a0 : ByteArray) : Option (Int) := if a0.toList = ([99, 111, 117, 110, 116] : List UInt8) then (some 2) else (if a0.toList = ([109, 105, 110, 114, 117, 110] : List UInt8) then (some 2) else (if a0.toList = ([112, 117, 108, 115, 101] : List UInt8) then (some 2) else (some 1)))
set_option maxHeartbeats 8000000 in
set_option maxRecDepth 100000 in
theorem plenumref19_Length.calls (a0 : ByteArray) (r : Int) (w : World) (h : plenumref19_Length.f a0 = some r) :
  Calls Tryz.prog 22 #[.string a0] w fun e w' => e = .returned (.int .i64 r) ∧ Drawn0 w w' := by
 have H : (if a0.toList = ([99, 111, 117, 110, 116] : List UInt8) then (some 2) else (if a0.toList = ([109, 105, 110, 114, 117, 110] : List UInt8) then (some 2) else (if a0.toList = ([112, 117, 108, 115, 101] : List UInt8) then (some 2) else (some 1)))) = some r := h
 clear h
 by_cases c2 : a0.toList = ([99, 111, 117, 110, 116] : List UInt8)
 ·
  rw [if_pos c2] at H
  have c2b0 := beq_iff_eq.mpr c2
  have c2b1 := bne_eq_false_iff_eq.mpr c2
  clear c2
  obtain rfl := Option.some.inj H
  go_enter Tryz.func22, Tryz.ntmps22
  go_wp2
  go_ret
  exact ⟨by first | rfl | (simp; done) | (simp [*]; done), by repeat (first | exact Drawn0.refl _ | apply Drawn0.step)⟩
 rw [if_neg c2] at H
 have c2b0 := beq_eq_false_iff_ne.mpr c2
 have c2b1 := bne_iff_ne.mpr c2
 by_cases c3 : a0.toList = ([109, 105, 110, 114, 117, 110] : List UInt8)
 ·
  rw [if_pos c3] at H
  have c3b0 := beq_iff_eq.mpr c3
  have c3b1 := bne_eq_false_iff_eq.mpr c3
  clear c3
  obtain rfl := Option.some.inj H
  go_enter Tryz.func22, Tryz.ntmps22
  go_wp2
  go_ret
  exact ⟨by first | rfl | (simp; done) | (simp [*]; done), by repeat (first | exact Drawn0.refl _ | apply Drawn0.step)⟩
 rw [if_neg c3] at H
 have c3b0 := beq_eq_false_iff_ne.mpr c3
 have c3b1 := bne_iff_ne.mpr c3
 by_cases c4 : a0.toList = ([112, 117, 108, 115, 101] : List UInt8)
 rotate_left
 ·
  rw [if_neg c4] at H
  have c4b0 := beq_eq_false_iff_ne.mpr c4
  have c4b1 := bne_iff_ne.mpr c4
  obtain rfl := Option.some.inj H
  go_enter Tryz.func22, Tryz.ntmps22
  go_wp2
  go_ret
  exact ⟨by first | rfl | (simp; done) | (simp [*]; done), by repeat (first | exact Drawn0.refl _ | apply Drawn0.step)⟩
 rw [if_pos c4] at H
 have c4b0 := beq_iff_eq.mpr c4
 have c4b1 := bne_eq_false_iff_eq.mpr c4
 clear c4
 obtain rfl := Option.some.inj H
 go_enter Tryz.func22, Tryz.ntmps22
 go_wp2
 go_ret
 exact ⟨by first | rfl | (simp; done) | (simp [*]; done), by repeat (first | exact Drawn0.refl _ | apply Drawn0.step)⟩
def plenumref19_least.f (l0 : List Int) (a1 : Int) : Option (Int) := if a1 = 1 then (if 0 < (l0.length : Int) then (some (rd l0 0)) else (none)) else (if 1 < (l0.length : Int) then (some (rd l0 1)) else (none))
set_option maxHeartbeats 8000000 in
set_option maxRecDepth 100000 in
theorem plenumref19_least.calls (A0 : Option Addr) (c0 : Nat) (l0 : List Int) (a1 : Int) (r : Int) (w : World) (hr0 : Kd.C (Kd.int .i64) w A0 l0.length l0) (hc0 : l0.length ≤ c0) (h : plenumref19_least.f l0 a1 = some r) :
  Calls Tryz.prog 23 #[.slice A0 l0.length c0, .int .i64 a1] w fun e w' => e = .returned (.int .i64 r) ∧ Drawn0 w w' := by
 have HR0 := am hr0
 have HC0 := am hc0
 clear hr0 hc0
 have H : (if a1 = 1 then (if 0 < (l0.length : Int) then (some (rd l0 0)) else (none)) else (if 1 < (l0.length : Int) then (some (rd l0 1)) else (none))) = some r := h
 clear h
 by_cases c3 : a1 = 1
 rotate_left
 ·
  rw [if_neg c3] at H
  have c3b0 := beq_eq_false_iff_ne.mpr c3
  have c3b1 := bne_iff_ne.mpr c3
  have c5 := oi H; rw [if_pos c5] at H
  have c5b0 := decide_eq_true c5
  have c5b1 : decide (1 < l0.length) = true := decide_eq_true (by omega)
  clear c5
  obtain rfl := Option.some.inj H
  have q477 := ix1 (n := l0.length) ode; obtain ⟨ad477, e477, hx477_0⟩ := Kd.at_int HR0.out 1 (by omega) (of_eq_true q477.2.2); cases e477; (try simp only [t1, Nat.reduceMul, Nat.reduceEqDiff, Go.Addr.add, ↓reduceIte] at hx477_0); obtain ⟨qi477, p477, q477⟩ := q477
  go_enter Tryz.func23, Tryz.ntmps23
  go_wp2
  go_ret
  exact ⟨by first | rfl | (simp; done) | (simp [*]; done), by repeat (first | exact Drawn0.refl _ | apply Drawn0.step)⟩
 rw [if_pos c3] at H
 have c3b0 := beq_iff_eq.mpr c3
 have c3b1 := bne_eq_false_iff_eq.mpr c3
 clear c3
 have c4 := oi H; rw [if_pos c4] at H
 have c4b0 := decide_eq_true c4
 have c4b1 : decide (0 < l0.length) = true := decide_eq_true (by omega)
 clear c4
 obtain rfl := Option.some.inj H
 have q476 := ix0 (n := l0.length) ode; obtain ⟨ad476, e476, hx476_0⟩ := Kd.at_int HR0.out 0 (by omega) (of_eq_true q476.2.2); cases e476; (try rw [t0] at hx476_0); (try rw [Addr.add_zero'] at hx476_0); obtain ⟨qi476, p476, q476⟩ := q476
 go_enter Tryz.func23, Tryz.ntmps23
 go_wp2
 go_ret
 exact ⟨by first | rfl | (simp; done) | (simp [*]; done), by repeat (first | exact Drawn0.refl _ | apply Drawn0.step)⟩
def plenumref19_Possible.j0 : Nat → ByteArray → List Int → List Int → Int → Bool → Option (Bool)
 | 0, _, _, _, _, _ => none
 | k + 1, x0, x1, x2, x7, x45 => if x45 = true then (some false) else (if x0.toList = ([99, 111, 117, 110, 116] : List UInt8) then (if 1 < (x2.length : Int) then (if (rd x2 1) ≥ 0 then (some (decide ((rd x2 1) ≤ 1000000000))) else (some false)) else (none)) else (if x0.toList = ([112, 117, 108, 115, 101] : List UInt8) then (if 1 < (x2.length : Int) then (if (rd x2 1) ≥ 0 then (if 0 < (x1.length : Int) then (some (decide ((rd x2 1) ≤ (rd x1 0)))) else (none)) else (some false)) else (none)) else (if x0.toList = ([109, 105, 110, 114, 117, 110] : List UInt8) then (if 1 < (x2.length : Int) then (if (rd x2 1) ≥ 0 then ((plenumref19_least.f x1 x7).bind fun t489 => (some (decide ((rd x2 1) ≤ t489)))) else (some false)) else (none)) else (some true))))
def plenumref19_Possible.f (k : Nat) (a0 : ByteArray) (l1 : List Int) (l2 : List Int) : Option (Bool) := (plenumref19_Length.f a0).bind fun t478 => (if (l2.length : Int) = t478 then (if 0 < (l2.length : Int) then (if a0.toList = ([111, 110, 100, 101, 108, 97, 121] : List UInt8) then (if (rd l2 0) ≥ 0 then (if 0 < (l1.length : Int) then (some (decide ((rd l2 0) ≤ (wrap64 ((rd l1 0) + 1))))) else (none)) else (some false)) else (if a0.toList = ([111, 102, 102, 100, 101, 108, 97, 121] : List UInt8) then (if (rd l2 0) ≥ (-1) then (if 0 < (l1.length : Int) then (some (decide ((rd l2 0) ≤ (rd l1 0)))) else (none)) else (some false)) else (if (rd l2 0) < 0 then (plenumref19_Possible.j0 k a0 l1 l2 (rd l2 0) true) else (plenumref19_Possible.j0 k a0 l1 l2 (rd l2 0) (decide ((rd l2 0) > 1)))))) else (none)) else (some false))
theorem plenumref19_Possible.mono_l : ∀ k, (∀ y0 y1 y2 y3 y4, LeO (plenumref19_Possible.j0 k y0 y1 y2 y3 y4) (plenumref19_Possible.j0 (k + 1) y0 y1 y2 y3 y4))
 | 0 => fun _ _ _ _ _ r h => by simp [plenumref19_Possible.j0] at h
 | k + 1 => by
  have ih0 := plenumref19_Possible.mono_l k
  ·
   intro y0 y1 y2 y3 y4
   unfold plenumref19_Possible.j0
   repeat' first
   | (with_reducible exact ih0 _ _ _ _ _)
   | (with_reducible exact LeO.refl _)
   | (with_reducible exact LeO.none _)
   | (with_reducible refine LeO.ite ?_ ?_)
   | (with_reducible refine LeO.bind ?_ (fun _ => ?_))
   | exact LeO.none _
   | refine LeO.ite ?_ ?_
   | refine LeO.bind ?_ (fun _ => ?_)
theorem plenumref19_Possible.mono : ∀ a0 a1 a2 k, LeO (plenumref19_Possible.f k a0 a1 a2) (plenumref19_Possible.f (k + 1) a0 a1 a2) := by
 intro a0 a1 a2 k
 have ih0 := plenumref19_Possible.mono_l k
 unfold plenumref19_Possible.f
 repeat' first
   | (with_reducible exact ih0 _ _ _ _ _)
   | (with_reducible exact LeO.refl _)
   | (with_reducible exact LeO.none _)
   | (with_reducible refine LeO.ite ?_ ?_)
   | (with_reducible refine LeO.bind ?_ (fun _ => ?_))
   | exact LeO.none _
   | refine LeO.ite ?_ ?_
   | refine LeO.bind ?_ (fun _ => ?_)
set_option maxHeartbeats 8000000 in
set_option maxRecDepth 100000 in
theorem plenumref19_Possible.calls (k : Nat) (a0 : ByteArray) (A1 : Option Addr) (c1 : Nat) (l1 : List Int) (A2 : Option Addr) (c2 : Nat) (l2 : List Int) (r : Bool) (w : World) (hr1 : Kd.C (Kd.int .i64) w A1 l1.length l1) (hc1 : l1.length ≤ c1) (hr2 : Kd.C (Kd.int .i64) w A2 l2.length l2) (hc2 : l2.length ≤ c2) (h : plenumref19_Possible.f k a0 l1 l2 = some r) :
  Calls Tryz.prog 9 #[.string a0, .slice A1 l1.length c1, .slice A2 l2.length c2] w fun e w' => e = .returned (.bool r) ∧ Drawn0 w w' := by
 have HR1 := am hr1
 have HC1 := am hc1
 clear hr1 hc1
 have HR2 := am hr2
 have HC2 := am hc2
 clear hr2 hc2
 have H : ((plenumref19_Length.f a0).bind fun t478 => (if (l2.length : Int) = t478 then (if 0 < (l2.length : Int) then (if a0.toList = ([111, 110, 100, 101, 108, 97, 121] : List UInt8) then (if (rd l2 0) ≥ 0 then (if 0 < (l1.length : Int) then (some (decide ((rd l2 0) ≤ (wrap64 ((rd l1 0) + 1))))) else (none)) else (some false)) else (if a0.toList = ([111, 102, 102, 100, 101, 108, 97, 121] : List UInt8) then (if (rd l2 0) ≥ (-1) then (if 0 < (l1.length : Int) then (some (decide ((rd l2 0) ≤ (rd l1 0)))) else (none)) else (some false)) else (if (rd l2 0) < 0 then (plenumref19_Possible.j0 k a0 l1 l2 (rd l2 0) true) else (plenumref19_Possible.j0 k a0 l1 l2 (rd l2 0) (decide ((rd l2 0) > 1)))))) else (none)) else (some false))) = some r := h
 clear h
 obtain ⟨t478, A4, H⟩ := Option.bind_eq_some_iff.mp H
 (try dsimp only at H)
 replace A4 := am A4
 by_cases c5 : (l2.length : Int) = t478
 rotate_left
 ·
  rw [if_neg c5] at H
  have c5b0 := beq_eq_false_iff_ne.mpr c5
  have c5b1 := bne_iff_ne.mpr c5
  obtain rfl := Option.some.inj H
  go_enter Tryz.func9, Tryz.ntmps9
  go_wp2_with (first | (go_at_call 22; (with_reducible refine (plenumref19_Length.calls a0 t478 _ A4.out).mono ?_); rintro e w' ⟨rfl, ⟨nd, rfl⟩⟩; (try exact dd)) | (go_quiet (first | (go_at_call 22; (with_reducible refine (plenumref19_Length.calls a0 t478 _ A4.out).mono ?_); rintro e w' ⟨rfl, ⟨nd, rfl⟩⟩; (try exact dd)))))
  go_ret
  exact ⟨by first | rfl | (simp; done) | (simp [*]; done), by repeat (first | exact Drawn0.refl _ | apply Drawn0.step)⟩
 rw [if_pos c5] at H
 have c5b0 := beq_iff_eq.mpr c5
 have c5b1 := bne_eq_false_iff_eq.mpr c5
 clear c5
 have c6 := oi H; rw [if_pos c6] at H
 have c6b0 := decide_eq_true c6
 have c6b1 : decide (0 < l2.length) = true := decide_eq_true (by omega)
 clear c6
 by_cases c7 : a0.toList = ([111, 110, 100, 101, 108, 97, 121] : List UInt8)
 ·
  rw [if_pos c7] at H
  have c7b0 := beq_iff_eq.mpr c7
  have c7b1 := bne_eq_false_iff_eq.mpr c7
  clear c7
  by_cases c8 : (rd l2 0) ≥ 0
  rotate_left
  ·
   rw [if_neg c8] at H
   have c8b0 : decide (0 ≤ (rd l2 0)) = false := decide_eq_false c8
   clear c8
   obtain rfl := Option.some.inj H
   go_enter Tryz.func9, Tryz.ntmps9
   go_wp2_with (first | (go_at_call 22; (with_reducible refine (plenumref19_Length.calls a0 t478 _ A4.out).mono ?_); rintro e w' ⟨rfl, ⟨nd, rfl⟩⟩; (try exact dd); have q479 := ix0 (n := l2.length) ode; obtain ⟨ad479, e479, hx479_0⟩ := Kd.at_int HR2.out 0 (by omega) (of_eq_true q479.2.2); cases e479; (try rw [t0] at hx479_0); (try rw [Addr.add_zero'] at hx479_0); obtain ⟨qi479, p479, q479⟩ := q479) | (go_quiet (first | (go_at_call 22; (with_reducible refine (plenumref19_Length.calls a0 t478 _ A4.out).mono ?_); rintro e w' ⟨rfl, ⟨nd, rfl⟩⟩; (try exact dd); have q479 := ix0 (n := l2.length) ode; obtain ⟨ad479, e479, hx479_0⟩ := Kd.at_int HR2.out 0 (by omega) (of_eq_true q479.2.2); cases e479; (try rw [t0] at hx479_0); (try rw [Addr.add_zero'] at hx479_0); obtain ⟨qi479, p479, q479⟩ := q479))))
   go_ret
   exact ⟨by first | rfl | (simp; done) | (simp [*]; done), by repeat (first | exact Drawn0.refl _ | apply Drawn0.step)⟩
  rw [if_pos c8] at H
  have c8b0 : decide (0 ≤ (rd l2 0)) = true := decide_eq_true c8
  clear c8
  have c9 := oi H; rw [if_pos c9] at H
  have c9b0 := decide_eq_true c9
  have c9b1 : decide (0 < l1.length) = true := decide_eq_true (by omega)
  clear c9
  obtain rfl := Option.some.inj H
  go_enter Tryz.func9, Tryz.ntmps9
  go_wp2_with (first | (go_at_call 22; (with_reducible refine (plenumref19_Length.calls a0 t478 _ A4.out).mono ?_); rintro e w' ⟨rfl, ⟨nd, rfl⟩⟩; (try exact dd); have q479 := ix0 (n := l2.length) ode; obtain ⟨ad479, e479, hx479_0⟩ := Kd.at_int HR2.out 0 (by omega) (of_eq_true q479.2.2); cases e479; (try rw [t0] at hx479_0); (try rw [Addr.add_zero'] at hx479_0); obtain ⟨qi479, p479, q479⟩ := q479; have q480 := ix0 (n := l1.length) ode; obtain ⟨ad480, e480, hx480_0⟩ := Kd.at_int HR1.out 0 (by omega) (of_eq_true q480.2.2); cases e480; (try rw [t0] at hx480_0); (try rw [Addr.add_zero'] at hx480_0); obtain ⟨qi480, p480, q480⟩ := q480) | (go_quiet (first | (go_at_call 22; (with_reducible refine (plenumref19_Length.calls a0 t478 _ A4.out).mono ?_); rintro e w' ⟨rfl, ⟨nd, rfl⟩⟩; (try exact dd); have q479 := ix0 (n := l2.length) ode; obtain ⟨ad479, e479, hx479_0⟩ := Kd.at_int HR2.out 0 (by omega) (of_eq_true q479.2.2); cases e479; (try rw [t0] at hx479_0); (try rw [Addr.add_zero'] at hx479_0); obtain ⟨qi479, p479, q479⟩ := q479; have q480 := ix0 (n := l1.length) ode; obtain ⟨ad480, e480, hx480_0⟩ := Kd.at_int HR1.out 0 (by omega) (of_eq_true q480.2.2); cases e480; (try rw [t0] at hx480_0); (try rw [Addr.add_zero'] at hx480_0); obtain ⟨qi480, p480, q480⟩ := q480))))
  go_ret
  exact ⟨by first | rfl | (simp; done) | (simp [*]; done), by repeat (first | exact Drawn0.refl _ | apply Drawn0.step)⟩
 rw [if_neg c7] at H
 have c7b0 := beq_eq_false_iff_ne.mpr c7
 have c7b1 := bne_iff_ne.mpr c7
 by_cases c10 : a0.toList = ([111, 102, 102, 100, 101, 108, 97, 121] : List UInt8)
 ·
  rw [if_pos c10] at H
  have c10b0 := beq_iff_eq.mpr c10
  have c10b1 := bne_eq_false_iff_eq.mpr c10
  clear c10
  by_cases c11 : (rd l2 0) ≥ (-1)
  rotate_left
  ·
   rw [if_neg c11] at H
   have c11b0 : decide ((-1) ≤ (rd l2 0)) = false := decide_eq_false c11
   clear c11
   obtain rfl := Option.some.inj H
   go_enter Tryz.func9, Tryz.ntmps9
   go_wp2_with (first | (go_at_call 22; (with_reducible refine (plenumref19_Length.calls a0 t478 _ A4.out).mono ?_); rintro e w' ⟨rfl, ⟨nd, rfl⟩⟩; (try exact dd); have q479 := ix0 (n := l2.length) ode; obtain ⟨ad479, e479, hx479_0⟩ := Kd.at_int HR2.out 0 (by omega) (of_eq_true q479.2.2); cases e479; (try rw [t0] at hx479_0); (try rw [Addr.add_zero'] at hx479_0); obtain ⟨qi479, p479, q479⟩ := q479) | (go_quiet (first | (go_at_call 22; (with_reducible refine (plenumref19_Length.calls a0 t478 _ A4.out).mono ?_); rintro e w' ⟨rfl, ⟨nd, rfl⟩⟩; (try exact dd); have q479 := ix0 (n := l2.length) ode; obtain ⟨ad479, e479, hx479_0⟩ := Kd.at_int HR2.out 0 (by omega) (of_eq_true q479.2.2); cases e479; (try rw [t0] at hx479_0); (try rw [Addr.add_zero'] at hx479_0); obtain ⟨qi479, p479, q479⟩ := q479))))
   go_ret
   exact ⟨by first | rfl | (simp; done) | (simp [*]; done), by repeat (first | exact Drawn0.refl _ | apply Drawn0.step)⟩
  rw [if_pos c11] at H
  have c11b0 : decide ((-1) ≤ (rd l2 0)) = true := decide_eq_true c11
  clear c11
  have c12 := oi H; rw [if_pos c12] at H
  have c12b0 := decide_eq_true c12
  have c12b1 : decide (0 < l1.length) = true := decide_eq_true (by omega)
  clear c12
  obtain rfl := Option.some.inj H
  go_enter Tryz.func9, Tryz.ntmps9
  go_wp2_with (first | (go_at_call 22; (with_reducible refine (plenumref19_Length.calls a0 t478 _ A4.out).mono ?_); rintro e w' ⟨rfl, ⟨nd, rfl⟩⟩; (try exact dd); have q479 := ix0 (n := l2.length) ode; obtain ⟨ad479, e479, hx479_0⟩ := Kd.at_int HR2.out 0 (by omega) (of_eq_true q479.2.2); cases e479; (try rw [t0] at hx479_0); (try rw [Addr.add_zero'] at hx479_0); obtain ⟨qi479, p479, q479⟩ := q479; have q481 := ix0 (n := l1.length) ode; obtain ⟨ad481, e481, hx481_0⟩ := Kd.at_int HR1.out 0 (by omega) (of_eq_true q481.2.2); cases e481; (try rw [t0] at hx481_0); (try rw [Addr.add_zero'] at hx481_0); obtain ⟨qi481, p481, q481⟩ := q481) | (go_quiet (first | (go_at_call 22; (with_reducible refine (plenumref19_Length.calls a0 t478 _ A4.out).mono ?_); rintro e w' ⟨rfl, ⟨nd, rfl⟩⟩; (try exact dd); have q479 := ix0 (n := l2.length) ode; obtain ⟨ad479, e479, hx479_0⟩ := Kd.at_int HR2.out 0 (by omega) (of_eq_true q479.2.2); cases e479; (try rw [t0] at hx479_0); (try rw [Addr.add_zero'] at hx479_0); obtain ⟨qi479, p479, q479⟩ := q479; have q481 := ix0 (n := l1.length) ode; obtain ⟨ad481, e481, hx481_0⟩ := Kd.at_int HR1.out 0 (by omega) (of_eq_true q481.2.2); cases e481; (try rw [t0] at hx481_0); (try rw [Addr.add_zero'] at hx481_0); obtain ⟨qi481, p481, q481⟩ := q481))))
  go_ret
  exact ⟨by first | rfl | (simp; done) | (simp [*]; done), by repeat (first | exact Drawn0.refl _ | apply Drawn0.step)⟩
 rw [if_neg c10] at H
 have c10b0 := beq_eq_false_iff_ne.mpr c10
 have c10b1 := bne_iff_ne.mpr c10
 have HC13 := am H
 clear H
 go_enter Tryz.func9, Tryz.ntmps9
 go_upto_region 9 with (first | (go_at_call 22; (with_reducible refine (plenumref19_Length.calls a0 t478 _ A4.out).mono ?_); rintro e w' ⟨rfl, ⟨nd, rfl⟩⟩; (try exact dd); have q479 := ix0 (n := l2.length) ode; obtain ⟨ad479, e479, hx479_0⟩ := Kd.at_int HR2.out 0 (by omega) (of_eq_true q479.2.2); cases e479; (try rw [t0] at hx479_0); (try rw [Addr.add_zero'] at hx479_0); obtain ⟨qi479, p479, q479⟩ := q479))
 repeat (go_quiet (first | (go_at_call 22; (with_reducible refine (plenumref19_Length.calls a0 t478 _ A4.out).mono ?_); rintro e w' ⟨rfl, ⟨nd, rfl⟩⟩; (try exact dd); have q479 := ix0 (n := l2.length) ode; obtain ⟨ad479, e479, hx479_0⟩ := Kd.at_int HR2.out 0 (by omega) (of_eq_true q479.2.2); cases e479; (try rw [t0] at hx479_0); (try rw [Addr.add_zero'] at hx479_0); obtain ⟨qi479, p479, q479⟩ := q479)); go_upto_region 9 with (first | (go_at_call 22; (with_reducible refine (plenumref19_Length.calls a0 t478 _ A4.out).mono ?_); rintro e w' ⟨rfl, ⟨nd, rfl⟩⟩; (try exact dd); have q479 := ix0 (n := l2.length) ode; obtain ⟨ad479, e479, hx479_0⟩ := Kd.at_int HR2.out 0 (by omega) (of_eq_true q479.2.2); cases e479; (try rw [t0] at hx479_0); (try rw [Addr.add_zero'] at hx479_0); obtain ⟨qi479, p479, q479⟩ := q479)))
 (try simp only [ap, sa, sb, sc])
 go_cut [45] (fun v45 wc => ∃ (kq : Nat) (x45_12 : Bool), v45 = .bool x45_12 ∧ Aside0 (plenumref19_Possible.j0 kq a0 l1 l2 (rd l2 0) x45_12 = some r) ∧ Aside0 (kq ≤ k) ∧ Drawn0 w wc)
 case first =>
  have H := HC13.out
  clear HC13
  by_cases c14 : (rd l2 0) < 0
  ·
   rw [if_pos c14] at H
   have c14b0 := decide_eq_true c14
   clear c14
   (first | rw [c14b0] | (simp only [i64_w, i32_w]; rw [c14b0]) | skip)
   have H' := am H
   clear H
   go_wp2
   repeat (go_quiet (fail); try go_wp2)
   go_meet
   case rel => exact ⟨_, (true), (by first | rfl | (simp; done) | (simp [*]; done)), H', ⟨by first | omega | exact Nat.le_refl _⟩, by repeat (first | exact Drawn0.refl _ | apply Drawn0.step)⟩
  rw [if_neg c14] at H
  have c14b0 := decide_eq_false c14
  clear c14
  (first | rw [c14b0] | (simp only [i64_w, i32_w]; rw [c14b0]) | skip)
  have H' := am H
  clear H
  go_wp2
  repeat (go_quiet (fail); try go_wp2)
  go_meet
  case rel => exact ⟨_, (decide ((rd l2 0) > 1)), (by first | rfl | (simp; done) | (simp [*]; done)), H', ⟨by first | omega | exact Nat.le_refl _⟩, by repeat (first | exact Drawn0.refl _ | apply Drawn0.step)⟩
 clear HC13
 obtain ⟨kq, x45_12, rfl, HA, HJ12, ⟨mc12, rfl⟩⟩ := hcut
 cases kq with
 | zero => exact absurd HA.out (by simp [plenumref19_Possible.j0])
 | succ kj12 =>
  have H := HA.out
  clear HA
  simp only [plenumref19_Possible.j0] at H
  by_cases c15 : x45_12 = true
  ·
   subst c15
   rw [if_pos rfl] at H
   obtain rfl := Option.some.inj H
   go_wp2
   repeat (go_quiet (fail); try go_wp2)
   go_ret
   exact ⟨by first | rfl | (simp; done) | (simp [*]; done), by repeat (first | exact Drawn0.refl _ | apply Drawn0.step)⟩
  replace c15 := Bool.eq_false_iff.mpr c15
  subst c15
  rw [if_neg (show ¬ (false = true) by decide)] at H
  by_cases c16 : a0.toList = ([99, 111, 117, 110, 116] : List UInt8)
  ·
   rw [if_pos c16] at H
   have c16b0 := beq_iff_eq.mpr c16
   have c16b1 := bne_eq_false_iff_eq.mpr c16
   clear c16
   have c17 := oi H; rw [if_pos c17] at H
   have c17b0 := decide_eq_true c17
   have c17b1 : decide (1 < l2.length) = true := decide_eq_true (by omega)
   clear c17
   by_cases c18 : (rd l2 1) ≥ 0
   ·
    rw [if_pos c18] at H
    have c18b0 : decide (0 ≤ (rd l2 1)) = true := decide_eq_true c18
    clear c18
    obtain rfl := Option.some.inj H
    have q482 := ix1 (n := l2.length) ode; obtain ⟨ad482, e482, hx482_0⟩ := Kd.at_int HR2.out 1 (by omega) (of_eq_true q482.2.2); obtain rfl : ad479 = ad482 := (by injection e482); (try simp only [t1, Nat.reduceMul, Nat.reduceEqDiff, Go.Addr.add, ↓reduceIte] at hx482_0); obtain ⟨qi482, p482, q482⟩ := q482; have q483 := ix1 (n := l2.length) ode; obtain ⟨ad483, e483, hx483_0⟩ := Kd.at_int HR2.out 1 (by omega) (of_eq_true q483.2.2); obtain rfl : ad479 = ad483 := (by injection e483); (try simp only [t1, Nat.reduceMul, Nat.reduceEqDiff, Go.Addr.add, ↓reduceIte] at hx483_0); obtain ⟨qi483, p483, q483⟩ := q483
    go_wp2
    repeat (go_quiet (fail); try go_wp2)
    go_ret
    exact ⟨by first | rfl | (simp; done) | (simp [*]; done), by repeat (first | exact Drawn0.refl _ | apply Drawn0.step)⟩
   rw [if_neg c18] at H
   have c18b0 : decide (0 ≤ (rd l2 1)) = false := decide_eq_false c18
   clear c18
   obtain rfl := Option.some.inj H
   have q482 := ix1 (n := l2.length) ode; obtain ⟨ad482, e482, hx482_0⟩ := Kd.at_int HR2.out 1 (by omega) (of_eq_true q482.2.2); obtain rfl : ad479 = ad482 := (by injection e482); (try simp only [t1, Nat.reduceMul, Nat.reduceEqDiff, Go.Addr.add, ↓reduceIte] at hx482_0); obtain ⟨qi482, p482, q482⟩ := q482
   go_wp2
   repeat (go_quiet (fail); try go_wp2)
   go_ret
   exact ⟨by first | rfl | (simp; done) | (simp [*]; done), by repeat (first | exact Drawn0.refl _ | apply Drawn0.step)⟩
  rw [if_neg c16] at H
  have c16b0 := beq_eq_false_iff_ne.mpr c16
  have c16b1 := bne_iff_ne.mpr c16
  by_cases c19 : a0.toList = ([112, 117, 108, 115, 101] : List UInt8)
  ·
   rw [if_pos c19] at H
   have c19b0 := beq_iff_eq.mpr c19
   have c19b1 := bne_eq_false_iff_eq.mpr c19
   clear c19
   have c20 := oi H; rw [if_pos c20] at H
   have c20b0 := decide_eq_true c20
   have c20b1 : decide (1 < l2.length) = true := decide_eq_true (by omega)
   clear c20
   by_cases c21 : (rd l2 1) ≥ 0
   rotate_left
   ·
    rw [if_neg c21] at H
    have c21b0 : decide (0 ≤ (rd l2 1)) = false := decide_eq_false c21
    clear c21
    obtain rfl := Option.some.inj H
    have q484 := ix1 (n := l2.length) ode; obtain ⟨ad484, e484, hx484_0⟩ := Kd.at_int HR2.out 1 (by omega) (of_eq_true q484.2.2); obtain rfl : ad479 = ad484 := (by injection e484); (try simp only [t1, Nat.reduceMul, Nat.reduceEqDiff, Go.Addr.add, ↓reduceIte] at hx484_0); obtain ⟨qi484, p484, q484⟩ := q484
    go_wp2
    repeat (go_quiet (fail); try go_wp2)
    go_ret
    exact ⟨by first | rfl | (simp; done) | (simp [*]; done), by repeat (first | exact Drawn0.refl _ | apply Drawn0.step)⟩
   rw [if_pos c21] at H
   have c21b0 : decide (0 ≤ (rd l2 1)) = true := decide_eq_true c21
   clear c21
   have c22 := oi H; rw [if_pos c22] at H
   have c22b0 := decide_eq_true c22
   have c22b1 : decide (0 < l1.length) = true := decide_eq_true (by omega)
   clear c22
   obtain rfl := Option.some.inj H
   have q484 := ix1 (n := l2.length) ode; obtain ⟨ad484, e484, hx484_0⟩ := Kd.at_int HR2.out 1 (by omega) (of_eq_true q484.2.2); obtain rfl : ad479 = ad484 := (by injection e484); (try simp only [t1, Nat.reduceMul, Nat.reduceEqDiff, Go.Addr.add, ↓reduceIte] at hx484_0); obtain ⟨qi484, p484, q484⟩ := q484; have q485 := ix1 (n := l2.length) ode; obtain ⟨ad485, e485, hx485_0⟩ := Kd.at_int HR2.out 1 (by omega) (of_eq_true q485.2.2); obtain rfl : ad479 = ad485 := (by injection e485); (try simp only [t1, Nat.reduceMul, Nat.reduceEqDiff, Go.Addr.add, ↓reduceIte] at hx485_0); obtain ⟨qi485, p485, q485⟩ := q485; have q486 := ix0 (n := l1.length) ode; obtain ⟨ad486, e486, hx486_0⟩ := Kd.at_int HR1.out 0 (by omega) (of_eq_true q486.2.2); cases e486; (try rw [t0] at hx486_0); (try rw [Addr.add_zero'] at hx486_0); obtain ⟨qi486, p486, q486⟩ := q486
   go_wp2
   repeat (go_quiet (fail); try go_wp2)
   go_ret
   exact ⟨by first | rfl | (simp; done) | (simp [*]; done), by repeat (first | exact Drawn0.refl _ | apply Drawn0.step)⟩
  rw [if_neg c19] at H
  have c19b0 := beq_eq_false_iff_ne.mpr c19
  have c19b1 := bne_iff_ne.mpr c19
  by_cases c23 : a0.toList = ([109, 105, 110, 114, 117, 110] : List UInt8)
  rotate_left
  ·
   rw [if_neg c23] at H
   have c23b0 := beq_eq_false_iff_ne.mpr c23
   have c23b1 := bne_iff_ne.mpr c23
   obtain rfl := Option.some.inj H
   go_wp2
   repeat (go_quiet (fail); try go_wp2)
   go_ret
   exact ⟨by first | rfl | (simp; done) | (simp [*]; done), by repeat (first | exact Drawn0.refl _ | apply Drawn0.step)⟩
  rw [if_pos c23] at H
  have c23b0 := beq_iff_eq.mpr c23
  have c23b1 := bne_eq_false_iff_eq.mpr c23
  clear c23
  have c24 := oi H; rw [if_pos c24] at H
  have c24b0 := decide_eq_true c24
  have c24b1 : decide (1 < l2.length) = true := decide_eq_true (by omega)
  clear c24
  by_cases c25 : (rd l2 1) ≥ 0
  rotate_left
  ·
   rw [if_neg c25] at H
   have c25b0 : decide (0 ≤ (rd l2 1)) = false := decide_eq_false c25
   clear c25
   obtain rfl := Option.some.inj H
   have q487 := ix1 (n := l2.length) ode; obtain ⟨ad487, e487, hx487_0⟩ := Kd.at_int HR2.out 1 (by omega) (of_eq_true q487.2.2); obtain rfl : ad479 = ad487 := (by injection e487); (try simp only [t1, Nat.reduceMul, Nat.reduceEqDiff, Go.Addr.add, ↓reduceIte] at hx487_0); obtain ⟨qi487, p487, q487⟩ := q487
   go_wp2
   repeat (go_quiet (fail); try go_wp2)
   go_ret
   exact ⟨by first | rfl | (simp; done) | (simp [*]; done), by repeat (first | exact Drawn0.refl _ | apply Drawn0.step)⟩
  rw [if_pos c25] at H
  have c25b0 : decide (0 ≤ (rd l2 1)) = true := decide_eq_true c25
  clear c25
  obtain ⟨t489, A26, H⟩ := Option.bind_eq_some_iff.mp H
  (try dsimp only at H)
  replace A26 := am A26
  obtain rfl := Option.some.inj H
  have q487 := ix1 (n := l2.length) ode; obtain ⟨ad487, e487, hx487_0⟩ := Kd.at_int HR2.out 1 (by omega) (of_eq_true q487.2.2); obtain rfl : ad479 = ad487 := (by injection e487); (try simp only [t1, Nat.reduceMul, Nat.reduceEqDiff, Go.Addr.add, ↓reduceIte] at hx487_0); obtain ⟨qi487, p487, q487⟩ := q487; have q488 := ix1 (n := l2.length) ode; obtain ⟨ad488, e488, hx488_0⟩ := Kd.at_int HR2.out 1 (by omega) (of_eq_true q488.2.2); obtain rfl : ad479 = ad488 := (by injection e488); (try simp only [t1, Nat.reduceMul, Nat.reduceEqDiff, Go.Addr.add, ↓reduceIte] at hx488_0); obtain ⟨qi488, p488, q488⟩ := q488
  go_wp2_with (first | (go_at_call 23; (with_reducible refine (plenumref19_least.calls _ _ l1 (rd l2 0) t489 _ ?side1 ?side2 A26.out).mono ?_); (case side1 => repeat (first | exact HR1.out | (with_reducible refine Kd.C_alloc ?_ _) | (with_reducible refine Kd.C_drewN ?_ _) | (with_reducible refine Kd.C_drew ?_))); (case side2 => exact HC1.out); rintro e w' ⟨rfl, ⟨nd, rfl⟩⟩; (try exact dd)) | (go_quiet (first | (go_at_call 23; (with_reducible refine (plenumref19_least.calls _ _ l1 (rd l2 0) t489 _ ?side1 ?side2 A26.out).mono ?_); (case side1 => repeat (first | exact HR1.out | (with_reducible refine Kd.C_alloc ?_ _) | (with_reducible refine Kd.C_drewN ?_ _) | (with_reducible refine Kd.C_drew ?_))); (case side2 => exact HC1.out); rintro e w' ⟨rfl, ⟨nd, rfl⟩⟩; (try exact dd)))))
  go_ret
  exact ⟨by first | rfl | (simp; done) | (simp [*]; done), by repeat (first | exact Drawn0.refl _ | apply Drawn0.step)⟩
def plenumref19_Names.f  : Option (List ByteArray) := some (([(⟨#[99, 111, 117, 110, 116]⟩ : ByteArray), (⟨#[101, 100, 103, 101]⟩ : ByteArray), (⟨#[104, 121, 115, 116]⟩ : ByteArray), (⟨#[108, 97, 116, 99, 104]⟩ : ByteArray), (⟨#[109, 105, 110, 114, 117, 110]⟩ : ByteArray), (⟨#[111, 102, 102, 100, 101, 108, 97, 121]⟩ : ByteArray), (⟨#[111, 110, 100, 101, 108, 97, 121]⟩ : ByteArray), (⟨#[112, 117, 108, 115, 101]⟩ : ByteArray)] : List ByteArray))
set_option maxHeartbeats 8000000 in
set_option maxRecDepth 100000 in
theorem plenumref19_Names.calls  (r : List ByteArray) (w : World) (h : plenumref19_Names.f  = some r) :
  Calls Tryz.prog 45 #[] w fun e w' => ∃ v0_ : Value, e = .returned (v0_) ∧ Kd.R Kd.string 9 w' w.heap.size (fun _ => True) v0_ r ∧ Below w.heap.size w w' := by
 have HB := am (Below.refl w.heap.size w)
 have H : (some (([(⟨#[99, 111, 117, 110, 116]⟩ : ByteArray), (⟨#[101, 100, 103, 101]⟩ : ByteArray), (⟨#[104, 121, 115, 116]⟩ : ByteArray), (⟨#[108, 97, 116, 99, 104]⟩ : ByteArray), (⟨#[109, 105, 110, 114, 117, 110]⟩ : ByteArray), (⟨#[111, 102, 102, 100, 101, 108, 97, 121]⟩ : ByteArray), (⟨#[111, 110, 100, 101, 108, 97, 121]⟩ : ByteArray), (⟨#[112, 117, 108, 115, 101]⟩ : ByteArray)] : List ByteArray))) = some r := h
 clear h
 obtain ⟨y490, hy490⟩ : ∃ y_ : List ByteArray, y_ = (([(⟨#[99, 111, 117, 110, 116]⟩ : ByteArray), (⟨#[101, 100, 103, 101]⟩ : ByteArray), (⟨#[104, 121, 115, 116]⟩ : ByteArray), (⟨#[108, 97, 116, 99, 104]⟩ : ByteArray), (⟨#[109, 105, 110, 114, 117, 110]⟩ : ByteArray), (⟨#[111, 102, 102, 100, 101, 108, 97, 121]⟩ : ByteArray), (⟨#[111, 110, 100, 101, 108, 97, 121]⟩ : ByteArray), (⟨#[112, 117, 108, 115, 101]⟩ : ByteArray)] : List ByteArray)) := ⟨_, rfl⟩
 (try rw [← hy490] at H); (try rw [Option.bind_some] at H); (try dsimp only at H)
 have Ny490 := am hy490
 clear hy490
 obtain rfl := Option.some.inj H
 go_enter Tryz.func45, Tryz.ntmps45
 go_wp2_with (first | ((refine gate_dst (N := 1) rfl ?_); refine Kd.R_lit Kd.string _ 9 ?hg (N := 1) ?hd (xs := ([(⟨#[99, 111, 117, 110, 116]⟩ : ByteArray), (⟨#[101, 100, 103, 101]⟩ : ByteArray), (⟨#[104, 121, 115, 116]⟩ : ByteArray), (⟨#[108, 97, 116, 99, 104]⟩ : ByteArray), (⟨#[109, 105, 110, 114, 117, 110]⟩ : ByteArray), (⟨#[111, 102, 102, 100, 101, 108, 97, 121]⟩ : ByteArray), (⟨#[111, 110, 100, 101, 108, 97, 121]⟩ : ByteArray), (⟨#[112, 117, 108, 115, 101]⟩ : ByteArray)] : List ByteArray)) (inner := [.string (⟨#[99, 111, 117, 110, 116]⟩ : ByteArray), .string (⟨#[101, 100, 103, 101]⟩ : ByteArray), .string (⟨#[104, 121, 115, 116]⟩ : ByteArray), .string (⟨#[108, 97, 116, 99, 104]⟩ : ByteArray), .string (⟨#[109, 105, 110, 114, 117, 110]⟩ : ByteArray), .string (⟨#[111, 102, 102, 100, 101, 108, 97, 121]⟩ : ByteArray), .string (⟨#[111, 110, 100, 101, 108, 97, 121]⟩ : ByteArray), .string (⟨#[112, 117, 108, 115, 101]⟩ : ByteArray)]) (ok := fun _ => True) (okp := fun _ => True) ?hr ?hp (fun _ hk => hk) trivial (Below.refl _ _) (Nat.le_refl _) (by simp) ?_; (case hd => rfl); (case hg => rfl); (case hr => first | (go_simp; done) | (go_simp; rfl)); (case hp => exact (Reps.one (show Kd.M Kd.string _ _ _ (⟨#[99, 111, 117, 110, 116]⟩ : ByteArray) [.string (⟨#[99, 111, 117, 110, 116]⟩ : ByteArray)] from rfl) (Reps.one (show Kd.M Kd.string _ _ _ (⟨#[101, 100, 103, 101]⟩ : ByteArray) [.string (⟨#[101, 100, 103, 101]⟩ : ByteArray)] from rfl) (Reps.one (show Kd.M Kd.string _ _ _ (⟨#[104, 121, 115, 116]⟩ : ByteArray) [.string (⟨#[104, 121, 115, 116]⟩ : ByteArray)] from rfl) (Reps.one (show Kd.M Kd.string _ _ _ (⟨#[108, 97, 116, 99, 104]⟩ : ByteArray) [.string (⟨#[108, 97, 116, 99, 104]⟩ : ByteArray)] from rfl) (Reps.one (show Kd.M Kd.string _ _ _ (⟨#[109, 105, 110, 114, 117, 110]⟩ : ByteArray) [.string (⟨#[109, 105, 110, 114, 117, 110]⟩ : ByteArray)] from rfl) (Reps.one (show Kd.M Kd.string _ _ _ (⟨#[111, 102, 102, 100, 101, 108, 97, 121]⟩ : ByteArray) [.string (⟨#[111, 102, 102, 100, 101, 108, 97, 121]⟩ : ByteArray)] from rfl) (Reps.one (show Kd.M Kd.string _ _ _ (⟨#[111, 110, 100, 101, 108, 97, 121]⟩ : ByteArray) [.string (⟨#[111, 110, 100, 101, 108, 97, 121]⟩ : ByteArray)] from rfl) (Reps.one (show Kd.M Kd.string _ _ _ (⟨#[112, 117, 108, 115, 101]⟩ : ByteArray) [.string (⟨#[112, 117, 108, 115, 101]⟩ : ByteArray)] from rfl) (Reps.none _ _)))))))))); intro v491 w1 ho2 hb hg_ hnew_; clear hg_ hnew_; (first | rw [← Ny490.out] at ho2 | (simp only [Int.reduceToNat] at ho2; rw [← Ny490.out] at ho2)); have HO492 := am (Kd.R_lower ho2 (below_size bl)); replace HB := am (below_step bl hb); clear hb ho2))
 go_ret
 exact ⟨_, ew, rr HO492.out, bl⟩
def plenumref19_Known.l0 : Nat → ByteArray → List ByteArray → Int → Option (Bool)
 | 0, _, _, _ => none
 | k + 1, x0, x3, x4 => if x4 < (x3.length : Int) then (if 0 ≤ x4 then (if (rdOf ByteArray.empty x3 x4).toList = x0.toList then (some true) else (plenumref19_Known.l0 k x0 x3 (wrap64 (x4 + 1)))) else (none)) else (some false)
def plenumref19_Known.f (k : Nat) (a0 : ByteArray) : Option (Bool) := (plenumref19_Names.f).bind fun t493 => (plenumref19_Known.l0 k a0 t493 0)
theorem plenumref19_Known.mono_l : ∀ k, (∀ y0 y1 y2, LeO (plenumref19_Known.l0 k y0 y1 y2) (plenumref19_Known.l0 (k + 1) y0 y1 y2))
 | 0 => fun _ _ _ r h => by simp [plenumref19_Known.l0] at h
 | k + 1 => by
  have ih0 := plenumref19_Known.mono_l k
  ·
   intro y0 y1 y2
   unfold plenumref19_Known.l0
   repeat' first
   | (with_reducible exact ih0 _ _ _)
   | (with_reducible exact LeO.refl _)
   | (with_reducible exact LeO.none _)
   | (with_reducible refine LeO.ite ?_ ?_)
   | (with_reducible refine LeO.bind ?_ (fun _ => ?_))
   | exact LeO.none _
   | refine LeO.ite ?_ ?_
   | refine LeO.bind ?_ (fun _ => ?_)
theorem plenumref19_Known.mono : ∀ a0 k, LeO (plenumref19_Known.f k a0) (plenumref19_Known.f (k + 1) a0) := by
 intro a0 k
 have ih0 := plenumref19_Known.mono_l k
 unfold plenumref19_Known.f
 repeat' first
   | (with_reducible exact ih0 _ _ _)
   | (with_reducible exact LeO.refl _)
   | (with_reducible exact LeO.none _)
   | (with_reducible refine LeO.ite ?_ ?_)
   | (with_reducible refine LeO.bind ?_ (fun _ => ?_))
   | exact LeO.none _
   | refine LeO.ite ?_ ?_
   | refine LeO.bind ?_ (fun _ => ?_)
set_option maxHeartbeats 8000000 in
set_option maxRecDepth 100000 in
theorem plenumref19_Known.calls (k : Nat) (a0 : ByteArray) (r : Bool) (w : World) (h : plenumref19_Known.f k a0 = some r) :
  Calls Tryz.prog 35 #[.string a0] w fun e w' => e = .returned (.bool r) ∧ Below w.heap.size w w' := by
 have HB := am (Below.refl w.heap.size w)
 have H : ((plenumref19_Names.f).bind fun t493 => (plenumref19_Known.l0 k a0 t493 0)) = some r := h
 clear h
 obtain ⟨t493, A2, H⟩ := Option.bind_eq_some_iff.mp H
 (try dsimp only at H)
 replace A2 := am A2
 have H' := am H
 clear H
 go_enter Tryz.func35, Tryz.ntmps35
 go_wp2_with (first | ((refine gate_callee (f := 45) rfl ?_); refine gl (some 5) Tryz.func45 #[] ?_; (with_reducible refine (plenumref19_Names.calls  t493 _ A2.out).mono ?_); rintro e w3 ⟨v494, rfl, ho0, hb⟩; refine ⟨_, rfl, ?_⟩; have HO495 := am (Kd.R_lower ho0 (below_size bl)); replace HB := am (below_step bl hb); (try clear hb); (try clear hb2); (try clear hk); (try clear hi); (try clear ho0)))
 go_loopg [4] k (fun kq v4 w' => ∃ (x4_1 : Int), v4 = .int .i64 x4_1 ∧ Aside0 (plenumref19_Known.l0 kq a0 t493 x4_1 = some r) ∧ Aside0 (kq ≤ k) ∧ Aside0 (Kd.R Kd.string 9 w' w.heap.size (fun _ => True) v494 t493) ∧ Aside0 (Below w.heap.size w w'))
 case atStart => exact ⟨(0), (by first | rfl | (simp; done) | (simp [*]; done)), H', ⟨Nat.le_refl _⟩, ⟨rr HO495.out⟩, ⟨bl⟩⟩
 case round =>
  clear H'
  obtain ⟨x4_1, rfl, HA, HK1, HO_3, HB⟩ := hrel
  cases gk with
  | zero => exact absurd HA.out (by simp [plenumref19_Known.l0])
  | succ k1 =>
   have H := HA.out
   clear HA
   simp only [plenumref19_Known.l0] at H
   by_cases c4 : x4_1 < (t493.length : Int)
   rotate_left
   ·
    rw [if_neg c4] at H
    have c4b0 := decide_eq_false c4
    clear c4
    obtain rfl := Option.some.inj H
    obtain ⟨Ao9, co9, eo9⟩ := Kd.R_slice HO_3.out
    subst eo9
    go_wp2
    go_ret
    exact ⟨ew, bl⟩
   rw [if_pos c4] at H
   have c4b0 := decide_eq_true c4
   clear c4
   have c5 := oi H; rw [if_pos c5] at H
   have c5b0 := decide_eq_true c5
   clear c5
   by_cases c6 : (rdOf ByteArray.empty t493 x4_1).toList = a0.toList
   ·
    rw [if_pos c6] at H
    have c6b0 := beq_iff_eq.mpr c6
    have c6b1 := bne_eq_false_iff_eq.mpr c6
    clear c6
    obtain rfl := Option.some.inj H
    obtain ⟨Ao7, co7, eo7⟩ := Kd.R_slice HO_3.out
    subst eo7
    have q496 := ixv (i := x4_1) (n := t493.length) ode ode; obtain ⟨ad496, e496, hx496_0⟩ := Kd.at_string (Kd.R_reads' HO_3.out).2.2 x4_1 (of_eq_true q496.1) (of_eq_true q496.2); cases e496; obtain ⟨p496, q496⟩ := q496
    go_wp2
    go_ret
    exact ⟨ew, bl⟩
   rw [if_neg c6] at H
   have c6b0 := beq_eq_false_iff_ne.mpr c6
   have c6b1 := bne_iff_ne.mpr c6
   have H' := am H
   clear H
   obtain ⟨Ao8, co8, eo8⟩ := Kd.R_slice HO_3.out
   subst eo8
   have q496 := ixv (i := x4_1) (n := t493.length) ode ode; obtain ⟨ad496, e496, hx496_0⟩ := Kd.at_string (Kd.R_reads' HO_3.out).2.2 x4_1 (of_eq_true q496.1) (of_eq_true q496.2); cases e496; obtain ⟨p496, q496⟩ := q496
   go_wp2
   go_roundg k1
   case measure => have := HK1.out; omega
   case rel => exact ⟨(wrap64 (x4_1 + 1)), (by first | rfl | (simp; done) | (simp [*]; done)), H', ⟨by have := HK1.out; omega⟩, ⟨rr HO_3.out⟩, ⟨bl⟩⟩
def plenumref19_inside.f (a0 : Int) : Option (Bool) := if a0 ≥ (-1000000000000) then (some (decide (a0 ≤ 1000000000000))) else (some false)
set_option maxHeartbeats 8000000 in
set_option maxRecDepth 100000 in
theorem plenumref19_inside.calls (a0 : Int) (r : Bool) (w : World) (h : plenumref19_inside.f a0 = some r) :
  Calls Tryz.prog 46 #[.int .i64 a0] w fun e w' => e = .returned (.bool r) ∧ Drawn0 w w' := by
 have H : (if a0 ≥ (-1000000000000) then (some (decide (a0 ≤ 1000000000000))) else (some false)) = some r := h
 clear h
 by_cases c2 : a0 ≥ (-1000000000000)
 ·
  rw [if_pos c2] at H
  have c2b0 : decide ((-1000000000000) ≤ a0) = true := decide_eq_true c2
  clear c2
  obtain rfl := Option.some.inj H
  go_enter Tryz.func46, Tryz.ntmps46
  go_wp2
  go_ret
  exact ⟨by first | rfl | (simp; done) | (simp [*]; done), by repeat (first | exact Drawn0.refl _ | apply Drawn0.step)⟩
 rw [if_neg c2] at H
 have c2b0 : decide ((-1000000000000) ≤ a0) = false := decide_eq_false c2
 clear c2
 obtain rfl := Option.some.inj H
 go_enter Tryz.func46, Tryz.ntmps46
 go_wp2
 go_ret
 exact ⟨by first | rfl | (simp; done) | (simp [*]; done), by repeat (first | exact Drawn0.refl _ | apply Drawn0.step)⟩
def plenumref19_seconds.f (a0 : Int) : Option (Bool) := if a0 ≥ 0 then (some (decide (a0 ≤ 86400))) else (some false)
set_option maxHeartbeats 8000000 in
set_option maxRecDepth 100000 in
theorem plenumref19_seconds.calls (a0 : Int) (r : Bool) (w : World) (h : plenumref19_seconds.f a0 = some r) :
  Calls Tryz.prog 47 #[.int .i64 a0] w fun e w' => e = .returned (.bool r) ∧ Drawn0 w w' := by
 have H : (if a0 ≥ 0 then (some (decide (a0 ≤ 86400))) else (some false)) = some r := h
 clear h
 by_cases c2 : a0 ≥ 0
 ·
  rw [if_pos c2] at H
  have c2b0 : decide (0 ≤ a0) = true := decide_eq_true c2
  clear c2
  obtain rfl := Option.some.inj H
  go_enter Tryz.func47, Tryz.ntmps47
  go_wp2
  go_ret
  exact ⟨by first | rfl | (simp; done) | (simp [*]; done), by repeat (first | exact Drawn0.refl _ | apply Drawn0.step)⟩
 rw [if_neg c2] at H
 have c2b0 : decide (0 ≤ a0) = false := decide_eq_false c2
 clear c2
 obtain rfl := Option.some.inj H
 go_enter Tryz.func47, Tryz.ntmps47
 go_wp2
 go_ret
 exact ⟨by first | rfl | (simp; done) | (simp [*]; done), by repeat (first | exact Drawn0.refl _ | apply Drawn0.step)⟩
def plenumref19_Formed.f (a0 : ByteArray) (l1 : List Int) : Option (Bool) := if a0.toList = ([104, 121, 115, 116] : List UInt8) then (if (l1.length : Int) = 2 then (if 0 < (l1.length : Int) then ((plenumref19_inside.f (rd l1 0)).bind fun t498 => (if t498 = true then (if 1 < (l1.length : Int) then ((plenumref19_inside.f (rd l1 1)).bind fun t500 => (if t500 = true then (some (decide ((rd l1 1) < (rd l1 0)))) else (some false))) else (none)) else (some false))) else (none)) else (some false)) else (if a0.toList = ([109, 105, 110, 114, 117, 110] : List UInt8) then (if (l1.length : Int) = 2 then (if 0 < (l1.length : Int) then ((plenumref19_seconds.f (rd l1 0)).bind fun t504 => (if t504 = true then (if 1 < (l1.length : Int) then ((plenumref19_seconds.f (rd l1 1)).bind fun t506 => (some t506)) else (none)) else (some false))) else (none)) else (some false)) else (if a0.toList = ([111, 102, 102, 100, 101, 108, 97, 121] : List UInt8) then (if (l1.length : Int) = 1 then (if 0 < (l1.length : Int) then ((plenumref19_seconds.f (rd l1 0)).bind fun t508 => (some t508)) else (none)) else (some false)) else (if a0.toList = ([111, 110, 100, 101, 108, 97, 121] : List UInt8) then (if (l1.length : Int) = 1 then (if 0 < (l1.length : Int) then ((plenumref19_seconds.f (rd l1 0)).bind fun t510 => (some t510)) else (none)) else (some false)) else (if a0.toList = ([112, 117, 108, 115, 101] : List UInt8) then (if (l1.length : Int) = 1 then (if 0 < (l1.length : Int) then ((plenumref19_seconds.f (rd l1 0)).bind fun t512 => (some t512)) else (none)) else (some false)) else (some ((l1.length : Int) == 0))))))
set_option maxHeartbeats 8000000 in
set_option maxRecDepth 100000 in
theorem plenumref19_Formed.calls (a0 : ByteArray) (A1 : Option Addr) (c1 : Nat) (l1 : List Int) (r : Bool) (w : World) (hr1 : Kd.C (Kd.int .i64) w A1 l1.length l1) (hc1 : l1.length ≤ c1) (h : plenumref19_Formed.f a0 l1 = some r) :
  Calls Tryz.prog 36 #[.string a0, .slice A1 l1.length c1] w fun e w' => e = .returned (.bool r) ∧ Drawn0 w w' := by
 have HR1 := am hr1
 have HC1 := am hc1
 clear hr1 hc1
 have H : (if a0.toList = ([104, 121, 115, 116] : List UInt8) then (if (l1.length : Int) = 2 then (if 0 < (l1.length : Int) then ((plenumref19_inside.f (rd l1 0)).bind fun t498 => (if t498 = true then (if 1 < (l1.length : Int) then ((plenumref19_inside.f (rd l1 1)).bind fun t500 => (if t500 = true then (some (decide ((rd l1 1) < (rd l1 0)))) else (some false))) else (none)) else (some false))) else (none)) else (some false)) else (if a0.toList = ([109, 105, 110, 114, 117, 110] : List UInt8) then (if (l1.length : Int) = 2 then (if 0 < (l1.length : Int) then ((plenumref19_seconds.f (rd l1 0)).bind fun t504 => (if t504 = true then (if 1 < (l1.length : Int) then ((plenumref19_seconds.f (rd l1 1)).bind fun t506 => (some t506)) else (none)) else (some false))) else (none)) else (some false)) else (if a0.toList = ([111, 102, 102, 100, 101, 108, 97, 121] : List UInt8) then (if (l1.length : Int) = 1 then (if 0 < (l1.length : Int) then ((plenumref19_seconds.f (rd l1 0)).bind fun t508 => (some t508)) else (none)) else (some false)) else (if a0.toList = ([111, 110, 100, 101, 108, 97, 121] : List UInt8) then (if (l1.length : Int) = 1 then (if 0 < (l1.length : Int) then ((plenumref19_seconds.f (rd l1 0)).bind fun t510 => (some t510)) else (none)) else (some false)) else (if a0.toList = ([112, 117, 108, 115, 101] : List UInt8) then (if (l1.length : Int) = 1 then (if 0 < (l1.length : Int) then ((plenumref19_seconds.f (rd l1 0)).bind fun t512 => (some t512)) else (none)) else (some false)) else (some ((l1.length : Int) == 0))))))) = some r := h
 clear h
 by_cases c3 : a0.toList = ([104, 121, 115, 116] : List UInt8)
 ·
  rw [if_pos c3] at H
  have c3b0 := beq_iff_eq.mpr c3
  have c3b1 := bne_eq_false_iff_eq.mpr c3
  clear c3
  by_cases c4 : (l1.length : Int) = 2
  rotate_left
  ·
   rw [if_neg c4] at H
   have c4b0 := beq_eq_false_iff_ne.mpr c4
   have c4b1 := bne_iff_ne.mpr c4
   obtain rfl := Option.some.inj H
   go_enter Tryz.func36, Tryz.ntmps36
   go_wp2
   repeat (go_quiet (fail); try go_wp2)
   go_ret
   exact ⟨by first | rfl | (simp; done) | (simp [*]; done), by repeat (first | exact Drawn0.refl _ | apply Drawn0.step)⟩
  rw [if_pos c4] at H
  have c4b0 := beq_iff_eq.mpr c4
  have c4b1 := bne_eq_false_iff_eq.mpr c4
  clear c4
  have c5 := oi H; rw [if_pos c5] at H
  have c5b0 := decide_eq_true c5
  have c5b1 : decide (0 < l1.length) = true := decide_eq_true (by omega)
  clear c5
  obtain ⟨t498, A6, H⟩ := Option.bind_eq_some_iff.mp H
  (try dsimp only at H)
  replace A6 := am A6
  by_cases c7 : t498 = true
  rotate_left
  ·
   replace c7 := Bool.eq_false_iff.mpr c7
   subst c7
   rw [if_neg (show ¬ (false = true) by decide)] at H
   obtain rfl := Option.some.inj H
   have q497 := ix0 (n := l1.length) ode; obtain ⟨ad497, e497, hx497_0⟩ := Kd.at_int HR1.out 0 (by omega) (of_eq_true q497.2.2); cases e497; (try rw [t0] at hx497_0); (try rw [Addr.add_zero'] at hx497_0); obtain ⟨qi497, p497, q497⟩ := q497
   go_enter Tryz.func36, Tryz.ntmps36
   go_wp2_with (first | (go_at_call 46; (with_reducible refine (plenumref19_inside.calls (rd l1 0) false _ A6.out).mono ?_); rintro e w' ⟨rfl, ⟨nd, rfl⟩⟩; (try exact dd)) | (go_quiet (first | (go_at_call 46; (with_reducible refine (plenumref19_inside.calls (rd l1 0) false _ A6.out).mono ?_); rintro e w' ⟨rfl, ⟨nd, rfl⟩⟩; (try exact dd)))))
   go_ret
   exact ⟨by first | rfl | (simp; done) | (simp [*]; done), by repeat (first | exact Drawn0.refl _ | apply Drawn0.step)⟩
  subst c7
  rw [if_pos rfl] at H
  have c8 := oi H; rw [if_pos c8] at H
  have c8b0 := decide_eq_true c8
  have c8b1 : decide (1 < l1.length) = true := decide_eq_true (by omega)
  clear c8
  obtain ⟨t500, A9, H⟩ := Option.bind_eq_some_iff.mp H
  (try dsimp only at H)
  replace A9 := am A9
  by_cases c10 : t500 = true
  ·
   subst c10
   rw [if_pos rfl] at H
   obtain rfl := Option.some.inj H
   have q497 := ix0 (n := l1.length) ode; obtain ⟨ad497, e497, hx497_0⟩ := Kd.at_int HR1.out 0 (by omega) (of_eq_true q497.2.2); cases e497; (try rw [t0] at hx497_0); (try rw [Addr.add_zero'] at hx497_0); obtain ⟨qi497, p497, q497⟩ := q497
   go_enter Tryz.func36, Tryz.ntmps36
   go_wp2_with (first | (go_at_call 46; (with_reducible refine (plenumref19_inside.calls (rd l1 0) true _ A6.out).mono ?_); rintro e w' ⟨rfl, ⟨nd, rfl⟩⟩; (try exact dd); have q499 := ix1 (n := l1.length) ode; obtain ⟨ad499, e499, hx499_0⟩ := Kd.at_int HR1.out 1 (by omega) (of_eq_true q499.2.2); obtain rfl : ad497 = ad499 := (by injection e499); (try simp only [t1, Nat.reduceMul, Nat.reduceEqDiff, Go.Addr.add, ↓reduceIte] at hx499_0); obtain ⟨qi499, p499, q499⟩ := q499) | (go_at_call 46; (with_reducible refine (plenumref19_inside.calls (rd l1 1) true _ A9.out).mono ?_); rintro e w' ⟨rfl, ⟨nd, rfl⟩⟩; (try exact dd); have q501 := ix1 (n := l1.length) ode; obtain ⟨ad501, e501, hx501_0⟩ := Kd.at_int HR1.out 1 (by omega) (of_eq_true q501.2.2); obtain rfl : ad497 = ad501 := (by injection e501); (try simp only [t1, Nat.reduceMul, Nat.reduceEqDiff, Go.Addr.add, ↓reduceIte] at hx501_0); obtain ⟨qi501, p501, q501⟩ := q501; have q502 := ix0 (n := l1.length) ode; obtain ⟨ad502, e502, hx502_0⟩ := Kd.at_int HR1.out 0 (by omega) (of_eq_true q502.2.2); obtain rfl : ad497 = ad502 := (by injection e502); (try rw [t0] at hx502_0); (try rw [Addr.add_zero'] at hx502_0); obtain ⟨qi502, p502, q502⟩ := q502) | (go_quiet (first | (go_at_call 46; (with_reducible refine (plenumref19_inside.calls (rd l1 0) true _ A6.out).mono ?_); rintro e w' ⟨rfl, ⟨nd, rfl⟩⟩; (try exact dd); have q499 := ix1 (n := l1.length) ode; obtain ⟨ad499, e499, hx499_0⟩ := Kd.at_int HR1.out 1 (by omega) (of_eq_true q499.2.2); obtain rfl : ad497 = ad499 := (by injection e499); (try simp only [t1, Nat.reduceMul, Nat.reduceEqDiff, Go.Addr.add, ↓reduceIte] at hx499_0); obtain ⟨qi499, p499, q499⟩ := q499) | (go_at_call 46; (with_reducible refine (plenumref19_inside.calls (rd l1 1) true _ A9.out).mono ?_); rintro e w' ⟨rfl, ⟨nd, rfl⟩⟩; (try exact dd); have q501 := ix1 (n := l1.length) ode; obtain ⟨ad501, e501, hx501_0⟩ := Kd.at_int HR1.out 1 (by omega) (of_eq_true q501.2.2); obtain rfl : ad497 = ad501 := (by injection e501); (try simp only [t1, Nat.reduceMul, Nat.reduceEqDiff, Go.Addr.add, ↓reduceIte] at hx501_0); obtain ⟨qi501, p501, q501⟩ := q501; have q502 := ix0 (n := l1.length) ode; obtain ⟨ad502, e502, hx502_0⟩ := Kd.at_int HR1.out 0 (by omega) (of_eq_true q502.2.2); obtain rfl : ad497 = ad502 := (by injection e502); (try rw [t0] at hx502_0); (try rw [Addr.add_zero'] at hx502_0); obtain ⟨qi502, p502, q502⟩ := q502))))
   go_ret
   exact ⟨by first | rfl | (simp; done) | (simp [*]; done), by repeat (first | exact Drawn0.refl _ | apply Drawn0.step)⟩
  replace c10 := Bool.eq_false_iff.mpr c10
  subst c10
  rw [if_neg (show ¬ (false = true) by decide)] at H
  obtain rfl := Option.some.inj H
  have q497 := ix0 (n := l1.length) ode; obtain ⟨ad497, e497, hx497_0⟩ := Kd.at_int HR1.out 0 (by omega) (of_eq_true q497.2.2); cases e497; (try rw [t0] at hx497_0); (try rw [Addr.add_zero'] at hx497_0); obtain ⟨qi497, p497, q497⟩ := q497
  go_enter Tryz.func36, Tryz.ntmps36
  go_wp2_with (first | (go_at_call 46; (with_reducible refine (plenumref19_inside.calls (rd l1 0) true _ A6.out).mono ?_); rintro e w' ⟨rfl, ⟨nd, rfl⟩⟩; (try exact dd); have q499 := ix1 (n := l1.length) ode; obtain ⟨ad499, e499, hx499_0⟩ := Kd.at_int HR1.out 1 (by omega) (of_eq_true q499.2.2); obtain rfl : ad497 = ad499 := (by injection e499); (try simp only [t1, Nat.reduceMul, Nat.reduceEqDiff, Go.Addr.add, ↓reduceIte] at hx499_0); obtain ⟨qi499, p499, q499⟩ := q499) | (go_at_call 46; (with_reducible refine (plenumref19_inside.calls (rd l1 1) false _ A9.out).mono ?_); rintro e w' ⟨rfl, ⟨nd, rfl⟩⟩; (try exact dd)) | (go_quiet (first | (go_at_call 46; (with_reducible refine (plenumref19_inside.calls (rd l1 0) true _ A6.out).mono ?_); rintro e w' ⟨rfl, ⟨nd, rfl⟩⟩; (try exact dd); have q499 := ix1 (n := l1.length) ode; obtain ⟨ad499, e499, hx499_0⟩ := Kd.at_int HR1.out 1 (by omega) (of_eq_true q499.2.2); obtain rfl : ad497 = ad499 := (by injection e499); (try simp only [t1, Nat.reduceMul, Nat.reduceEqDiff, Go.Addr.add, ↓reduceIte] at hx499_0); obtain ⟨qi499, p499, q499⟩ := q499) | (go_at_call 46; (with_reducible refine (plenumref19_inside.calls (rd l1 1) false _ A9.out).mono ?_); rintro e w' ⟨rfl, ⟨nd, rfl⟩⟩; (try exact dd)))))
  go_ret
  exact ⟨by first | rfl | (simp; done) | (simp [*]; done), by repeat (first | exact Drawn0.refl _ | apply Drawn0.step)⟩
 rw [if_neg c3] at H
 have c3b0 := beq_eq_false_iff_ne.mpr c3
 have c3b1 := bne_iff_ne.mpr c3
 by_cases c11 : a0.toList = ([109, 105, 110, 114, 117, 110] : List UInt8)
 ·
  rw [if_pos c11] at H
  have c11b0 := beq_iff_eq.mpr c11
  have c11b1 := bne_eq_false_iff_eq.mpr c11
  clear c11
  by_cases c12 : (l1.length : Int) = 2
  rotate_left
  ·
   rw [if_neg c12] at H
   have c12b0 := beq_eq_false_iff_ne.mpr c12
   have c12b1 := bne_iff_ne.mpr c12
   obtain rfl := Option.some.inj H
   go_enter Tryz.func36, Tryz.ntmps36
   go_wp2
   repeat (go_quiet (fail); try go_wp2)
   go_ret
   exact ⟨by first | rfl | (simp; done) | (simp [*]; done), by repeat (first | exact Drawn0.refl _ | apply Drawn0.step)⟩
  rw [if_pos c12] at H
  have c12b0 := beq_iff_eq.mpr c12
  have c12b1 := bne_eq_false_iff_eq.mpr c12
  clear c12
  have c13 := oi H; rw [if_pos c13] at H
  have c13b0 := decide_eq_true c13
  have c13b1 : decide (0 < l1.length) = true := decide_eq_true (by omega)
  clear c13
  obtain ⟨t504, A14, H⟩ := Option.bind_eq_some_iff.mp H
  (try dsimp only at H)
  replace A14 := am A14
  by_cases c15 : t504 = true
  rotate_left
  ·
   replace c15 := Bool.eq_false_iff.mpr c15
   subst c15
   rw [if_neg (show ¬ (false = true) by decide)] at H
   obtain rfl := Option.some.inj H
   have q503 := ix0 (n := l1.length) ode; obtain ⟨ad503, e503, hx503_0⟩ := Kd.at_int HR1.out 0 (by omega) (of_eq_true q503.2.2); cases e503; (try rw [t0] at hx503_0); (try rw [Addr.add_zero'] at hx503_0); obtain ⟨qi503, p503, q503⟩ := q503
   go_enter Tryz.func36, Tryz.ntmps36
   go_wp2_with (first | (go_at_call 47; (with_reducible refine (plenumref19_seconds.calls (rd l1 0) false _ A14.out).mono ?_); rintro e w' ⟨rfl, ⟨nd, rfl⟩⟩; (try exact dd)) | (go_quiet (first | (go_at_call 47; (with_reducible refine (plenumref19_seconds.calls (rd l1 0) false _ A14.out).mono ?_); rintro e w' ⟨rfl, ⟨nd, rfl⟩⟩; (try exact dd)))))
   go_ret
   exact ⟨by first | rfl | (simp; done) | (simp [*]; done), by repeat (first | exact Drawn0.refl _ | apply Drawn0.step)⟩
  subst c15
  rw [if_pos rfl] at H
  have c16 := oi H; rw [if_pos c16] at H
  have c16b0 := decide_eq_true c16
  have c16b1 : decide (1 < l1.length) = true := decide_eq_true (by omega)
  clear c16
  obtain ⟨t506, A17, H⟩ := Option.bind_eq_some_iff.mp H
  (try dsimp only at H)
  replace A17 := am A17
  obtain rfl := Option.some.inj H
  have q503 := ix0 (n := l1.length) ode; obtain ⟨ad503, e503, hx503_0⟩ := Kd.at_int HR1.out 0 (by omega) (of_eq_true q503.2.2); cases e503; (try rw [t0] at hx503_0); (try rw [Addr.add_zero'] at hx503_0); obtain ⟨qi503, p503, q503⟩ := q503
  go_enter Tryz.func36, Tryz.ntmps36
  go_wp2_with (first | (go_at_call 47; (with_reducible refine (plenumref19_seconds.calls (rd l1 0) true _ A14.out).mono ?_); rintro e w' ⟨rfl, ⟨nd, rfl⟩⟩; (try exact dd); have q505 := ix1 (n := l1.length) ode; obtain ⟨ad505, e505, hx505_0⟩ := Kd.at_int HR1.out 1 (by omega) (of_eq_true q505.2.2); obtain rfl : ad503 = ad505 := (by injection e505); (try simp only [t1, Nat.reduceMul, Nat.reduceEqDiff, Go.Addr.add, ↓reduceIte] at hx505_0); obtain ⟨qi505, p505, q505⟩ := q505) | (go_at_call 47; (with_reducible refine (plenumref19_seconds.calls (rd l1 1) t506 _ A17.out).mono ?_); rintro e w' ⟨rfl, ⟨nd, rfl⟩⟩; (try exact dd)) | (go_quiet (first | (go_at_call 47; (with_reducible refine (plenumref19_seconds.calls (rd l1 0) true _ A14.out).mono ?_); rintro e w' ⟨rfl, ⟨nd, rfl⟩⟩; (try exact dd); have q505 := ix1 (n := l1.length) ode; obtain ⟨ad505, e505, hx505_0⟩ := Kd.at_int HR1.out 1 (by omega) (of_eq_true q505.2.2); obtain rfl : ad503 = ad505 := (by injection e505); (try simp only [t1, Nat.reduceMul, Nat.reduceEqDiff, Go.Addr.add, ↓reduceIte] at hx505_0); obtain ⟨qi505, p505, q505⟩ := q505) | (go_at_call 47; (with_reducible refine (plenumref19_seconds.calls (rd l1 1) t506 _ A17.out).mono ?_); rintro e w' ⟨rfl, ⟨nd, rfl⟩⟩; (try exact dd)))))
  go_ret
  exact ⟨by first | rfl | (simp; done) | (simp [*]; done), by repeat (first | exact Drawn0.refl _ | apply Drawn0.step)⟩
 rw [if_neg c11] at H
 have c11b0 := beq_eq_false_iff_ne.mpr c11
 have c11b1 := bne_iff_ne.mpr c11
 by_cases c18 : a0.toList = ([111, 102, 102, 100, 101, 108, 97, 121] : List UInt8)
 ·
  rw [if_pos c18] at H
  have c18b0 := beq_iff_eq.mpr c18
  have c18b1 := bne_eq_false_iff_eq.mpr c18
  clear c18
  by_cases c19 : (l1.length : Int) = 1
  rotate_left
  ·
   rw [if_neg c19] at H
   have c19b0 := beq_eq_false_iff_ne.mpr c19
   have c19b1 := bne_iff_ne.mpr c19
   obtain rfl := Option.some.inj H
   go_enter Tryz.func36, Tryz.ntmps36
   go_wp2
   repeat (go_quiet (fail); try go_wp2)
   go_ret
   exact ⟨by first | rfl | (simp; done) | (simp [*]; done), by repeat (first | exact Drawn0.refl _ | apply Drawn0.step)⟩
  rw [if_pos c19] at H
  have c19b0 := beq_iff_eq.mpr c19
  have c19b1 := bne_eq_false_iff_eq.mpr c19
  clear c19
  have c20 := oi H; rw [if_pos c20] at H
  have c20b0 := decide_eq_true c20
  have c20b1 : decide (0 < l1.length) = true := decide_eq_true (by omega)
  clear c20
  obtain ⟨t508, A21, H⟩ := Option.bind_eq_some_iff.mp H
  (try dsimp only at H)
  replace A21 := am A21
  obtain rfl := Option.some.inj H
  have q507 := ix0 (n := l1.length) ode; obtain ⟨ad507, e507, hx507_0⟩ := Kd.at_int HR1.out 0 (by omega) (of_eq_true q507.2.2); cases e507; (try rw [t0] at hx507_0); (try rw [Addr.add_zero'] at hx507_0); obtain ⟨qi507, p507, q507⟩ := q507
  go_enter Tryz.func36, Tryz.ntmps36
  go_wp2_with (first | (go_at_call 47; (with_reducible refine (plenumref19_seconds.calls (rd l1 0) t508 _ A21.out).mono ?_); rintro e w' ⟨rfl, ⟨nd, rfl⟩⟩; (try exact dd)) | (go_quiet (first | (go_at_call 47; (with_reducible refine (plenumref19_seconds.calls (rd l1 0) t508 _ A21.out).mono ?_); rintro e w' ⟨rfl, ⟨nd, rfl⟩⟩; (try exact dd)))))
  go_ret
  exact ⟨by first | rfl | (simp; done) | (simp [*]; done), by repeat (first | exact Drawn0.refl _ | apply Drawn0.step)⟩
 rw [if_neg c18] at H
 have c18b0 := beq_eq_false_iff_ne.mpr c18
 have c18b1 := bne_iff_ne.mpr c18
 by_cases c22 : a0.toList = ([111, 110, 100, 101, 108, 97, 121] : List UInt8)
 ·
  rw [if_pos c22] at H
  have c22b0 := beq_iff_eq.mpr c22
  have c22b1 := bne_eq_false_iff_eq.mpr c22
  clear c22
  by_cases c23 : (l1.length : Int) = 1
  rotate_left
  ·
   rw [if_neg c23] at H
   have c23b0 := beq_eq_false_iff_ne.mpr c23
   have c23b1 := bne_iff_ne.mpr c23
   obtain rfl := Option.some.inj H
   go_enter Tryz.func36, Tryz.ntmps36
   go_wp2
   repeat (go_quiet (fail); try go_wp2)
   go_ret
   exact ⟨by first | rfl | (simp; done) | (simp [*]; done), by repeat (first | exact Drawn0.refl _ | apply Drawn0.step)⟩
  rw [if_pos c23] at H
  have c23b0 := beq_iff_eq.mpr c23
  have c23b1 := bne_eq_false_iff_eq.mpr c23
  clear c23
  have c24 := oi H; rw [if_pos c24] at H
  have c24b0 := decide_eq_true c24
  have c24b1 : decide (0 < l1.length) = true := decide_eq_true (by omega)
  clear c24
  obtain ⟨t510, A25, H⟩ := Option.bind_eq_some_iff.mp H
  (try dsimp only at H)
  replace A25 := am A25
  obtain rfl := Option.some.inj H
  have q509 := ix0 (n := l1.length) ode; obtain ⟨ad509, e509, hx509_0⟩ := Kd.at_int HR1.out 0 (by omega) (of_eq_true q509.2.2); cases e509; (try rw [t0] at hx509_0); (try rw [Addr.add_zero'] at hx509_0); obtain ⟨qi509, p509, q509⟩ := q509
  go_enter Tryz.func36, Tryz.ntmps36
  go_wp2_with (first | (go_at_call 47; (with_reducible refine (plenumref19_seconds.calls (rd l1 0) t510 _ A25.out).mono ?_); rintro e w' ⟨rfl, ⟨nd, rfl⟩⟩; (try exact dd)) | (go_quiet (first | (go_at_call 47; (with_reducible refine (plenumref19_seconds.calls (rd l1 0) t510 _ A25.out).mono ?_); rintro e w' ⟨rfl, ⟨nd, rfl⟩⟩; (try exact dd)))))
  go_ret
  exact ⟨by first | rfl | (simp; done) | (simp [*]; done), by repeat (first | exact Drawn0.refl _ | apply Drawn0.step)⟩
 rw [if_neg c22] at H
 have c22b0 := beq_eq_false_iff_ne.mpr c22
 have c22b1 := bne_iff_ne.mpr c22
 by_cases c26 : a0.toList = ([112, 117, 108, 115, 101] : List UInt8)
 rotate_left
 ·
  rw [if_neg c26] at H
  have c26b0 := beq_eq_false_iff_ne.mpr c26
  have c26b1 := bne_iff_ne.mpr c26
  obtain rfl := Option.some.inj H
  go_enter Tryz.func36, Tryz.ntmps36
  go_wp2
  repeat (go_quiet (fail); try go_wp2)
  go_ret
  exact ⟨by first | rfl | (simp; done) | (simp [*]; done), by repeat (first | exact Drawn0.refl _ | apply Drawn0.step)⟩
 rw [if_pos c26] at H
 have c26b0 := beq_iff_eq.mpr c26
 have c26b1 := bne_eq_false_iff_eq.mpr c26
 clear c26
 by_cases c27 : (l1.length : Int) = 1
 rotate_left
 ·
  rw [if_neg c27] at H
  have c27b0 := beq_eq_false_iff_ne.mpr c27
  have c27b1 := bne_iff_ne.mpr c27
  obtain rfl := Option.some.inj H
  go_enter Tryz.func36, Tryz.ntmps36
  go_wp2
  repeat (go_quiet (fail); try go_wp2)
  go_ret
  exact ⟨by first | rfl | (simp; done) | (simp [*]; done), by repeat (first | exact Drawn0.refl _ | apply Drawn0.step)⟩
 rw [if_pos c27] at H
 have c27b0 := beq_iff_eq.mpr c27
 have c27b1 := bne_eq_false_iff_eq.mpr c27
 clear c27
 have c28 := oi H; rw [if_pos c28] at H
 have c28b0 := decide_eq_true c28
 have c28b1 : decide (0 < l1.length) = true := decide_eq_true (by omega)
 clear c28
 obtain ⟨t512, A29, H⟩ := Option.bind_eq_some_iff.mp H
 (try dsimp only at H)
 replace A29 := am A29
 obtain rfl := Option.some.inj H
 have q511 := ix0 (n := l1.length) ode; obtain ⟨ad511, e511, hx511_0⟩ := Kd.at_int HR1.out 0 (by omega) (of_eq_true q511.2.2); cases e511; (try rw [t0] at hx511_0); (try rw [Addr.add_zero'] at hx511_0); obtain ⟨qi511, p511, q511⟩ := q511
 go_enter Tryz.func36, Tryz.ntmps36
 go_wp2_with (first | (go_at_call 47; (with_reducible refine (plenumref19_seconds.calls (rd l1 0) t512 _ A29.out).mono ?_); rintro e w' ⟨rfl, ⟨nd, rfl⟩⟩; (try exact dd)) | (go_quiet (first | (go_at_call 47; (with_reducible refine (plenumref19_seconds.calls (rd l1 0) t512 _ A29.out).mono ?_); rintro e w' ⟨rfl, ⟨nd, rfl⟩⟩; (try exact dd)))))
 go_ret
 exact ⟨by first | rfl | (simp; done) | (simp [*]; done), by repeat (first | exact Drawn0.refl _ | apply Drawn0.step)⟩
def plenumref19_Count.f (a0 : ByteArray) : Option (Int) := if a0.toList = ([108, 97, 116, 99, 104] : List UInt8) then (some 2) else (if a0.toList = ([99, 111, 117, 110, 116] : List UInt8) then (some 2) else (some 1))
set_option maxHeartbeats 8000000 in
set_option maxRecDepth 100000 in
theorem plenumref19_Count.calls (a0 : ByteArray) (r : Int) (w : World) (h : plenumref19_Count.f a0 = some r) :
  Calls Tryz.prog 37 #[.string a0] w fun e w' => e = .returned (.int .i64 r) ∧ Drawn0 w w' := by
 have H : (if a0.toList = ([108, 97, 116, 99, 104] : List UInt8) then (some 2) else (if a0.toList = ([99, 111, 117, 110, 116] : List UInt8) then (some 2) else (some 1))) = some r := h
 clear h
 by_cases c2 : a0.toList = ([108, 97, 116, 99, 104] : List UInt8)
 ·
  rw [if_pos c2] at H
  have c2b0 := beq_iff_eq.mpr c2
  have c2b1 := bne_eq_false_iff_eq.mpr c2
  clear c2
  obtain rfl := Option.some.inj H
  go_enter Tryz.func37, Tryz.ntmps37
  go_wp2
  go_ret
  exact ⟨by first | rfl | (simp; done) | (simp [*]; done), by repeat (first | exact Drawn0.refl _ | apply Drawn0.step)⟩
 rw [if_neg c2] at H
 have c2b0 := beq_eq_false_iff_ne.mpr c2
 have c2b1 := bne_iff_ne.mpr c2
 by_cases c3 : a0.toList = ([99, 111, 117, 110, 116] : List UInt8)
 rotate_left
 ·
  rw [if_neg c3] at H
  have c3b0 := beq_eq_false_iff_ne.mpr c3
  have c3b1 := bne_iff_ne.mpr c3
  obtain rfl := Option.some.inj H
  go_enter Tryz.func37, Tryz.ntmps37
  go_wp2
  go_ret
  exact ⟨by first | rfl | (simp; done) | (simp [*]; done), by repeat (first | exact Drawn0.refl _ | apply Drawn0.step)⟩
 rw [if_pos c3] at H
 have c3b0 := beq_iff_eq.mpr c3
 have c3b1 := bne_eq_false_iff_eq.mpr c3
 clear c3
 obtain rfl := Option.some.inj H
 go_enter Tryz.func37, Tryz.ntmps37
 go_wp2
 go_ret
 exact ⟨by first | rfl | (simp; done) | (simp [*]; done), by repeat (first | exact Drawn0.refl _ | apply Drawn0.step)⟩
end Go.Proofs.YtjjbdgngncgikaaGreatDoor.R
