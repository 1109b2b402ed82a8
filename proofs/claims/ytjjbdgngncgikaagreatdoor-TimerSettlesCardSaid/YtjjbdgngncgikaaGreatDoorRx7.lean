import Derived.Test.YtjjbdgngncgikaaGreatDoorRx0
namespace Go.Proofs.YtjjbdgngncgikaaGreatDoor.R
open Go.RowKit Go.Proofs.YtjjbdgngncgikaaGreatDoorW.PrintWords Go.Proofs.YtjjbdgngncgikaaGreatDoorW.PrintLast Go.Proofs.YtjjbdgngncgikaaGreatDoorW.PrintMore
attribute [local go_sem] max2_int min2_int max_two min_two max_three min_three max_four min_four
set_option linter.unusedVariables false
set_option linter.unusedSimpArgs false

def timer_least.f (l0 : List Int) (a1 : Int) : Option (Int) := if a1 = 1 then (if 0 < (l0.length : Int) then (some (rd l0 0)) else (none)) else (if 1 < (l0.length : Int) then (some (rd l0 1)) else (none))
set_option maxHeartbeats 8000000 in
set_option maxRecDepth 100000 in
theorem timer_least.calls (A0 : Option Addr) (c0 : Nat) (l0 : List Int) (a1 : Int) (r : Int) (w : World) (hr0 : Kd.C (Kd.int .i64) w A0 l0.length l0) (hc0 : l0.length ≤ c0) (h : timer_least.f l0 a1 = some r) :
  Calls Tryz.prog 29 #[.slice A0 l0.length c0, .int .i64 a1] w fun e w' => e = .returned (.int .i64 r) ∧ Drawn0 w w' := by
 have HR0 := am hr0
 have HC0 := am hc0
 clear hr0 hc0
 have H : (if a1 = 1 then (if 0 < (l0.length : Int) then (some (rd l0 0)) else (none)) else (if 1 < (l0.length : Int) then (some (rd l0 1)) else (none))) = some r := h
 clear h
 by_cases c3 : a1 = 1
 rotate_left
 ·
  rw [if_neg c3] at H
  have c3b0 := beq_eq_false_iff_ne.mpr c3
  have c3b1 := bne_iff_ne.mpr c3
  have c5 := oi H; rw [if_pos c5] at H
  have c5b0 := decide_eq_true c5
  have c5b1 : decide (1 < l0.length) = true := decide_eq_true (by omega)
  clear c5
  obtain rfl := Option.some.inj H
  have q203 := ix1 (n := l0.length) ode; obtain ⟨ad203, e203, hx203_0⟩ := Kd.at_int HR0.out 1 (by omega) (of_eq_true q203.2.2); cases e203; (try simp only [t1, Nat.reduceMul, Nat.reduceEqDiff, Go.Addr.add, ↓reduceIte] at hx203_0); obtain ⟨qi203, p203, q203⟩ := q203
  go_enter Tryz.func29, Tryz.ntmps29
  go_wp2
  go_ret
  exact ⟨by first | rfl | (simp; done) | (simp [*]; done), by repeat (first | exact Drawn0.refl _ | apply Drawn0.step)⟩
 rw [if_pos c3] at H
 have c3b0 := beq_iff_eq.mpr c3
 have c3b1 := bne_eq_false_iff_eq.mpr c3
 clear c3
 have c4 := oi H; rw [if_pos c4] at H
 have c4b0 := decide_eq_true c4
 have c4b1 : decide (0 < l0.length) = true := decide_eq_true (by omega)
 clear c4
 obtain rfl := Option.some.inj H
 have q202 := ix0 (n := l0.length) ode; obtain ⟨ad202, e202, hx202_0⟩ := Kd.at_int HR0.out 0 (by omega) (of_eq_true q202.2.2); cases e202; (try rw [t0] at hx202_0); (try rw [Addr.add_zero'] at hx202_0); obtain ⟨qi202, p202, q202⟩ := q202
 go_enter Tryz.func29, Tryz.ntmps29
 go_wp2
 go_ret
 exact ⟨by first | rfl | (simp; done) | (simp [*]; done), by repeat (first | exact Drawn0.refl _ | apply Drawn0.step)⟩
def timer_bit.f (a0 : Bool) : Option (Int) := if a0 = true then (some 1) else (some 0)
set_option maxHeartbeats 8000000 in
set_option maxRecDepth 100000 in
theorem timer_bit.calls (a0 : Bool) (r : Int) (w : World) (h : timer_bit.f a0 = some r) :
  Calls Tryz.prog 30 #[.bool a0] w fun e w' => e = .returned (.int .i64 r) ∧ Drawn0 w w' := by
 have H : (if a0 = true then (some 1) else (some 0)) = some r := h
 clear h
 by_cases c2 : a0 = true
 ·
  subst c2
  rw [if_pos rfl] at H
  obtain rfl := Option.some.inj H
  go_enter Tryz.func30, Tryz.ntmps30
  go_wp2
  go_ret
  exact ⟨by first | rfl | (simp; done) | (simp [*]; done), by repeat (first | exact Drawn0.refl _ | apply Drawn0.step)⟩
 replace c2 := Bool.eq_false_iff.mpr c2
 subst c2
 rw [if_neg (show ¬ (false = true) by decide)] at H
 obtain rfl := Option.some.inj H
 go_enter Tryz.func30, Tryz.ntmps30
 go_wp2
 go_ret
 exact ⟨by first | rfl | (simp; done) | (simp [*]; done), by repeat (first | exact Drawn0.refl _ | apply Drawn0.step)⟩
mutual
def timer_minrun.j0 : Nat → List Int → List Int → Bool → Int → Bool → Option (Bool × List Int)
 | 0, _, _, _, _, _ => none
 | k + 1, x0, x1, x2, x10, x11 => (timer_bit.f x2).bind fun t212 => (if 0 < (x1.length : Int) then (if t212 = (rd x1 0) then (timer_minrun.j1 k x0 x1 x2 x10 x11 true) else (timer_minrun.j1 k x0 x1 x2 x10 x11 x11)) else (none))
def timer_minrun.j1 : Nat → List Int → List Int → Bool → Int → Bool → Bool → Option (Bool × List Int)
 | 0, _, _, _, _, _, _ => none
 | k + 1, x0, x1, x2, x10, x11, x40 => if x40 = true then (if x11 = true then (if 1 < (x1.length : Int) then ((some (x1.set (1 : Int).toNat (wrap64 (x10 + 1)) : List Int)).bind fun y214 => (if 0 < (x1.length : Int) then (some (((rd y214 0) == 1), y214)) else (none))) else (none)) else (if 1 < (x1.length : Int) then ((some (x1.set (1 : Int).toNat 0 : List Int)).bind fun y216 => (if 0 < (x1.length : Int) then (some (((rd y216 0) == 1), y216)) else (none))) else (none))) else ((timer_bit.f x2).bind fun t218 => (if 0 < (x1.length : Int) then ((some (x1.set (0 : Int).toNat t218 : List Int)).bind fun y219 => ((timer_least.f x0 (rd y219 0)).bind fun t221 => ((timer_bit.f (t221 != 0)).bind fun t222 => (if 1 < (x1.length : Int) then (some (x2, (y219.set (1 : Int).toNat t222))) else (none))))) else (none)))
end
def timer_minrun.f (k : Nat) (l0 : List Int) (l1 : List Int) (a2 : Bool) (a3 : Int) : Option (Bool × List Int) := if 0 < (l1.length : Int) then ((timer_least.f l0 (rd l1 0)).bind fun t209 => (if 1 < (l1.length : Int) then (if (rd l1 1) = 0 then (timer_minrun.j0 k l0 l1 a2 (wrap64 ((wrap64 ((rd l1 1) - 1)) + a3)) false) else (timer_minrun.j0 k l0 l1 a2 (wrap64 ((wrap64 ((rd l1 1) - 1)) + a3)) (decide ((wrap64 ((wrap64 ((rd l1 1) - 1)) + a3)) < t209)))) else (none))) else (none)
theorem timer_minrun.mono_l : ∀ k, (∀ y0 y1 y2 y3 y4, LeO (timer_minrun.j0 k y0 y1 y2 y3 y4) (timer_minrun.j0 (k + 1) y0 y1 y2 y3 y4)) ∧ (∀ y0 y1 y2 y3 y4 y5, LeO (timer_minrun.j1 k y0 y1 y2 y3 y4 y5) (timer_minrun.j1 (k + 1) y0 y1 y2 y3 y4 y5))
 | 0 => ⟨fun _ _ _ _ _ r h => by simp [timer_minrun.j0] at h, fun _ _ _ _ _ _ r h => by simp [timer_minrun.j1] at h⟩
 | k + 1 => by
  obtain ⟨ih0, ih1⟩ := timer_minrun.mono_l k
  refine ⟨?_, ?_⟩
  ·
   intro y0 y1 y2 y3 y4
   unfold timer_minrun.j0
   repeat' first
   | (with_reducible exact ih0 _ _ _ _ _)
   | (with_reducible exact ih1 _ _ _ _ _ _)
   | (with_reducible exact LeO.refl _)
   | (with_reducible exact LeO.none _)
   | (with_reducible refine LeO.ite ?_ ?_)
   | (with_reducible refine LeO.bind ?_ (fun _ => ?_))
   | exact LeO.none _
   | refine LeO.ite ?_ ?_
   | refine LeO.bind ?_ (fun _ => ?_)
  ·
   intro y0 y1 y2 y3 y4 y5
   unfold timer_minrun.j1
   repeat' first
   | (with_reducible exact ih0 _ _ _ _ _)
   | (with_reducible exact ih1 _ _ _ _ _ _)
   | (with_reducible exact LeO.refl _)
   | (with_reducible exact LeO.none _)
   | (with_reducible refine LeO.ite ?_ ?_)
   | (with_reducible refine LeO.bind ?_ (fun _ => ?_))
   | exact LeO.none _
   | refine LeO.ite ?_ ?_
   | refine LeO.bind ?_ (fun _ => ?_)
theorem timer_minrun.mono : ∀ a0 a1 a2 a3 k, LeO (timer_minrun.f k a0 a1 a2 a3) (timer_minrun.f (k + 1) a0 a1 a2 a3) := by
 intro a0 a1 a2 a3 k
 obtain ⟨ih0, ih1⟩ := timer_minrun.mono_l k
 unfold timer_minrun.f
 repeat' first
   | (with_reducible exact ih0 _ _ _ _ _)
   | (with_reducible exact ih1 _ _ _ _ _ _)
   | (with_reducible exact LeO.refl _)
   | (with_reducible exact LeO.none _)
   | (with_reducible refine LeO.ite ?_ ?_)
   | (with_reducible refine LeO.bind ?_ (fun _ => ?_))
   | exact LeO.none _
   | refine LeO.ite ?_ ?_
   | refine LeO.bind ?_ (fun _ => ?_)
set_option maxHeartbeats 8000000 in
set_option maxRecDepth 100000 in
theorem timer_minrun.calls (k : Nat) (A0 : Option Addr) (c0 : Nat) (l0 : List Int) (P1_ : Nat → Prop) (u9000_ : Value) (l1 : List Int) (a2 : Bool) (a3 : Int) (r1 : Bool) (r2 : List Int) (w0 w : World) (hB : Below w0.heap.size w0 w) (hr0 : ∀ W_, Kept w W_ (fun k_ => P1_ k_) → Kd.C (Kd.int .i64) W_ A0 l0.length l0) (hc0 : l0.length ≤ c0) (ho1 : Kd.R (Kd.int .i64) 2 w w0.heap.size P1_ u9000_ l1) (h : timer_minrun.f k l0 l1 a2 a3 = some (r1, r2)) :
  Calls Tryz.prog 31 #[.slice A0 l0.length c0, u9000_, .bool a2, .int .i64 a3] w fun e w' => e = .returned (.bool r1) ∧ Kd.R (Kd.int .i64) 2 w' w0.heap.size (fun k_ => (P1_ k_ ∨ w.heap.size ≤ k_)) u9000_ r2 ∧ Below w0.heap.size w0 w' ∧ Kept w w' (fun k_ => P1_ k_) := by
 have HR0 := am hr0
 have HC0 := am hc0
 clear hr0 hc0
 have HO1 := am (show Kd.R (Kd.int .i64) 2 w w0.heap.size (fun k_ => (P1_ k_ ∨ w.heap.size ≤ k_)) u9000_ l1 from Kd.R_mono ho1 (fun k_ hk => (.inl hk)))
 have HK := am (Kept.refl w (fun k_ => P1_ k_))
 have HW0 := am hB.size
 have HB := am hB
 clear hB
 have H : (if 0 < (l1.length : Int) then ((timer_least.f l0 (rd l1 0)).bind fun t209 => (if 1 < (l1.length : Int) then (if (rd l1 1) = 0 then (timer_minrun.j0 k l0 l1 a2 (wrap64 ((wrap64 ((rd l1 1) - 1)) + a3)) false) else (timer_minrun.j0 k l0 l1 a2 (wrap64 ((wrap64 ((rd l1 1) - 1)) + a3)) (decide ((wrap64 ((wrap64 ((rd l1 1) - 1)) + a3)) < t209)))) else (none))) else (none)) = some (r1, r2) := h
 clear h
 have c5 := oi H; rw [if_pos c5] at H
 have c5b0 := decide_eq_true c5
 have c5b1 : decide (0 < l1.length) = true := decide_eq_true (by omega)
 clear c5
 obtain ⟨t209, A6, H⟩ := Option.bind_eq_some_iff.mp H
 (try dsimp only at H)
 replace A6 := am A6
 have c7 := oi H; rw [if_pos c7] at H
 have c7b0 := decide_eq_true c7
 have c7b1 : decide (1 < l1.length) = true := decide_eq_true (by omega)
 clear c7
 have HC8 := am H
 clear H
 obtain ⟨Ao9, co9, eo9⟩ := Kd.R_slice HO1.out
 subst eo9
 have q208 := ix0 (n := l1.length) ode; obtain ⟨ad208, e208, hx208_0⟩ := Kd.at_int (Kd.R_reads' HO1.out).2.2 0 (by omega) (of_eq_true q208.2.2); cases e208; (try rw [t0] at hx208_0); (try rw [Addr.add_zero'] at hx208_0); obtain ⟨qi208, p208, q208⟩ := q208
 go_enter Tryz.func31, Tryz.ntmps31
 go_upto_region 3 with (first | (go_at_call 29; (with_reducible refine (timer_least.calls _ _ l0 (rd l1 0) t209 _ ?side1 ?side2 A6.out).mono ?_); (case side1 => exact Kd.C_kept_now HR0.out kk); (case side2 => exact HC0.out); rintro e w' ⟨rfl, ⟨nd, rfl⟩⟩; (try exact dd); have q210 := ix1 (n := l1.length) ode; obtain ⟨ad210, e210, hx210_0⟩ := Kd.at_int (Kd.R_reads' HO1.out).2.2 1 (by omega) (of_eq_true q210.2.2); obtain rfl : ad208 = ad210 := (by injection e210); (try simp only [t1, Nat.reduceMul, Nat.reduceEqDiff, Go.Addr.add, ↓reduceIte] at hx210_0); obtain ⟨qi210, p210, q210⟩ := q210))
 (try simp only [ap, sa, sb, sc])
 go_cut [11] (fun v11 wc => ∃ (kq : Nat) (x11_7 : Bool), v11 = .bool x11_7 ∧ Aside0 (timer_minrun.j0 kq l0 l1 a2 (wrap64 ((wrap64 ((rd l1 1) - 1)) + a3)) x11_7 = some (r1, r2)) ∧ Aside0 (kq ≤ k) ∧ Aside0 (Kd.R (Kd.int .i64) 2 wc w0.heap.size (fun k_ => (P1_ k_ ∨ w.heap.size ≤ k_)) (.slice (some ad208) l1.length co9) l1) ∧ Aside0 (Kept w wc (fun k_ => P1_ k_)) ∧ Aside0 (Below w0.heap.size w0 wc))
 case first =>
  have H := HC8.out
  clear HC8
  by_cases c10 : (rd l1 1) = 0
  rotate_left
  ·
   rw [if_neg c10] at H
   have c10b0 := beq_eq_false_iff_ne.mpr c10
   have c10b1 := bne_iff_ne.mpr c10
   (first | rw [c10b0] | (simp only [i64_w, i32_w]; rw [c10b0]) | skip)
   have H' := am H
   clear H
   have q211 := ix1 (n := l1.length) ode; obtain ⟨ad211, e211, hx211_0⟩ := Kd.at_int (Kd.R_reads' HO1.out).2.2 1 (by omega) (of_eq_true q211.2.2); obtain rfl : ad208 = ad211 := (by injection e211); (try simp only [t1, Nat.reduceMul, Nat.reduceEqDiff, Go.Addr.add, ↓reduceIte] at hx211_0); obtain ⟨qi211, p211, q211⟩ := q211
   go_wp2
   repeat (go_quiet (fail); try go_wp2)
   go_meet
   case rel => exact ⟨_, (decide ((wrap64 ((wrap64 ((rd l1 1) - 1)) + a3)) < t209)), (by first | rfl | (simp; done) | (simp [*]; done)), H', ⟨by first | omega | exact Nat.le_refl _⟩, ⟨rr HO1.out⟩, ⟨kk⟩, ⟨bl⟩⟩
  rw [if_pos c10] at H
  have c10b0 := beq_iff_eq.mpr c10
  have c10b1 := bne_eq_false_iff_eq.mpr c10
  clear c10
  (first | rw [c10b0] | (simp only [i64_w, i32_w]; rw [c10b0]) | skip)
  have H' := am H
  clear H
  have q211 := ix1 (n := l1.length) ode; obtain ⟨ad211, e211, hx211_0⟩ := Kd.at_int (Kd.R_reads' HO1.out).2.2 1 (by omega) (of_eq_true q211.2.2); obtain rfl : ad208 = ad211 := (by injection e211); (try simp only [t1, Nat.reduceMul, Nat.reduceEqDiff, Go.Addr.add, ↓reduceIte] at hx211_0); obtain ⟨qi211, p211, q211⟩ := q211
  go_wp2
  repeat (go_quiet (fail); try go_wp2)
  go_meet
  case rel => exact ⟨_, (false), (by first | rfl | (simp; done) | (simp [*]; done)), H', ⟨by first | omega | exact Nat.le_refl _⟩, ⟨rr HO1.out⟩, ⟨kk⟩, ⟨bl⟩⟩
 clear HC8
 obtain ⟨kq, x11_7, rfl, HA, HJ7, HO_1, HK, HB⟩ := hcut
 cases kq with
 | zero => exact absurd HA.out (by simp [timer_minrun.j0])
 | succ kj7 =>
  have H := HA.out
  clear HA
  simp only [timer_minrun.j0] at H
  have HC11 := am H
  clear H
  go_upto_region 4 with (fail)
  repeat (go_quiet (fail); go_upto_region 4 with (fail))
  go_cut [40] (fun v40 wc => ∃ (kq : Nat) (x40_10 : Bool), v40 = .bool x40_10 ∧ Aside0 (timer_minrun.j1 kq l0 l1 a2 (wrap64 ((wrap64 ((rd l1 1) - 1)) + a3)) x11_7 x40_10 = some (r1, r2)) ∧ Aside0 (kq ≤ kj7) ∧ Aside0 (Kd.R (Kd.int .i64) 2 wc w0.heap.size (fun k_ => (P1_ k_ ∨ w.heap.size ≤ k_)) (.slice (some ad208) l1.length co9) l1) ∧ Aside0 (Kept w wc (fun k_ => P1_ k_)) ∧ Aside0 (Below w0.heap.size w0 wc))
  case first =>
   have H := HC11.out
   clear HC11
   obtain ⟨t212, A12, H⟩ := Option.bind_eq_some_iff.mp H
   (try dsimp only at H)
   replace A12 := am A12
   have c13 := oi H; rw [if_pos c13] at H
   have c13b0 := decide_eq_true c13
   have c13b1 : decide (0 < l1.length) = true := decide_eq_true (by omega)
   clear c13
   (first | rw [c13b0] | (simp only [i64_w, i32_w]; rw [c13b0]) | skip)
   by_cases c14 : t212 = (rd l1 0)
   rotate_left
   ·
    rw [if_neg c14] at H
    have c14b0 := beq_eq_false_iff_ne.mpr c14
    have c14b1 := bne_iff_ne.mpr c14
    have H' := am H
    clear H
    go_wp2_with (first | (go_at_call 30; (with_reducible refine (timer_bit.calls a2 t212 _ A12.out).mono ?_); rintro e w' ⟨rfl, ⟨nd, rfl⟩⟩; (try exact dd); have q213 := ix0 (n := l1.length) ode; obtain ⟨ad213, e213, hx213_0⟩ := Kd.at_int (Kd.R_reads' HO_1.out).2.2 0 (by omega) (of_eq_true q213.2.2); obtain rfl : ad208 = ad213 := (by injection e213); (try rw [t0] at hx213_0); (try rw [Addr.add_zero'] at hx213_0); obtain ⟨qi213, p213, q213⟩ := q213) | (go_quiet (first | (go_at_call 30; (with_reducible refine (timer_bit.calls a2 t212 _ A12.out).mono ?_); rintro e w' ⟨rfl, ⟨nd, rfl⟩⟩; (try exact dd); have q213 := ix0 (n := l1.length) ode; obtain ⟨ad213, e213, hx213_0⟩ := Kd.at_int (Kd.R_reads' HO_1.out).2.2 0 (by omega) (of_eq_true q213.2.2); obtain rfl : ad208 = ad213 := (by injection e213); (try rw [t0] at hx213_0); (try rw [Addr.add_zero'] at hx213_0); obtain ⟨qi213, p213, q213⟩ := q213))))
    go_meet
    case rel => exact ⟨_, (x11_7), (by first | rfl | (simp; done) | (simp [*]; done)), H', ⟨by have := HJ7.out; first | omega | exact Nat.le_refl _⟩, ⟨rr HO_1.out⟩, ⟨kk⟩, ⟨bl⟩⟩
   rw [if_pos c14] at H
   have c14b0 := beq_iff_eq.mpr c14
   have c14b1 := bne_eq_false_iff_eq.mpr c14
   clear c14
   have H' := am H
   clear H
   go_wp2_with (first | (go_at_call 30; (with_reducible refine (timer_bit.calls a2 t212 _ A12.out).mono ?_); rintro e w' ⟨rfl, ⟨nd, rfl⟩⟩; (try exact dd); have q213 := ix0 (n := l1.length) ode; obtain ⟨ad213, e213, hx213_0⟩ := Kd.at_int (Kd.R_reads' HO_1.out).2.2 0 (by omega) (of_eq_true q213.2.2); obtain rfl : ad208 = ad213 := (by injection e213); (try rw [t0] at hx213_0); (try rw [Addr.add_zero'] at hx213_0); obtain ⟨qi213, p213, q213⟩ := q213) | (go_quiet (first | (go_at_call 30; (with_reducible refine (timer_bit.calls a2 t212 _ A12.out).mono ?_); rintro e w' ⟨rfl, ⟨nd, rfl⟩⟩; (try exact dd); have q213 := ix0 (n := l1.length) ode; obtain ⟨ad213, e213, hx213_0⟩ := Kd.at_int (Kd.R_reads' HO_1.out).2.2 0 (by omega) (of_eq_true q213.2.2); obtain rfl : ad208 = ad213 := (by injection e213); (try rw [t0] at hx213_0); (try rw [Addr.add_zero'] at hx213_0); obtain ⟨qi213, p213, q213⟩ := q213))))
   go_meet
   case rel => exact ⟨_, (true), (by first | rfl | (simp; done) | (simp [*]; done)), H', ⟨by have := HJ7.out; first | omega | exact Nat.le_refl _⟩, ⟨rr HO_1.out⟩, ⟨kk⟩, ⟨bl⟩⟩
  clear HC11
  obtain ⟨kq, x40_10, rfl, HA, HJ10, HO_1, HK, HB⟩ := hcut
  cases kq with
  | zero => exact absurd HA.out (by simp [timer_minrun.j1])
  | succ kj10 =>
   have H := HA.out
   clear HA
   simp only [timer_minrun.j1] at H
   by_cases c15 : x40_10 = true
   rotate_left
   ·
    replace c15 := Bool.eq_false_iff.mpr c15
    subst c15
    rw [if_neg (show ¬ (false = true) by decide)] at H
    obtain ⟨t218, A27, H⟩ := Option.bind_eq_some_iff.mp H
    (try dsimp only at H)
    replace A27 := am A27
    have c28 := oi H; rw [if_pos c28] at H
    have c28b0 := decide_eq_true c28
    have c28b1 : decide (0 < l1.length) = true := decide_eq_true (by omega)
    clear c28
    obtain ⟨y219, hy219⟩ : ∃ y_ : List Int, y_ = (l1.set (0 : Int).toNat t218) := ⟨_, rfl⟩
    (try rw [← hy219] at H); (try rw [Option.bind_some] at H); (try dsimp only at H)
    have Ny219 := am hy219
    clear hy219
    obtain ⟨t221, A30, H⟩ := Option.bind_eq_some_iff.mp H
    (try dsimp only at H)
    replace A30 := am A30
    obtain ⟨t222, A31, H⟩ := Option.bind_eq_some_iff.mp H
    (try dsimp only at H)
    replace A31 := am A31
    have c32 := oi H; rw [if_pos c32] at H
    have c32b0 := decide_eq_true c32
    have c32b1 : decide (1 < l1.length) = true := decide_eq_true (by omega)
    clear c32
    obtain ⟨y223, hy223⟩ : ∃ y_ : List Int, y_ = (y219.set (1 : Int).toNat t222) := ⟨_, rfl⟩
    (try rw [← hy223] at H); (try rw [Option.bind_some] at H); (try dsimp only at H)
    have Ny223 := am hy223
    clear hy223
    simp only [Option.some.injEq, Prod.mk.injEq] at H
    obtain ⟨rfl, rfl⟩ := H
    go_wp2_with (first | (go_at_call 30; (with_reducible refine (timer_bit.calls a2 t218 _ A27.out).mono ?_); rintro e w' ⟨rfl, ⟨nd, rfl⟩⟩; (try exact dd); have p29 : 0 ≤ (0 : Int) := (by omega); have q29 : (0 : Int) < ((l1.length : Int) : Int) := ode; have qi29 : (0 < l1.length) = True := eq_true (by omega); obtain ⟨go29, co29, eo29, gb29, gl29, cl29, HG29⟩ := Kd.R_form HO_1.out (by omega); (first | cases eo29 | (injection eo29 with ea_ en_ ec_; (first | subst ea_ | (injection ea_ with ea_; subst ea_)); subst ec_; clear en_)); have GB29 := am gb29; have GG29 := am HG29; clear gb29 gl29 HG29; have HMgo29 := am (show (P1_ go29 ∨ w.heap.size ≤ go29) from (HO_1.out.1 _ rfl)); obtain ⟨hx29_0, hf29_0⟩ := Kd.R_celln 0 HO_1.out (0 : Int) p29 q29; (try rw [t0] at hx29_0); (try simp only [Nat.reduceMul, Nat.zero_mul, Nat.zero_add, Nat.reduceAdd] at hx29_0); (try rw [t0] at hf29_0); (try simp only [Nat.reduceMul, Nat.zero_mul, Nat.zero_add, Nat.reduceAdd] at hf29_0); replace p29 := eq_true p29; replace q29 := eq_true q29; obtain ⟨hy34_, hz34_⟩ := Kd.R_celln 0 HO_1.out (0 : Int) (by omega) (ode); (try simp only [Int.reduceToNat, Int.toNat_zero, Int.toNat_ofNat, Nat.reduceMul, Nat.zero_mul, Nat.zero_add] at hy34_ hz34_); (try rw [t0] at hy34_); (try rw [t0] at hz34_); have HP34 := Kd.R_putg HO_1.out (0 : Int) t218) | ((refine gate_store (t := 2) (p := 55) rfl ?_); (try (rw [drewN_self wc]; generalize hq_ : World.drewN wc _ = wc; have n0_ := am (Kd.R_at hq_ HO_1.out); have n1_ := am (kept_at hq_ HK.out); have n2_ := am (below_at hq_ HB.out); clear hq_ HO_1 HK HB; have HO_1 := n0_; have HK := n1_; have HB := n2_; clear n0_ n1_ n2_; (try (obtain ⟨hy34_, hz34_⟩ := Kd.R_celln 0 HO_1.out (0 : Int) (by omega) (ode))); (try (try simp only [Int.reduceToNat, Int.toNat_zero, Int.toNat_ofNat, Nat.reduceMul, Nat.zero_mul, Nat.zero_add] at hy34_ hz34_)); (try (try rw [t0] at hy34_)); (try (try rw [t0] at hz34_)); (try (have HP34 := Kd.R_putg HO_1.out (0 : Int) t218)))); refine store_event (t := 2) (p := 55) (v := ?vo_w35) (w1 := (wc.setCell ⟨go29, (0 : Int).toNat, none⟩ (.int .i64 t218))) ?hg ?ho ?hn ?hr ?_; (case ho => rfl); (case hg => rfl); (case hn => rfl); (case hr => first | (go_simp; done) | (go_simp; rfl)); intro w35 hw; have hg : wc.grownBy w35 (some go29) := (by rw [hw]; exact HP34.2); have hp_ : Kd.R (Kd.int .i64) 2 w35 w0.heap.size (fun k_ => (P1_ k_ ∨ w.heap.size ≤ k_)) (.slice (some ⟨go29, 0, none⟩) l1.length co9) y219 := (by rw [hw, Ny219.out]; exact HP34.1); clear HP34; have n0_ := am (hp_); have n1_ := am ((by rw [hw]; exact below_set (HB.out) GB29.out : Below w0.heap.size w0 w35)); have n2_ := am (Kept.of_grown (S := (fun k_ => P1_ k_)) hg kk (fun k_ e_ => (HO_1.out.1 k_ e_))); revert n0_ n1_ n2_; clear HO_1 HB HK; intro HO_1 HB HK; clear hg hw hp_; have p220 : 0 ≤ (0 : Int) := (by omega); have q220 : 0 < (y219.length : Int) := (by have h_ : (0 : Int) < ((l1.length : Int) : Int) := ode; first | (have e_ := (Kd.R_reads' HO_1.out).1; omega) | simpa only [Ny219.out, List.length_set] using h_); have ql220 : ((0 : Int) < ((l1.length : Int) : Int)) = True := eq_true (ode); (try have qn220 : (0 < l1.length) = True := eq_true (by have h_ : (0 : Int) < ((l1.length : Int) : Int) := ode; omega)); obtain ⟨ad220, e220, hx220_0⟩ := Kd.at_int (Kd.R_reads' HO_1.out).2.2 0 p220 q220; obtain rfl : (⟨go29, 0, none⟩ : Addr) = ad220 := (by injection e220); (first | simp only [add_plain] at hx220_0 | simp only [add_at] at hx220_0 | simp only [Addr.add, Nat.zero_add] at hx220_0 | skip); have qi220 : (0 < y219.length) = True := eq_true (by omega); (try rw [t0] at hx220_0); (try rw [Addr.add_zero'] at hx220_0); replace p220 := eq_true p220; replace q220 := eq_true q220) | (go_at_call 29; (with_reducible refine (timer_least.calls _ _ l0 (rd y219 0) t221 _ ?side1 ?side2 A30.out).mono ?_); (case side1 => exact Kd.C_kept_now HR0.out kk); (case side2 => exact HC0.out); rintro e w' ⟨rfl, ⟨nd, rfl⟩⟩; (try exact dd)) | (go_at_call 30; (with_reducible refine (timer_bit.calls (t221 != 0) t222 _ A31.out).mono ?_); rintro e w' ⟨rfl, ⟨nd, rfl⟩⟩; (try exact dd); have p33 : 0 ≤ (1 : Int) := (by omega); have q33 : (1 : Int) < ((l1.length : Int) : Int) := ode; have qi33 : (1 < l1.length) = True := eq_true (by omega); obtain ⟨hx33_0, hf33_0⟩ := Kd.R_celln 0 HO_1.out (1 : Int) p33 q33; (try rw [t1] at hx33_0); (try simp only [Nat.reduceMul, Nat.zero_mul, Nat.zero_add, Nat.reduceAdd] at hx33_0); (try rw [t1] at hf33_0); (try simp only [Nat.reduceMul, Nat.zero_mul, Nat.zero_add, Nat.reduceAdd] at hf33_0); replace p33 := eq_true p33; replace q33 := eq_true q33; obtain ⟨hy36_, hz36_⟩ := Kd.R_celln 0 HO_1.out (1 : Int) (by omega) (ode); (try simp only [Int.reduceToNat, Int.toNat_zero, Int.toNat_ofNat, Nat.reduceMul, Nat.zero_mul, Nat.zero_add] at hy36_ hz36_); (try rw [t1] at hy36_); (try rw [t1] at hz36_); have HP36 := Kd.R_putg HO_1.out (1 : Int) t222) | ((refine gate_store (t := 2) (p := 64) rfl ?_); (try (rw [drewN_self w35]; generalize hq_ : World.drewN w35 _ = w35; have n0_ := am (Kd.R_at hq_ HO_1.out); have n1_ := am (kept_at hq_ HK.out); have n2_ := am (below_at hq_ HB.out); clear hq_ HO_1 HK HB; have HO_1 := n0_; have HK := n1_; have HB := n2_; clear n0_ n1_ n2_; (try (obtain ⟨hy36_, hz36_⟩ := Kd.R_celln 0 HO_1.out (1 : Int) (by omega) (ode))); (try (try simp only [Int.reduceToNat, Int.toNat_zero, Int.toNat_ofNat, Nat.reduceMul, Nat.zero_mul, Nat.zero_add] at hy36_ hz36_)); (try (try rw [t1] at hy36_)); (try (try rw [t1] at hz36_)); (try (have HP36 := Kd.R_putg HO_1.out (1 : Int) t222)))); refine store_event (t := 2) (p := 64) (v := ?vo_w37) (w1 := (w35.setCell ⟨go29, (1 : Int).toNat, none⟩ (.int .i64 t222))) ?hg ?ho ?hn ?hr ?_; (case ho => rfl); (case hg => rfl); (case hn => rfl); (case hr => first | (go_simp; done) | (go_simp; rfl)); intro w37 hw; have hg : w35.grownBy w37 (some go29) := (by rw [hw]; exact HP36.2); have hp_ : Kd.R (Kd.int .i64) 2 w37 w0.heap.size (fun k_ => (P1_ k_ ∨ w.heap.size ≤ k_)) (.slice (some ⟨go29, 0, none⟩) l1.length co9) y223 := (by rw [hw, Ny223.out]; exact HP36.1); clear HP36; have n0_ := am (hp_); have n1_ := am ((by rw [hw]; exact below_set (HB.out) GB29.out : Below w0.heap.size w0 w37)); have n2_ := am (Kept.of_grown (S := (fun k_ => P1_ k_)) hg kk (fun k_ e_ => (HO_1.out.1 k_ e_))); revert n0_ n1_ n2_; clear HO_1 HB HK; intro HO_1 HB HK; clear hg hw hp_))
    go_ret
    exact ⟨ew, rr HO_1.out, bl, kk⟩
   subst c15
   rw [if_pos rfl] at H
   by_cases c16 : x11_7 = true
   rotate_left
   ·
    replace c16 := Bool.eq_false_iff.mpr c16
    subst c16
    rw [if_neg (show ¬ (false = true) by decide)] at H
    have c22 := oi H; rw [if_pos c22] at H
    have c22b0 := decide_eq_true c22
    have c22b1 : decide (1 < l1.length) = true := decide_eq_true (by omega)
    clear c22
    obtain ⟨y216, hy216⟩ : ∃ y_ : List Int, y_ = (l1.set (1 : Int).toNat 0) := ⟨_, rfl⟩
    (try rw [← hy216] at H); (try rw [Option.bind_some] at H); (try dsimp only at H)
    have Ny216 := am hy216
    clear hy216
    have c24 := oi H; rw [if_pos c24] at H
    have c24b0 := decide_eq_true c24
    have c24b1 : decide (0 < l1.length) = true := decide_eq_true (by omega)
    clear c24
    simp only [Option.some.injEq, Prod.mk.injEq] at H
    obtain ⟨rfl, rfl⟩ := H
    have p23 : 0 ≤ (1 : Int) := (by omega); have q23 : (1 : Int) < ((l1.length : Int) : Int) := ode; have qi23 : (1 < l1.length) = True := eq_true (by omega)
    obtain ⟨go23, co23, eo23, gb23, gl23, cl23, HG23⟩ := Kd.R_form HO_1.out (by omega)
    (first | cases eo23 | (injection eo23 with ea_ en_ ec_; (first | subst ea_ | (injection ea_ with ea_; subst ea_)); subst ec_; clear en_))
    have GB23 := am gb23
    have GG23 := am HG23
    clear gb23 gl23 HG23
    have HMgo23 := am (show (P1_ go23 ∨ w.heap.size ≤ go23) from (HO_1.out.1 _ rfl))
    obtain ⟨hx23_0, hf23_0⟩ := Kd.R_celln 0 HO_1.out (1 : Int) p23 q23
    (try rw [t1] at hx23_0); (try simp only [Nat.reduceMul, Nat.zero_mul, Nat.zero_add, Nat.reduceAdd] at hx23_0); (try rw [t1] at hf23_0)
    (try simp only [Nat.reduceMul, Nat.zero_mul, Nat.zero_add, Nat.reduceAdd] at hf23_0)
    replace p23 := eq_true p23; replace q23 := eq_true q23
    have HP25 := Kd.R_putg HO_1.out (1 : Int) 0
    go_wp2_with (first | ((refine gate_store (t := 2) (p := 47) rfl ?_); (try (rw [drewN_self wc]; generalize hq_ : World.drewN wc _ = wc; have n0_ := am (Kd.R_at hq_ HO_1.out); have n1_ := am (kept_at hq_ HK.out); have n2_ := am (below_at hq_ HB.out); clear hq_ HO_1 HK HB; have HO_1 := n0_; have HK := n1_; have HB := n2_; clear n0_ n1_ n2_; (try (have HP25 := Kd.R_putg HO_1.out (1 : Int) 0)))); refine store_event (t := 2) (p := 47) (v := ?vo_w26) (w1 := (wc.setCell ⟨go23, (1 : Int).toNat, none⟩ (.int .i64 0))) ?hg ?ho ?hn ?hr ?_; (case ho => rfl); (case hg => rfl); (case hn => rfl); (case hr => first | (go_simp; done) | (go_simp; rfl)); intro w26 hw; have hg : wc.grownBy w26 (some go23) := (by rw [hw]; exact HP25.2); have hp_ : Kd.R (Kd.int .i64) 2 w26 w0.heap.size (fun k_ => (P1_ k_ ∨ w.heap.size ≤ k_)) (.slice (some ⟨go23, 0, none⟩) l1.length co9) y216 := (by rw [hw, Ny216.out]; exact HP25.1); clear HP25; have n0_ := am (hp_); have n1_ := am ((by rw [hw]; exact below_set (HB.out) GB23.out : Below w0.heap.size w0 w26)); have n2_ := am (Kept.of_grown (S := (fun k_ => P1_ k_)) hg kk (fun k_ e_ => (HO_1.out.1 k_ e_))); revert n0_ n1_ n2_; clear HO_1 HB HK; intro HO_1 HB HK; clear hg hw hp_; have p217 : 0 ≤ (0 : Int) := (by omega); have q217 : 0 < (y216.length : Int) := (by have h_ : (0 : Int) < ((l1.length : Int) : Int) := ode; first | (have e_ := (Kd.R_reads' HO_1.out).1; omega) | simpa only [Ny216.out, List.length_set] using h_); have ql217 : ((0 : Int) < ((l1.length : Int) : Int)) = True := eq_true (ode); (try have qn217 : (0 < l1.length) = True := eq_true (by have h_ : (0 : Int) < ((l1.length : Int) : Int) := ode; omega)); obtain ⟨ad217, e217, hx217_0⟩ := Kd.at_int (Kd.R_reads' HO_1.out).2.2 0 p217 q217; obtain rfl : (⟨go23, 0, none⟩ : Addr) = ad217 := (by injection e217); (first | simp only [add_plain] at hx217_0 | simp only [add_at] at hx217_0 | simp only [Addr.add, Nat.zero_add] at hx217_0 | skip); have qi217 : (0 < y216.length) = True := eq_true (by omega); (try rw [t0] at hx217_0); (try rw [Addr.add_zero'] at hx217_0); replace p217 := eq_true p217; replace q217 := eq_true q217))
    go_ret
    exact ⟨ew, rr HO_1.out, bl, kk⟩
   subst c16
   rw [if_pos rfl] at H
   have c17 := oi H; rw [if_pos c17] at H
   have c17b0 := decide_eq_true c17
   have c17b1 : decide (1 < l1.length) = true := decide_eq_true (by omega)
   clear c17
   obtain ⟨y214, hy214⟩ : ∃ y_ : List Int, y_ = (l1.set (1 : Int).toNat (wrap64 ((wrap64 ((wrap64 ((rd l1 1) - 1)) + a3)) + 1))) := ⟨_, rfl⟩
   (try rw [← hy214] at H); (try rw [Option.bind_some] at H); (try dsimp only at H)
   have Ny214 := am hy214
   clear hy214
   have c19 := oi H; rw [if_pos c19] at H
   have c19b0 := decide_eq_true c19
   have c19b1 : decide (0 < l1.length) = true := decide_eq_true (by omega)
   clear c19
   simp only [Option.some.injEq, Prod.mk.injEq] at H
   obtain ⟨rfl, rfl⟩ := H
   have p18 : 0 ≤ (1 : Int) := (by omega); have q18 : (1 : Int) < ((l1.length : Int) : Int) := ode; have qi18 : (1 < l1.length) = True := eq_true (by omega)
   obtain ⟨go18, co18, eo18, gb18, gl18, cl18, HG18⟩ := Kd.R_form HO_1.out (by omega)
   (first | cases eo18 | (injection eo18 with ea_ en_ ec_; (first | subst ea_ | (injection ea_ with ea_; subst ea_)); subst ec_; clear en_))
   have GB18 := am gb18
   have GG18 := am HG18
   clear gb18 gl18 HG18
   have HMgo18 := am (show (P1_ go18 ∨ w.heap.size ≤ go18) from (HO_1.out.1 _ rfl))
   (first | simp only [add_plain] at hx208_0 | skip)
   (first | simp only [add_plain] at hx210_0 | skip)
   (first | simp only [add_plain] at hx211_0 | skip)
   (first | simp only [add_plain] at hx213_0 | skip)
   obtain ⟨hx18_0, hf18_0⟩ := Kd.R_celln 0 HO_1.out (1 : Int) p18 q18
   (try rw [t1] at hx18_0); (try simp only [Nat.reduceMul, Nat.zero_mul, Nat.zero_add, Nat.reduceAdd] at hx18_0); (try rw [t1] at hf18_0)
   (try simp only [Nat.reduceMul, Nat.zero_mul, Nat.zero_add, Nat.reduceAdd] at hf18_0)
   replace p18 := eq_true p18; replace q18 := eq_true q18
   have HP20 := Kd.R_putg HO_1.out (1 : Int) (wrap64 ((wrap64 ((wrap64 ((rd l1 1) - 1)) + a3)) + 1))
   go_wp2_with (first | ((refine gate_store (t := 2) (p := 45) rfl ?_); (try (rw [drewN_self wc]; generalize hq_ : World.drewN wc _ = wc; have n0_ := am (Kd.R_at hq_ HO_1.out); have n1_ := am (kept_at hq_ HK.out); have n2_ := am (below_at hq_ HB.out); clear hq_ HO_1 HK HB; have HO_1 := n0_; have HK := n1_; have HB := n2_; clear n0_ n1_ n2_; (try (have HP20 := Kd.R_putg HO_1.out (1 : Int) (wrap64 ((wrap64 ((wrap64 ((rd l1 1) - 1)) + a3)) + 1)))))); refine store_event (t := 2) (p := 45) (v := ?vo_w21) (w1 := (wc.setCell ⟨go18, (1 : Int).toNat, none⟩ (.int .i64 (wrap64 ((wrap64 ((wrap64 ((rd l1 1) - 1)) + a3)) + 1))))) ?hg ?ho ?hn ?hr ?_; (case ho => rfl); (case hg => rfl); (case hn => rfl); (case hr => first | (go_simp; done) | (go_simp; rfl)); intro w21 hw; have hg : wc.grownBy w21 (some go18) := (by rw [hw]; exact HP20.2); have hp_ : Kd.R (Kd.int .i64) 2 w21 w0.heap.size (fun k_ => (P1_ k_ ∨ w.heap.size ≤ k_)) (.slice (some ⟨go18, 0, none⟩) l1.length co9) y214 := (by rw [hw, Ny214.out]; exact HP20.1); clear HP20; have n0_ := am (hp_); have n1_ := am ((by rw [hw]; exact below_set (HB.out) GB18.out : Below w0.heap.size w0 w21)); have n2_ := am (Kept.of_grown (S := (fun k_ => P1_ k_)) hg kk (fun k_ e_ => (HO_1.out.1 k_ e_))); revert n0_ n1_ n2_; clear HO_1 HB HK; intro HO_1 HB HK; clear hg hw hp_; have p215 : 0 ≤ (0 : Int) := (by omega); have q215 : 0 < (y214.length : Int) := (by have h_ : (0 : Int) < ((l1.length : Int) : Int) := ode; first | (have e_ := (Kd.R_reads' HO_1.out).1; omega) | simpa only [Ny214.out, List.length_set] using h_); have ql215 : ((0 : Int) < ((l1.length : Int) : Int)) = True := eq_true (ode); (try have qn215 : (0 < l1.length) = True := eq_true (by have h_ : (0 : Int) < ((l1.length : Int) : Int) := ode; omega)); obtain ⟨ad215, e215, hx215_0⟩ := Kd.at_int (Kd.R_reads' HO_1.out).2.2 0 p215 q215; obtain rfl : (⟨go18, 0, none⟩ : Addr) = ad215 := (by injection e215); (first | simp only [add_plain] at hx215_0 | simp only [add_at] at hx215_0 | simp only [Addr.add, Nat.zero_add] at hx215_0 | skip); have qi215 : (0 < y214.length) = True := eq_true (by omega); (try rw [t0] at hx215_0); (try rw [Addr.add_zero'] at hx215_0); replace p215 := eq_true p215; replace q215 := eq_true q215))
   go_ret
   exact ⟨ew, rr HO_1.out, bl, kk⟩
def timer_offdelay.f (a0 : Int) (l1 : List Int) (a2 : Bool) (a3 : Int) : Option (Bool × List Int) := if a2 = true then (if 0 < (l1.length : Int) then (some (true, (l1.set (0 : Int).toNat (-1)))) else (none)) else (if 0 < (l1.length : Int) then (if (rd l1 0) = 0 then (some (false, l1)) else (if (rd l1 0) = (-1) then (if 0 < a0 then (some (true, (l1.set (0 : Int).toNat (0 + 1)))) else (some (false, (l1.set (0 : Int).toNat 0)))) else (if (wrap64 ((wrap64 ((rd l1 0) - 1)) + a3)) < a0 then (some (true, (l1.set (0 : Int).toNat (wrap64 ((wrap64 ((wrap64 ((rd l1 0) - 1)) + a3)) + 1))))) else (some (false, (l1.set (0 : Int).toNat 0)))))) else (none))
set_option maxHeartbeats 8000000 in
set_option maxRecDepth 100000 in
theorem timer_offdelay.calls (a0 : Int) (P1_ : Nat → Prop) (u9000_ : Value) (l1 : List Int) (a2 : Bool) (a3 : Int) (r1 : Bool) (r2 : List Int) (w0 w : World) (hB : Below w0.heap.size w0 w) (ho1 : Kd.R (Kd.int .i64) 2 w w0.heap.size P1_ u9000_ l1) (h : timer_offdelay.f a0 l1 a2 a3 = some (r1, r2)) :
  Calls Tryz.prog 32 #[.int .i64 a0, u9000_, .bool a2, .int .i64 a3] w fun e w' => e = .returned (.bool r1) ∧ Kd.R (Kd.int .i64) 2 w' w0.heap.size (fun k_ => (P1_ k_ ∨ w.heap.size ≤ k_)) u9000_ r2 ∧ Below w0.heap.size w0 w' ∧ Kept w w' (fun k_ => P1_ k_) := by
 have HO1 := am (show Kd.R (Kd.int .i64) 2 w w0.heap.size (fun k_ => (P1_ k_ ∨ w.heap.size ≤ k_)) u9000_ l1 from Kd.R_mono ho1 (fun k_ hk => (.inl hk)))
 have HK := am (Kept.refl w (fun k_ => P1_ k_))
 have HW0 := am hB.size
 have HB := am hB
 clear hB
 have H : (if a2 = true then (if 0 < (l1.length : Int) then (some (true, (l1.set (0 : Int).toNat (-1)))) else (none)) else (if 0 < (l1.length : Int) then (if (rd l1 0) = 0 then (some (false, l1)) else (if (rd l1 0) = (-1) then (if 0 < a0 then (some (true, (l1.set (0 : Int).toNat (0 + 1)))) else (some (false, (l1.set (0 : Int).toNat 0)))) else (if (wrap64 ((wrap64 ((rd l1 0) - 1)) + a3)) < a0 then (some (true, (l1.set (0 : Int).toNat (wrap64 ((wrap64 ((wrap64 ((rd l1 0) - 1)) + a3)) + 1))))) else (some (false, (l1.set (0 : Int).toNat 0)))))) else (none))) = some (r1, r2) := h
 clear h
 by_cases c5 : a2 = true
 ·
  subst c5
  rw [if_pos rfl] at H
  have c6 := oi H; rw [if_pos c6] at H
  have c6b0 := decide_eq_true c6
  have c6b1 : decide (0 < l1.length) = true := decide_eq_true (by omega)
  clear c6
  obtain ⟨y224, hy224⟩ : ∃ y_ : List Int, y_ = (l1.set (0 : Int).toNat (-1)) := ⟨_, rfl⟩
  (try rw [← hy224] at H); (try rw [Option.bind_some] at H); (try dsimp only at H)
  have Ny224 := am hy224
  clear hy224
  simp only [Option.some.injEq, Prod.mk.injEq] at H
  obtain ⟨rfl, rfl⟩ := H
  have p7 : 0 ≤ (0 : Int) := (by omega); have q7 : (0 : Int) < ((l1.length : Int) : Int) := ode; have qi7 : (0 < l1.length) = True := eq_true (by omega)
  obtain ⟨go7, co7, eo7, gb7, gl7, cl7, HG7⟩ := Kd.R_form HO1.out (by omega)
  (first | cases eo7 | (injection eo7 with ea_ en_ ec_; (first | subst ea_ | (injection ea_ with ea_; subst ea_)); subst ec_; clear en_))
  have GB7 := am gb7
  have GG7 := am HG7
  clear gb7 gl7 HG7
  have HMgo7 := am (show (P1_ go7 ∨ w.heap.size ≤ go7) from (HO1.out.1 _ rfl))
  obtain ⟨hx7_0, hf7_0⟩ := Kd.R_celln 0 HO1.out (0 : Int) p7 q7
  (try rw [t0] at hx7_0); (try simp only [Nat.reduceMul, Nat.zero_mul, Nat.zero_add, Nat.reduceAdd] at hx7_0); (try rw [t0] at hf7_0)
  (try simp only [Nat.reduceMul, Nat.zero_mul, Nat.zero_add, Nat.reduceAdd] at hf7_0)
  replace p7 := eq_true p7; replace q7 := eq_true q7
  have HP8 := Kd.R_putg HO1.out (0 : Int) (-1)
  go_enter Tryz.func32, Tryz.ntmps32
  go_wp2_with (first | ((refine gate_store (t := 2) (p := 12) rfl ?_); refine store_event (t := 2) (p := 12) (v := ?vo_w9) (w1 := (w.setCell ⟨go7, (0 : Int).toNat, none⟩ (.int .i64 (-1)))) ?hg ?ho ?hn ?hr ?_; (case ho => rfl); (case hg => rfl); (case hn => rfl); (case hr => first | (go_simp; done) | (go_simp; rfl)); intro w9 hw; have hg : w.grownBy w9 (some go7) := (by rw [hw]; exact HP8.2); have hp_ : Kd.R (Kd.int .i64) 2 w9 w0.heap.size (fun k_ => (P1_ k_ ∨ w.heap.size ≤ k_)) (.slice (some ⟨go7, 0, none⟩) l1.length co7) y224 := (by rw [hw, Ny224.out]; exact HP8.1); clear HP8; replace HB := am ((by rw [hw]; exact below_set (HB.out) GB7.out : Below w0.heap.size w0 w9)); replace HK := am (Kept.of_grown (S := (fun k_ => P1_ k_)) hg kk (fun k_ e_ => (HO1.out.1 k_ e_))); replace HO1 := am (hp_); clear hg hw hp_))
  go_ret
  exact ⟨ew, rr HO1.out, bl, kk⟩
 replace c5 := Bool.eq_false_iff.mpr c5
 subst c5
 rw [if_neg (show ¬ (false = true) by decide)] at H
 have c10 := oi H; rw [if_pos c10] at H
 have c10b0 := decide_eq_true c10
 have c10b1 : decide (0 < l1.length) = true := decide_eq_true (by omega)
 clear c10
 by_cases c11 : (rd l1 0) = 0
 ·
  rw [if_pos c11] at H
  have c11b0 := beq_iff_eq.mpr c11
  have c11b1 := bne_eq_false_iff_eq.mpr c11
  clear c11
  simp only [Option.some.injEq, Prod.mk.injEq] at H
  obtain ⟨rfl, rfl⟩ := H
  obtain ⟨Ao12, co12, eo12⟩ := Kd.R_slice HO1.out
  subst eo12
  have q225 := ix0 (n := l1.length) ode; obtain ⟨ad225, e225, hx225_0⟩ := Kd.at_int (Kd.R_reads' HO1.out).2.2 0 (by omega) (of_eq_true q225.2.2); cases e225; (try rw [t0] at hx225_0); (try rw [Addr.add_zero'] at hx225_0); obtain ⟨qi225, p225, q225⟩ := q225
  go_enter Tryz.func32, Tryz.ntmps32
  go_wp2
  go_ret
  exact ⟨ew, rr HO1.out, bl, kk⟩
 rw [if_neg c11] at H
 have c11b0 := beq_eq_false_iff_ne.mpr c11
 have c11b1 := bne_iff_ne.mpr c11
 by_cases c13 : (rd l1 0) = (-1)
 ·
  rw [if_pos c13] at H
  have c13b0 := beq_iff_eq.mpr c13
  have c13b1 := bne_eq_false_iff_eq.mpr c13
  clear c13
  by_cases c14 : 0 < a0
  ·
   rw [if_pos c14] at H
   have c14b0 := decide_eq_true c14
   clear c14
   obtain ⟨y227, hy227⟩ : ∃ y_ : List Int, y_ = (l1.set (0 : Int).toNat (0 + 1)) := ⟨_, rfl⟩
   (try rw [← hy227] at H); (try rw [Option.bind_some] at H); (try dsimp only at H)
   have Ny227 := am hy227
   clear hy227
   simp only [Option.some.injEq, Prod.mk.injEq] at H
   obtain ⟨rfl, rfl⟩ := H
   obtain ⟨Ao16, co16, eo16⟩ := Kd.R_slice HO1.out
   subst eo16
   have q225 := ix0 (n := l1.length) ode; obtain ⟨ad225, e225, hx225_0⟩ := Kd.at_int (Kd.R_reads' HO1.out).2.2 0 (by omega) (of_eq_true q225.2.2); cases e225; (try rw [t0] at hx225_0); (try rw [Addr.add_zero'] at hx225_0); obtain ⟨qi225, p225, q225⟩ := q225; have q226 := ix0 (n := l1.length) ode; obtain ⟨ad226, e226, hx226_0⟩ := Kd.at_int (Kd.R_reads' HO1.out).2.2 0 (by omega) (of_eq_true q226.2.2); obtain rfl : ad225 = ad226 := (by injection e226); (try rw [t0] at hx226_0); (try rw [Addr.add_zero'] at hx226_0); obtain ⟨qi226, p226, q226⟩ := q226; have p15 : 0 ≤ (0 : Int) := (by omega); have q15 : (0 : Int) < ((l1.length : Int) : Int) := ode; have qi15 : (0 < l1.length) = True := eq_true (by omega)
   obtain ⟨go15, co15, eo15, gb15, gl15, cl15, HG15⟩ := Kd.R_form HO1.out (by omega)
   (first | cases eo15 | (injection eo15 with ea_ en_ ec_; (first | subst ea_ | (injection ea_ with ea_; subst ea_)); subst ec_; clear en_))
   have GB15 := am gb15
   have GG15 := am HG15
   clear gb15 gl15 HG15
   have HMgo15 := am (show (P1_ go15 ∨ w.heap.size ≤ go15) from (HO1.out.1 _ rfl))
   (first | simp only [add_plain] at hx225_0 | skip)
   (first | simp only [add_plain] at hx226_0 | skip)
   obtain ⟨hx15_0, hf15_0⟩ := Kd.R_celln 0 HO1.out (0 : Int) p15 q15
   (try rw [t0] at hx15_0); (try simp only [Nat.reduceMul, Nat.zero_mul, Nat.zero_add, Nat.reduceAdd] at hx15_0); (try rw [t0] at hf15_0)
   (try simp only [Nat.reduceMul, Nat.zero_mul, Nat.zero_add, Nat.reduceAdd] at hf15_0)
   replace p15 := eq_true p15; replace q15 := eq_true q15
   have HP17 := Kd.R_putg HO1.out (0 : Int) (0 + 1)
   go_enter Tryz.func32, Tryz.ntmps32
   go_wp2_with (first | ((refine gate_store (t := 2) (p := 33) rfl ?_); refine store_event (t := 2) (p := 33) (v := ?vo_w18) (w1 := (w.setCell ⟨go15, (0 : Int).toNat, none⟩ (.int .i64 (0 + 1)))) ?hg ?ho ?hn ?hr ?_; (case ho => rfl); (case hg => rfl); (case hn => rfl); (case hr => first | (go_simp; done) | (go_simp; rfl)); intro w18 hw; have hg : w.grownBy w18 (some go15) := (by rw [hw]; exact HP17.2); have hp_ : Kd.R (Kd.int .i64) 2 w18 w0.heap.size (fun k_ => (P1_ k_ ∨ w.heap.size ≤ k_)) (.slice (some ⟨go15, 0, none⟩) l1.length co16) y227 := (by rw [hw, Ny227.out]; exact HP17.1); clear HP17; replace HB := am ((by rw [hw]; exact below_set (HB.out) GB15.out : Below w0.heap.size w0 w18)); replace HK := am (Kept.of_grown (S := (fun k_ => P1_ k_)) hg kk (fun k_ e_ => (HO1.out.1 k_ e_))); replace HO1 := am (hp_); clear hg hw hp_))
   go_ret
   exact ⟨ew, rr HO1.out, bl, kk⟩
  rw [if_neg c14] at H
  have c14b0 := decide_eq_false c14
  clear c14
  obtain ⟨y228, hy228⟩ : ∃ y_ : List Int, y_ = (l1.set (0 : Int).toNat 0) := ⟨_, rfl⟩
  (try rw [← hy228] at H); (try rw [Option.bind_some] at H); (try dsimp only at H)
  have Ny228 := am hy228
  clear hy228
  simp only [Option.some.injEq, Prod.mk.injEq] at H
  obtain ⟨rfl, rfl⟩ := H
  obtain ⟨Ao20, co20, eo20⟩ := Kd.R_slice HO1.out
  subst eo20
  have q225 := ix0 (n := l1.length) ode; obtain ⟨ad225, e225, hx225_0⟩ := Kd.at_int (Kd.R_reads' HO1.out).2.2 0 (by omega) (of_eq_true q225.2.2); cases e225; (try rw [t0] at hx225_0); (try rw [Addr.add_zero'] at hx225_0); obtain ⟨qi225, p225, q225⟩ := q225; have q226 := ix0 (n := l1.length) ode; obtain ⟨ad226, e226, hx226_0⟩ := Kd.at_int (Kd.R_reads' HO1.out).2.2 0 (by omega) (of_eq_true q226.2.2); obtain rfl : ad225 = ad226 := (by injection e226); (try rw [t0] at hx226_0); (try rw [Addr.add_zero'] at hx226_0); obtain ⟨qi226, p226, q226⟩ := q226; have p19 : 0 ≤ (0 : Int) := (by omega); have q19 : (0 : Int) < ((l1.length : Int) : Int) := ode; have qi19 : (0 < l1.length) = True := eq_true (by omega)
  obtain ⟨go19, co19, eo19, gb19, gl19, cl19, HG19⟩ := Kd.R_form HO1.out (by omega)
  (first | cases eo19 | (injection eo19 with ea_ en_ ec_; (first | subst ea_ | (injection ea_ with ea_; subst ea_)); subst ec_; clear en_))
  have GB19 := am gb19
  have GG19 := am HG19
  clear gb19 gl19 HG19
  have HMgo19 := am (show (P1_ go19 ∨ w.heap.size ≤ go19) from (HO1.out.1 _ rfl))
  (first | simp only [add_plain] at hx225_0 | skip)
  (first | simp only [add_plain] at hx226_0 | skip)
  obtain ⟨hx19_0, hf19_0⟩ := Kd.R_celln 0 HO1.out (0 : Int) p19 q19
  (try rw [t0] at hx19_0); (try simp only [Nat.reduceMul, Nat.zero_mul, Nat.zero_add, Nat.reduceAdd] at hx19_0); (try rw [t0] at hf19_0)
  (try simp only [Nat.reduceMul, Nat.zero_mul, Nat.zero_add, Nat.reduceAdd] at hf19_0)
  replace p19 := eq_true p19; replace q19 := eq_true q19
  have HP21 := Kd.R_putg HO1.out (0 : Int) 0
  go_enter Tryz.func32, Tryz.ntmps32
  go_wp2_with (first | ((refine gate_store (t := 2) (p := 35) rfl ?_); refine store_event (t := 2) (p := 35) (v := ?vo_w22) (w1 := (w.setCell ⟨go19, (0 : Int).toNat, none⟩ (.int .i64 0))) ?hg ?ho ?hn ?hr ?_; (case ho => rfl); (case hg => rfl); (case hn => rfl); (case hr => first | (go_simp; done) | (go_simp; rfl)); intro w22 hw; have hg : w.grownBy w22 (some go19) := (by rw [hw]; exact HP21.2); have hp_ : Kd.R (Kd.int .i64) 2 w22 w0.heap.size (fun k_ => (P1_ k_ ∨ w.heap.size ≤ k_)) (.slice (some ⟨go19, 0, none⟩) l1.length co20) y228 := (by rw [hw, Ny228.out]; exact HP21.1); clear HP21; replace HB := am ((by rw [hw]; exact below_set (HB.out) GB19.out : Below w0.heap.size w0 w22)); replace HK := am (Kept.of_grown (S := (fun k_ => P1_ k_)) hg kk (fun k_ e_ => (HO1.out.1 k_ e_))); replace HO1 := am (hp_); clear hg hw hp_))
  go_ret
  exact ⟨ew, rr HO1.out, bl, kk⟩
 rw [if_neg c13] at H
 have c13b0 := beq_eq_false_iff_ne.mpr c13
 have c13b1 := bne_iff_ne.mpr c13
 by_cases c23 : (wrap64 ((wrap64 ((rd l1 0) - 1)) + a3)) < a0
 ·
  rw [if_pos c23] at H
  have c23b0 := decide_eq_true c23
  clear c23
  obtain ⟨y230, hy230⟩ : ∃ y_ : List Int, y_ = (l1.set (0 : Int).toNat (wrap64 ((wrap64 ((wrap64 ((rd l1 0) - 1)) + a3)) + 1))) := ⟨_, rfl⟩
  (try rw [← hy230] at H); (try rw [Option.bind_some] at H); (try dsimp only at H)
  have Ny230 := am hy230
  clear hy230
  simp only [Option.some.injEq, Prod.mk.injEq] at H
  obtain ⟨rfl, rfl⟩ := H
  obtain ⟨Ao25, co25, eo25⟩ := Kd.R_slice HO1.out
  subst eo25
  have q225 := ix0 (n := l1.length) ode; obtain ⟨ad225, e225, hx225_0⟩ := Kd.at_int (Kd.R_reads' HO1.out).2.2 0 (by omega) (of_eq_true q225.2.2); cases e225; (try rw [t0] at hx225_0); (try rw [Addr.add_zero'] at hx225_0); obtain ⟨qi225, p225, q225⟩ := q225; have q226 := ix0 (n := l1.length) ode; obtain ⟨ad226, e226, hx226_0⟩ := Kd.at_int (Kd.R_reads' HO1.out).2.2 0 (by omega) (of_eq_true q226.2.2); obtain rfl : ad225 = ad226 := (by injection e226); (try rw [t0] at hx226_0); (try rw [Addr.add_zero'] at hx226_0); obtain ⟨qi226, p226, q226⟩ := q226; have q229 := ix0 (n := l1.length) ode; obtain ⟨ad229, e229, hx229_0⟩ := Kd.at_int (Kd.R_reads' HO1.out).2.2 0 (by omega) (of_eq_true q229.2.2); obtain rfl : ad225 = ad229 := (by injection e229); (try rw [t0] at hx229_0); (try rw [Addr.add_zero'] at hx229_0); obtain ⟨qi229, p229, q229⟩ := q229; have p24 : 0 ≤ (0 : Int) := (by omega); have q24 : (0 : Int) < ((l1.length : Int) : Int) := ode; have qi24 : (0 < l1.length) = True := eq_true (by omega)
  obtain ⟨go24, co24, eo24, gb24, gl24, cl24, HG24⟩ := Kd.R_form HO1.out (by omega)
  (first | cases eo24 | (injection eo24 with ea_ en_ ec_; (first | subst ea_ | (injection ea_ with ea_; subst ea_)); subst ec_; clear en_))
  have GB24 := am gb24
  have GG24 := am HG24
  clear gb24 gl24 HG24
  have HMgo24 := am (show (P1_ go24 ∨ w.heap.size ≤ go24) from (HO1.out.1 _ rfl))
  (first | simp only [add_plain] at hx225_0 | skip)
  (first | simp only [add_plain] at hx226_0 | skip)
  (first | simp only [add_plain] at hx229_0 | skip)
  obtain ⟨hx24_0, hf24_0⟩ := Kd.R_celln 0 HO1.out (0 : Int) p24 q24
  (try rw [t0] at hx24_0); (try simp only [Nat.reduceMul, Nat.zero_mul, Nat.zero_add, Nat.reduceAdd] at hx24_0); (try rw [t0] at hf24_0)
  (try simp only [Nat.reduceMul, Nat.zero_mul, Nat.zero_add, Nat.reduceAdd] at hf24_0)
  replace p24 := eq_true p24; replace q24 := eq_true q24
  have HP26 := Kd.R_putg HO1.out (0 : Int) (wrap64 ((wrap64 ((wrap64 ((rd l1 0) - 1)) + a3)) + 1))
  go_enter Tryz.func32, Tryz.ntmps32
  go_wp2_with (first | ((refine gate_store (t := 2) (p := 33) rfl ?_); refine store_event (t := 2) (p := 33) (v := ?vo_w27) (w1 := (w.setCell ⟨go24, (0 : Int).toNat, none⟩ (.int .i64 (wrap64 ((wrap64 ((wrap64 ((rd l1 0) - 1)) + a3)) + 1))))) ?hg ?ho ?hn ?hr ?_; (case ho => rfl); (case hg => rfl); (case hn => rfl); (case hr => first | (go_simp; done) | (go_simp; rfl)); intro w27 hw; have hg : w.grownBy w27 (some go24) := (by rw [hw]; exact HP26.2); have hp_ : Kd.R (Kd.int .i64) 2 w27 w0.heap.size (fun k_ => (P1_ k_ ∨ w.heap.size ≤ k_)) (.slice (some ⟨go24, 0, none⟩) l1.length co25) y230 := (by rw [hw, Ny230.out]; exact HP26.1); clear HP26; replace HB := am ((by rw [hw]; exact below_set (HB.out) GB24.out : Below w0.heap.size w0 w27)); replace HK := am (Kept.of_grown (S := (fun k_ => P1_ k_)) hg kk (fun k_ e_ => (HO1.out.1 k_ e_))); replace HO1 := am (hp_); clear hg hw hp_))
  go_ret
  exact ⟨ew, rr HO1.out, bl, kk⟩
 rw [if_neg c23] at H
 have c23b0 := decide_eq_false c23
 clear c23
 obtain ⟨y231, hy231⟩ : ∃ y_ : List Int, y_ = (l1.set (0 : Int).toNat 0) := ⟨_, rfl⟩
 (try rw [← hy231] at H); (try rw [Option.bind_some] at H); (try dsimp only at H)
 have Ny231 := am hy231
 clear hy231
 simp only [Option.some.injEq, Prod.mk.injEq] at H
 obtain ⟨rfl, rfl⟩ := H
 obtain ⟨Ao29, co29, eo29⟩ := Kd.R_slice HO1.out
 subst eo29
 have q225 := ix0 (n := l1.length) ode; obtain ⟨ad225, e225, hx225_0⟩ := Kd.at_int (Kd.R_reads' HO1.out).2.2 0 (by omega) (of_eq_true q225.2.2); cases e225; (try rw [t0] at hx225_0); (try rw [Addr.add_zero'] at hx225_0); obtain ⟨qi225, p225, q225⟩ := q225; have q226 := ix0 (n := l1.length) ode; obtain ⟨ad226, e226, hx226_0⟩ := Kd.at_int (Kd.R_reads' HO1.out).2.2 0 (by omega) (of_eq_true q226.2.2); obtain rfl : ad225 = ad226 := (by injection e226); (try rw [t0] at hx226_0); (try rw [Addr.add_zero'] at hx226_0); obtain ⟨qi226, p226, q226⟩ := q226; have q229 := ix0 (n := l1.length) ode; obtain ⟨ad229, e229, hx229_0⟩ := Kd.at_int (Kd.R_reads' HO1.out).2.2 0 (by omega) (of_eq_true q229.2.2); obtain rfl : ad225 = ad229 := (by injection e229); (try rw [t0] at hx229_0); (try rw [Addr.add_zero'] at hx229_0); obtain ⟨qi229, p229, q229⟩ := q229; have p28 : 0 ≤ (0 : Int) := (by omega); have q28 : (0 : Int) < ((l1.length : Int) : Int) := ode; have qi28 : (0 < l1.length) = True := eq_true (by omega)
 obtain ⟨go28, co28, eo28, gb28, gl28, cl28, HG28⟩ := Kd.R_form HO1.out (by omega)
 (first | cases eo28 | (injection eo28 with ea_ en_ ec_; (first | subst ea_ | (injection ea_ with ea_; subst ea_)); subst ec_; clear en_))
 have GB28 := am gb28
 have GG28 := am HG28
 clear gb28 gl28 HG28
 have HMgo28 := am (show (P1_ go28 ∨ w.heap.size ≤ go28) from (HO1.out.1 _ rfl))
 (first | simp only [add_plain] at hx225_0 | skip)
 (first | simp only [add_plain] at hx226_0 | skip)
 (first | simp only [add_plain] at hx229_0 | skip)
 obtain ⟨hx28_0, hf28_0⟩ := Kd.R_celln 0 HO1.out (0 : Int) p28 q28
 (try rw [t0] at hx28_0); (try simp only [Nat.reduceMul, Nat.zero_mul, Nat.zero_add, Nat.reduceAdd] at hx28_0); (try rw [t0] at hf28_0)
 (try simp only [Nat.reduceMul, Nat.zero_mul, Nat.zero_add, Nat.reduceAdd] at hf28_0)
 replace p28 := eq_true p28; replace q28 := eq_true q28
 have HP30 := Kd.R_putg HO1.out (0 : Int) 0
 go_enter Tryz.func32, Tryz.ntmps32
 go_wp2_with (first | ((refine gate_store (t := 2) (p := 35) rfl ?_); refine store_event (t := 2) (p := 35) (v := ?vo_w31) (w1 := (w.setCell ⟨go28, (0 : Int).toNat, none⟩ (.int .i64 0))) ?hg ?ho ?hn ?hr ?_; (case ho => rfl); (case hg => rfl); (case hn => rfl); (case hr => first | (go_simp; done) | (go_simp; rfl)); intro w31 hw; have hg : w.grownBy w31 (some go28) := (by rw [hw]; exact HP30.2); have hp_ : Kd.R (Kd.int .i64) 2 w31 w0.heap.size (fun k_ => (P1_ k_ ∨ w.heap.size ≤ k_)) (.slice (some ⟨go28, 0, none⟩) l1.length co29) y231 := (by rw [hw, Ny231.out]; exact HP30.1); clear HP30; replace HB := am ((by rw [hw]; exact below_set (HB.out) GB28.out : Below w0.heap.size w0 w31)); replace HK := am (Kept.of_grown (S := (fun k_ => P1_ k_)) hg kk (fun k_ e_ => (HO1.out.1 k_ e_))); replace HO1 := am (hp_); clear hg hw hp_))
 go_ret
 exact ⟨ew, rr HO1.out, bl, kk⟩
def timer_ondelay.f (a0 : Int) (l1 : List Int) (a2 : Bool) (a3 : Int) : Option (Bool × List Int) := if a2 = true then (if 0 < (l1.length : Int) then (if (rd l1 0) = 0 then (some ((0 == a0), (l1.set (0 : Int).toNat (0 + 1)))) else (some (((mn (wrap64 ((wrap64 ((rd l1 0) - 1)) + a3)) a0) == a0), (l1.set (0 : Int).toNat (wrap64 ((mn (wrap64 ((wrap64 ((rd l1 0) - 1)) + a3)) a0) + 1)))))) else (none)) else (if 0 < (l1.length : Int) then (some (false, (l1.set (0 : Int).toNat 0))) else (none))
set_option maxHeartbeats 8000000 in
set_option maxRecDepth 100000 in
theorem timer_ondelay.calls (a0 : Int) (P1_ : Nat → Prop) (u9000_ : Value) (l1 : List Int) (a2 : Bool) (a3 : Int) (r1 : Bool) (r2 : List Int) (w0 w : World) (hB : Below w0.heap.size w0 w) (ho1 : Kd.R (Kd.int .i64) 2 w w0.heap.size P1_ u9000_ l1) (h : timer_ondelay.f a0 l1 a2 a3 = some (r1, r2)) :
  Calls Tryz.prog 33 #[.int .i64 a0, u9000_, .bool a2, .int .i64 a3] w fun e w' => e = .returned (.bool r1) ∧ Kd.R (Kd.int .i64) 2 w' w0.heap.size (fun k_ => (P1_ k_ ∨ w.heap.size ≤ k_)) u9000_ r2 ∧ Below w0.heap.size w0 w' ∧ Kept w w' (fun k_ => P1_ k_) := by
 have HO1 := am (show Kd.R (Kd.int .i64) 2 w w0.heap.size (fun k_ => (P1_ k_ ∨ w.heap.size ≤ k_)) u9000_ l1 from Kd.R_mono ho1 (fun k_ hk => (.inl hk)))
 have HK := am (Kept.refl w (fun k_ => P1_ k_))
 have HW0 := am hB.size
 have HB := am hB
 clear hB
 have H : (if a2 = true then (if 0 < (l1.length : Int) then (if (rd l1 0) = 0 then (some ((0 == a0), (l1.set (0 : Int).toNat (0 + 1)))) else (some (((mn (wrap64 ((wrap64 ((rd l1 0) - 1)) + a3)) a0) == a0), (l1.set (0 : Int).toNat (wrap64 ((mn (wrap64 ((wrap64 ((rd l1 0) - 1)) + a3)) a0) + 1)))))) else (none)) else (if 0 < (l1.length : Int) then (some (false, (l1.set (0 : Int).toNat 0))) else (none))) = some (r1, r2) := h
 clear h
 by_cases c5 : a2 = true
 rotate_left
 ·
  replace c5 := Bool.eq_false_iff.mpr c5
  subst c5
  rw [if_neg (show ¬ (false = true) by decide)] at H
  have c17 := oi H; rw [if_pos c17] at H
  have c17b0 := decide_eq_true c17
  have c17b1 : decide (0 < l1.length) = true := decide_eq_true (by omega)
  clear c17
  obtain ⟨y236, hy236⟩ : ∃ y_ : List Int, y_ = (l1.set (0 : Int).toNat 0) := ⟨_, rfl⟩
  (try rw [← hy236] at H); (try rw [Option.bind_some] at H); (try dsimp only at H)
  have Ny236 := am hy236
  clear hy236
  simp only [Option.some.injEq, Prod.mk.injEq] at H
  obtain ⟨rfl, rfl⟩ := H
  have p18 : 0 ≤ (0 : Int) := (by omega); have q18 : (0 : Int) < ((l1.length : Int) : Int) := ode; have qi18 : (0 < l1.length) = True := eq_true (by omega)
  obtain ⟨go18, co18, eo18, gb18, gl18, cl18, HG18⟩ := Kd.R_form HO1.out (by omega)
  (first | cases eo18 | (injection eo18 with ea_ en_ ec_; (first | subst ea_ | (injection ea_ with ea_; subst ea_)); subst ec_; clear en_))
  have GB18 := am gb18
  have GG18 := am HG18
  clear gb18 gl18 HG18
  have HMgo18 := am (show (P1_ go18 ∨ w.heap.size ≤ go18) from (HO1.out.1 _ rfl))
  obtain ⟨hx18_0, hf18_0⟩ := Kd.R_celln 0 HO1.out (0 : Int) p18 q18
  (try rw [t0] at hx18_0); (try simp only [Nat.reduceMul, Nat.zero_mul, Nat.zero_add, Nat.reduceAdd] at hx18_0); (try rw [t0] at hf18_0)
  (try simp only [Nat.reduceMul, Nat.zero_mul, Nat.zero_add, Nat.reduceAdd] at hf18_0)
  replace p18 := eq_true p18; replace q18 := eq_true q18
  have HP19 := Kd.R_putg HO1.out (0 : Int) 0
  go_enter Tryz.func33, Tryz.ntmps33
  go_wp2_with (first | ((refine gate_store (t := 2) (p := 13) rfl ?_); refine store_event (t := 2) (p := 13) (v := ?vo_w20) (w1 := (w.setCell ⟨go18, (0 : Int).toNat, none⟩ (.int .i64 0))) ?hg ?ho ?hn ?hr ?_; (case ho => rfl); (case hg => rfl); (case hn => rfl); (case hr => first | (go_simp; done) | (go_simp; rfl)); intro w20 hw; have hg : w.grownBy w20 (some go18) := (by rw [hw]; exact HP19.2); have hp_ : Kd.R (Kd.int .i64) 2 w20 w0.heap.size (fun k_ => (P1_ k_ ∨ w.heap.size ≤ k_)) (.slice (some ⟨go18, 0, none⟩) l1.length co18) y236 := (by rw [hw, Ny236.out]; exact HP19.1); clear HP19; replace HB := am ((by rw [hw]; exact below_set (HB.out) GB18.out : Below w0.heap.size w0 w20)); replace HK := am (Kept.of_grown (S := (fun k_ => P1_ k_)) hg kk (fun k_ e_ => (HO1.out.1 k_ e_))); replace HO1 := am (hp_); clear hg hw hp_))
  go_ret
  exact ⟨ew, rr HO1.out, bl, kk⟩
 subst c5
 rw [if_pos rfl] at H
 have c6 := oi H; rw [if_pos c6] at H
 have c6b0 := decide_eq_true c6
 have c6b1 : decide (0 < l1.length) = true := decide_eq_true (by omega)
 clear c6
 by_cases c7 : (rd l1 0) = 0
 ·
  rw [if_pos c7] at H
  have c7b0 := beq_iff_eq.mpr c7
  have c7b1 := bne_eq_false_iff_eq.mpr c7
  clear c7
  obtain ⟨y233, hy233⟩ : ∃ y_ : List Int, y_ = (l1.set (0 : Int).toNat (0 + 1)) := ⟨_, rfl⟩
  (try rw [← hy233] at H); (try rw [Option.bind_some] at H); (try dsimp only at H)
  have Ny233 := am hy233
  clear hy233
  simp only [Option.some.injEq, Prod.mk.injEq] at H
  obtain ⟨rfl, rfl⟩ := H
  obtain ⟨Ao9, co9, eo9⟩ := Kd.R_slice HO1.out
  subst eo9
  have q232 := ix0 (n := l1.length) ode; obtain ⟨ad232, e232, hx232_0⟩ := Kd.at_int (Kd.R_reads' HO1.out).2.2 0 (by omega) (of_eq_true q232.2.2); cases e232; (try rw [t0] at hx232_0); (try rw [Addr.add_zero'] at hx232_0); obtain ⟨qi232, p232, q232⟩ := q232; have p8 : 0 ≤ (0 : Int) := (by omega); have q8 : (0 : Int) < ((l1.length : Int) : Int) := ode; have qi8 : (0 < l1.length) = True := eq_true (by omega)
  obtain ⟨go8, co8, eo8, gb8, gl8, cl8, HG8⟩ := Kd.R_form HO1.out (by omega)
  (first | cases eo8 | (injection eo8 with ea_ en_ ec_; (first | subst ea_ | (injection ea_ with ea_; subst ea_)); subst ec_; clear en_))
  have GB8 := am gb8
  have GG8 := am HG8
  clear gb8 gl8 HG8
  have HMgo8 := am (show (P1_ go8 ∨ w.heap.size ≤ go8) from (HO1.out.1 _ rfl))
  (first | simp only [add_plain] at hx232_0 | skip)
  obtain ⟨hx8_0, hf8_0⟩ := Kd.R_celln 0 HO1.out (0 : Int) p8 q8
  (try rw [t0] at hx8_0); (try simp only [Nat.reduceMul, Nat.zero_mul, Nat.zero_add, Nat.reduceAdd] at hx8_0); (try rw [t0] at hf8_0)
  (try simp only [Nat.reduceMul, Nat.zero_mul, Nat.zero_add, Nat.reduceAdd] at hf8_0)
  replace p8 := eq_true p8; replace q8 := eq_true q8
  have HP10 := Kd.R_putg HO1.out (0 : Int) (0 + 1)
  go_enter Tryz.func33, Tryz.ntmps33
  go_wp2_with (first | ((refine gate_store (t := 2) (p := 29) rfl ?_); refine store_event (t := 2) (p := 29) (v := ?vo_w11) (w1 := (w.setCell ⟨go8, (0 : Int).toNat, none⟩ (.int .i64 (0 + 1)))) ?hg ?ho ?hn ?hr ?_; (case ho => rfl); (case hg => rfl); (case hn => rfl); (case hr => first | (go_simp; done) | (go_simp; rfl)); intro w11 hw; have hg : w.grownBy w11 (some go8) := (by rw [hw]; exact HP10.2); have hp_ : Kd.R (Kd.int .i64) 2 w11 w0.heap.size (fun k_ => (P1_ k_ ∨ w.heap.size ≤ k_)) (.slice (some ⟨go8, 0, none⟩) l1.length co9) y233 := (by rw [hw, Ny233.out]; exact HP10.1); clear HP10; replace HB := am ((by rw [hw]; exact below_set (HB.out) GB8.out : Below w0.heap.size w0 w11)); replace HK := am (Kept.of_grown (S := (fun k_ => P1_ k_)) hg kk (fun k_ e_ => (HO1.out.1 k_ e_))); replace HO1 := am (hp_); clear hg hw hp_))
  go_ret
  exact ⟨ew, rr HO1.out, bl, kk⟩
 rw [if_neg c7] at H
 have c7b0 := beq_eq_false_iff_ne.mpr c7
 have c7b1 := bne_iff_ne.mpr c7
 obtain ⟨ji12, hji12⟩ : ∃ j_ : Int, (mn (wrap64 ((wrap64 ((rd l1 0) - 1)) + a3)) a0) = j_ := ⟨_, rfl⟩
 replace H : (some (((ji12) == a0), (l1.set (0 : Int).toNat (wrap64 ((ji12) + 1))))) = some (r1, r2) := by first | (rw [hji12] at H; exact H) | (simp only [hji12] at H ⊢; exact H)
 have hji12_ : (if a0 < (wrap64 ((wrap64 ((rd l1 0) - 1)) + a3)) then a0 else (wrap64 ((wrap64 ((rd l1 0) - 1)) + a3))) = ji12 := hji12
 obtain ⟨y235, hy235⟩ : ∃ y_ : List Int, y_ = (l1.set (0 : Int).toNat (wrap64 ((ji12) + 1))) := ⟨_, rfl⟩
 (try rw [← hy235] at H); (try rw [Option.bind_some] at H); (try dsimp only at H)
 have Ny235 := am hy235
 clear hy235
 simp only [Option.some.injEq, Prod.mk.injEq] at H
 obtain ⟨rfl, rfl⟩ := H
 obtain ⟨Ao14, co14, eo14⟩ := Kd.R_slice HO1.out
 subst eo14
 have q232 := ix0 (n := l1.length) ode; obtain ⟨ad232, e232, hx232_0⟩ := Kd.at_int (Kd.R_reads' HO1.out).2.2 0 (by omega) (of_eq_true q232.2.2); cases e232; (try rw [t0] at hx232_0); (try rw [Addr.add_zero'] at hx232_0); obtain ⟨qi232, p232, q232⟩ := q232; have q234 := ix0 (n := l1.length) ode; obtain ⟨ad234, e234, hx234_0⟩ := Kd.at_int (Kd.R_reads' HO1.out).2.2 0 (by omega) (of_eq_true q234.2.2); obtain rfl : ad232 = ad234 := (by injection e234); (try rw [t0] at hx234_0); (try rw [Addr.add_zero'] at hx234_0); obtain ⟨qi234, p234, q234⟩ := q234; have p13 : 0 ≤ (0 : Int) := (by omega); have q13 : (0 : Int) < ((l1.length : Int) : Int) := ode; have qi13 : (0 < l1.length) = True := eq_true (by omega)
 obtain ⟨go13, co13, eo13, gb13, gl13, cl13, HG13⟩ := Kd.R_form HO1.out (by omega)
 (first | cases eo13 | (injection eo13 with ea_ en_ ec_; (first | subst ea_ | (injection ea_ with ea_; subst ea_)); subst ec_; clear en_))
 have GB13 := am gb13
 have GG13 := am HG13
 clear gb13 gl13 HG13
 have HMgo13 := am (show (P1_ go13 ∨ w.heap.size ≤ go13) from (HO1.out.1 _ rfl))
 (first | simp only [add_plain] at hx232_0 | skip)
 (first | simp only [add_plain] at hx234_0 | skip)
 obtain ⟨hx13_0, hf13_0⟩ := Kd.R_celln 0 HO1.out (0 : Int) p13 q13
 (try rw [t0] at hx13_0); (try simp only [Nat.reduceMul, Nat.zero_mul, Nat.zero_add, Nat.reduceAdd] at hx13_0); (try rw [t0] at hf13_0)
 (try simp only [Nat.reduceMul, Nat.zero_mul, Nat.zero_add, Nat.reduceAdd] at hf13_0)
 replace p13 := eq_true p13; replace q13 := eq_true q13
 have HP15 := Kd.R_putg HO1.out (0 : Int) (wrap64 ((ji12) + 1))
 go_enter Tryz.func33, Tryz.ntmps33
 go_wp2_with (first | ((refine gate_store (t := 2) (p := 29) rfl ?_); refine store_event (t := 2) (p := 29) (v := ?vo_w16) (w1 := (w.setCell ⟨go13, (0 : Int).toNat, none⟩ (.int .i64 (wrap64 ((ji12) + 1))))) ?hg ?ho ?hn ?hr ?_; (case ho => rfl); (case hg => rfl); (case hn => rfl); (case hr => first | (go_simp; done) | (go_simp; rfl)); intro w16 hw; have hg : w.grownBy w16 (some go13) := (by rw [hw]; exact HP15.2); have hp_ : Kd.R (Kd.int .i64) 2 w16 w0.heap.size (fun k_ => (P1_ k_ ∨ w.heap.size ≤ k_)) (.slice (some ⟨go13, 0, none⟩) l1.length co14) y235 := (by rw [hw, Ny235.out]; exact HP15.1); clear HP15; replace HB := am ((by rw [hw]; exact below_set (HB.out) GB13.out : Below w0.heap.size w0 w16)); replace HK := am (Kept.of_grown (S := (fun k_ => P1_ k_)) hg kk (fun k_ e_ => (HO1.out.1 k_ e_))); replace HO1 := am (hp_); clear hg hw hp_))
 go_ret
 exact ⟨by first | rfl | (simp [errW_none, errW_some] <;> rfl) | (simp only [← hji12]; first | rfl | (simp [errW_none, errW_some] <;> rfl)) | (simp [*, errW_none, errW_some] <;> rfl), rr HO1.out, bl, kk⟩
end Go.Proofs.YtjjbdgngncgikaaGreatDoor.R
