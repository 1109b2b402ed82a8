-- Written by this claim's own program out of the translation; not trusted: Lean checks it.
import Derived.Test.YtjjbdgngncgikaaDoorRx0
import Derived.Test.YtjjbdgngncgikaaDoorRx9
import Derived.Test.YtjjbdgngncgikaaDoorRx10
namespace Go.Proofs.YtjjbdgngncgikaaDoor.R
open Go.RowKit Go.Proofs.YtjjbdgngncgikaaDoorW.PrintWords Go.Proofs.YtjjbdgngncgikaaDoorW.PrintLast Go.Proofs.YtjjbdgngncgikaaDoorW.PrintMore
attribute [local go_sem] max2_int min2_int max_two min_two max_three min_three max_four min_four   -- for this text's walks alone
set_option linter.unusedVariables false
set_option linter.unusedSimpArgs false

/-! ### timer_minrun: function 24 -/
mutual
def timer_minrun.j0 : Nat → List Int → List Int → Bool → Int → Bool → Option (Bool × List Int)
 | 0, _, _, _, _, _ => none
 | k + 1, x0, x1, x2, x10, x11 => (timer_bit.f x2).bind fun t208 => (if 0 < (x1.length : Int) then (if t208 = (rd x1 0) then (timer_minrun.j1 k x0 x1 x2 x10 x11 true) else (timer_minrun.j1 k x0 x1 x2 x10 x11 x11)) else (none))
def timer_minrun.j1 : Nat → List Int → List Int → Bool → Int → Bool → Bool → Option (Bool × List Int)
 | 0, _, _, _, _, _, _ => none
 | k + 1, x0, x1, x2, x10, x11, x40 => if x40 = true then (if x11 = true then (if 1 < (x1.length : Int) then ((some (x1.set (1 : Int).toNat (wrap64 (x10 + 1)) : List Int)).bind fun y210 => (if 0 < (x1.length : Int) then (some (((rd y210 0) == 1), y210)) else (none))) else (none)) else (if 1 < (x1.length : Int) then ((some (x1.set (1 : Int).toNat 0 : List Int)).bind fun y212 => (if 0 < (x1.length : Int) then (some (((rd y212 0) == 1), y212)) else (none))) else (none))) else ((timer_bit.f x2).bind fun t214 => (if 0 < (x1.length : Int) then ((some (x1.set (0 : Int).toNat t214 : List Int)).bind fun y215 => ((timer_least.f x0 (rd y215 0)).bind fun t217 => ((timer_bit.f (t217 != 0)).bind fun t218 => (if 1 < (x1.length : Int) then (some (x2, (y215.set (1 : Int).toNat t218))) else (none))))) else (none)))
end
def timer_minrun.f (k : Nat) (l0 : List Int) (l1 : List Int) (a2 : Bool) (a3 : Int) : Option (Bool × List Int) := if 0 < (l1.length : Int) then ((timer_least.f l0 (rd l1 0)).bind fun t205 => (if 1 < (l1.length : Int) then (if (rd l1 1) = 0 then (timer_minrun.j0 k l0 l1 a2 (wrap64 ((wrap64 ((rd l1 1) - 1)) + a3)) false) else (timer_minrun.j0 k l0 l1 a2 (wrap64 ((wrap64 ((rd l1 1) - 1)) + a3)) (decide ((wrap64 ((wrap64 ((rd l1 1) - 1)) + a3)) < t205)))) else (none))) else (none)
theorem timer_minrun.mono_l : ∀ k, (∀ y0 y1 y2 y3 y4, LeO (timer_minrun.j0 k y0 y1 y2 y3 y4) (timer_minrun.j0 (k + 1) y0 y1 y2 y3 y4)) ∧ (∀ y0 y1 y2 y3 y4 y5, LeO (timer_minrun.j1 k y0 y1 y2 y3 y4 y5) (timer_minrun.j1 (k + 1) y0 y1 y2 y3 y4 y5))
 | 0 => ⟨fun _ _ _ _ _ r h => by simp [timer_minrun.j0] at h, fun _ _ _ _ _ _ r h => by simp [timer_minrun.j1] at h⟩
 | k + 1 => by
  obtain ⟨ih0, ih1⟩ := timer_minrun.mono_l k
  refine ⟨?_, ?_⟩
  ·
   intro y0 y1 y2 y3 y4
   unfold timer_minrun.j0
   repeat' first
   | (with_reducible exact ih0 _ _ _ _ _)
   | (with_reducible exact ih1 _ _ _ _ _ _)
   | (with_reducible exact LeO.refl _)
   | (with_reducible exact LeO.none _)
   | (with_reducible refine LeO.ite ?_ ?_)
   | (with_reducible refine LeO.bind ?_ (fun _ => ?_))
   | exact ih0 _ _ _ _ _
   | exact ih1 _ _ _ _ _ _
   | exact LeO.none _
   | refine LeO.ite ?_ ?_
   | refine LeO.bind ?_ (fun _ => ?_)
  ·
   intro y0 y1 y2 y3 y4 y5
   unfold timer_minrun.j1
   repeat' first
   | (with_reducible exact ih0 _ _ _ _ _)
   | (with_reducible exact ih1 _ _ _ _ _ _)
   | (with_reducible exact LeO.refl _)
   | (with_reducible exact LeO.none _)
   | (with_reducible refine LeO.ite ?_ ?_)
   | (with_reducible refine LeO.bind ?_ (fun _ => ?_))
   | exact ih0 _ _ _ _ _
   | exact ih1 _ _ _ _ _ _
   | exact LeO.none _
   | refine LeO.ite ?_ ?_
   | refine LeO.bind ?_ (fun _ => ?_)
theorem timer_minrun.mono : ∀ a0 a1 a2 a3 k, LeO (timer_minrun.f k a0 a1 a2 a3) (timer_minrun.f (k + 1) a0 a1 a2 a3) := by
 intro a0 a1 a2 a3 k
 obtain ⟨ih0, ih1⟩ := timer_minrun.mono_l k
 unfold timer_minrun.f
 repeat' first
   | (with_reducible exact ih0 _ _ _ _ _)
   | (with_reducible exact ih1 _ _ _ _ _ _)
   | (with_reducible exact LeO.refl _)
   | (with_reducible exact LeO.none _)
   | (with_reducible refine LeO.ite ?_ ?_)
   | (with_reducible refine LeO.bind ?_ (fun _ => ?_))
   | exact ih0 _ _ _ _ _
   | exact ih1 _ _ _ _ _ _
   | exact LeO.none _
   | refine LeO.ite ?_ ?_
   | refine LeO.bind ?_ (fun _ => ?_)
set_option maxHeartbeats 8000000 in
set_option maxRecDepth 100000 in
theorem timer_minrun.calls (k : Nat) (A0 : Option Addr) (c0 : Nat) (l0 : List Int) (P1_ : Nat → Prop) (u9000_ : Value) (l1 : List Int) (a2 : Bool) (a3 : Int) (r1 : Bool) (r2 : List Int) (w0 w : World) (hB : Below w0.heap.size w0 w) (hr0 : ∀ W_, Kept w W_ (fun k_ => P1_ k_) → Kd.C (Kd.int .i64) W_ A0 l0.length l0) (hc0 : l0.length ≤ c0) (ho1 : Kd.R (Kd.int .i64) 2 w w0.heap.size P1_ u9000_ l1) (h : timer_minrun.f k l0 l1 a2 a3 = some (r1, r2)) :
  Calls Tryd.prog 24 #[.slice A0 l0.length c0, u9000_, .bool a2, .int .i64 a3] w fun e w' => e = .returned (.bool r1) ∧ Kd.R (Kd.int .i64) 2 w' w0.heap.size (fun k_ => (P1_ k_ ∨ w.heap.size ≤ k_)) u9000_ r2 ∧ Below w0.heap.size w0 w' ∧ Kept w w' (fun k_ => P1_ k_) := by
 have HR0 := Aside0.mk hr0
 have HC0 := Aside0.mk hc0
 clear hr0 hc0
 have HO1 := Aside0.mk (show Kd.R (Kd.int .i64) 2 w w0.heap.size (fun k_ => (P1_ k_ ∨ w.heap.size ≤ k_)) u9000_ l1 from Kd.R_mono ho1 (fun k_ hk => (.inl hk)))
 have HK := Aside0.mk (Kept.refl w (fun k_ => P1_ k_))
 have HW0 := Aside0.mk hB.size
 have HB := Aside0.mk hB
 clear hB
 have H : (if 0 < (l1.length : Int) then ((timer_least.f l0 (rd l1 0)).bind fun t205 => (if 1 < (l1.length : Int) then (if (rd l1 1) = 0 then (timer_minrun.j0 k l0 l1 a2 (wrap64 ((wrap64 ((rd l1 1) - 1)) + a3)) false) else (timer_minrun.j0 k l0 l1 a2 (wrap64 ((wrap64 ((rd l1 1) - 1)) + a3)) (decide ((wrap64 ((wrap64 ((rd l1 1) - 1)) + a3)) < t205)))) else (none))) else (none)) = some (r1, r2) := h
 clear h
 by_cases c5 : 0 < (l1.length : Int)
 ·
  rw [if_pos c5] at H
  have c5b0 : decide (0 < (l1.length : Int)) = true := decide_eq_true c5
  have c5b1 : decide (0 < l1.length) = true := decide_eq_true (by omega)
  clear c5
  replace H := Option.bind_eq_some_iff.mp H
  obtain ⟨t205, A60, H⟩ := H
  (try dsimp only at H)
  have A6 := Aside0.mk A60
  clear A60
  by_cases c7 : 1 < (l1.length : Int)
  rotate_left
  ·
   rw [if_neg c7] at H
   exact absurd H (by simp)
  rw [if_pos c7] at H
  have c7b0 : decide (1 < (l1.length : Int)) = true := decide_eq_true c7
  have c7b1 : decide (1 < l1.length) = true := decide_eq_true (by omega)
  clear c7
  have HC8 := Aside0.mk H
  clear H
  obtain ⟨Ao9, co9, eo9⟩ := Kd.R_slice HO1.out
  subst eo9
  have p204 : 0 ≤ (0 : Int) := (by omega)
  have q204 : 0 < (l1.length : Int) := ode
  obtain ⟨ad204, e204, hx204_0⟩ := Kd.at_int (Kd.R_reads' HO1.out).2.2 0 p204 q204
  cases e204
  have qi204 : (0 < l1.length) = True := eq_true (by omega)
  (try rw [t0] at hx204_0)
  (try rw [Addr.add_zero'] at hx204_0)
  replace p204 := eq_true p204
  replace q204 := eq_true q204
  go_enter Tryd.func24, Tryd.ntmps24
  go_upto_region 3 with (first | (go_at_call 34; (with_reducible refine (timer_least.calls _ _ l0 (rd l1 0) t205 _ ?side1 ?side2 A6.out).mono ?_); (case side1 => exact Kd.C_kept_now HR0.out kk); (case side2 => exact HC0.out); rintro e w' ⟨rfl, ⟨nd, rfl⟩⟩; (try first | exact ⟨rfl, _, World.drewN_drewN _ _ _⟩ | exact ⟨rfl, _, Eq.trans (World.drewN_drewN _ _ _) (congrArg (World.drewN _) (Nat.add_assoc _ _ _))⟩); have p206 : 0 ≤ (1 : Int) := (by omega); have q206 : 1 < (l1.length : Int) := ode; obtain ⟨ad206, e206, hx206_0⟩ := Kd.at_int (Kd.R_reads' HO1.out).2.2 1 p206 q206; obtain rfl : ad204 = ad206 := (by injection e206); (try simp only [show (1 : Int).toNat = 1 from rfl, Nat.reduceMul, Nat.reduceEqDiff, Go.Addr.add, ↓reduceIte] at hx206_0); have qi206 : (1 < l1.length) = True := eq_true (by omega); (try rw [t1] at hx206_0); replace p206 := eq_true p206; replace q206 := eq_true q206))
  (try simp only [ap, sa, sb, sc])
  go_cut [11] (fun v11 wc => ∃ (kq : Nat) (x11_7 : Bool), v11 = .bool x11_7 ∧ Aside0 (timer_minrun.j0 kq l0 l1 a2 (wrap64 ((wrap64 ((rd l1 1) - 1)) + a3)) x11_7 = some (r1, r2)) ∧ Aside0 (kq ≤ k) ∧ Aside0 (Kd.R (Kd.int .i64) 2 wc w0.heap.size (fun k_ => (P1_ k_ ∨ w.heap.size ≤ k_)) (.slice (some ad204) l1.length co9) l1) ∧ Aside0 (Kept w wc (fun k_ => P1_ k_)) ∧ Aside0 (Below w0.heap.size w0 wc))
  case first =>
   have H := HC8.out
   clear HC8
   by_cases c10 : (rd l1 1) = 0
   rotate_left
   ·
    rw [if_neg c10] at H
    have c10b0 : ((rd l1 1) == 0) = false := beq_eq_false_iff_ne.mpr c10
    have c10b1 : ((rd l1 1) != 0) = true := bne_iff_ne.mpr c10
    (first | rw [c10b0] | (simp only [i64_w, i32_w]; rw [c10b0]) | skip)
    have H' := Aside0.mk H
    clear H
    have p207 : 0 ≤ (1 : Int) := (by omega)
    have q207 : 1 < (l1.length : Int) := ode
    obtain ⟨ad207, e207, hx207_0⟩ := Kd.at_int (Kd.R_reads' HO1.out).2.2 1 p207 q207
    obtain rfl : ad204 = ad207 := (by injection e207)
    (try simp only [show (1 : Int).toNat = 1 from rfl, Nat.reduceMul, Nat.reduceEqDiff, Go.Addr.add, ↓reduceIte] at hx207_0)
    have qi207 : (1 < l1.length) = True := eq_true (by omega)
    (try rw [t1] at hx207_0)
    replace p207 := eq_true p207
    replace q207 := eq_true q207
    go_wp2
    repeat (go_quiet (fail); try go_wp2)
    go_meet
    case rel => exact ⟨_, (decide ((wrap64 ((wrap64 ((rd l1 1) - 1)) + a3)) < t205)), (by first | rfl | (simp; done) | (simp [*]; done)), H', ⟨by first | omega | exact Nat.le_refl _⟩, ⟨rr HO1.out⟩, ⟨kk⟩, ⟨bl⟩⟩
   rw [if_pos c10] at H
   have c10b0 : ((rd l1 1) == 0) = true := beq_iff_eq.mpr c10
   have c10b1 : ((rd l1 1) != 0) = false := bne_eq_false_iff_eq.mpr c10
   clear c10
   (first | rw [c10b0] | (simp only [i64_w, i32_w]; rw [c10b0]) | skip)
   have H' := Aside0.mk H
   clear H
   have p207 : 0 ≤ (1 : Int) := (by omega)
   have q207 : 1 < (l1.length : Int) := ode
   obtain ⟨ad207, e207, hx207_0⟩ := Kd.at_int (Kd.R_reads' HO1.out).2.2 1 p207 q207
   obtain rfl : ad204 = ad207 := (by injection e207)
   (try simp only [show (1 : Int).toNat = 1 from rfl, Nat.reduceMul, Nat.reduceEqDiff, Go.Addr.add, ↓reduceIte] at hx207_0)
   have qi207 : (1 < l1.length) = True := eq_true (by omega)
   (try rw [t1] at hx207_0)
   replace p207 := eq_true p207
   replace q207 := eq_true q207
   go_wp2
   repeat (go_quiet (fail); try go_wp2)
   go_meet
   case rel => exact ⟨_, (false), (by first | rfl | (simp; done) | (simp [*]; done)), H', ⟨by first | omega | exact Nat.le_refl _⟩, ⟨rr HO1.out⟩, ⟨kk⟩, ⟨bl⟩⟩
  clear HC8
  try clear c1
  try clear c2
  try clear p2
  try clear q2
  try clear hx2
  try clear qi2
  try clear c5
  try clear c5b0
  try clear c5b1
  try clear p6
  try clear c7
  try clear c7b0
  try clear c7b1
  try clear c10
  try clear c10b0
  try clear c10b1
  try clear hx204_0
  try clear hx206_0
  try clear hx207_0
  try clear p204
  try clear p206
  try clear p207
  try clear q204
  try clear q206
  try clear q207
  obtain ⟨kq, x11_7, rfl, HA, HJ7, HO_1, HK, HB⟩ := hcut
  cases kq with
  | zero => exact absurd HA.out (by simp [timer_minrun.j0])
  | succ kj7 =>
   have H := HA.out
   clear HA
   simp only [timer_minrun.j0] at H
   have HC11 := Aside0.mk H
   clear H
   go_upto_region 4 with (fail)
   repeat (go_quiet (fail); go_upto_region 4 with (fail))
   go_cut [40] (fun v40 wc => ∃ (kq : Nat) (x40_10 : Bool), v40 = .bool x40_10 ∧ Aside0 (timer_minrun.j1 kq l0 l1 a2 (wrap64 ((wrap64 ((rd l1 1) - 1)) + a3)) x11_7 x40_10 = some (r1, r2)) ∧ Aside0 (kq ≤ kj7) ∧ Aside0 (Kd.R (Kd.int .i64) 2 wc w0.heap.size (fun k_ => (P1_ k_ ∨ w.heap.size ≤ k_)) (.slice (some ad204) l1.length co9) l1) ∧ Aside0 (Kept w wc (fun k_ => P1_ k_)) ∧ Aside0 (Below w0.heap.size w0 wc))
   case first =>
    have H := HC11.out
    clear HC11
    replace H := Option.bind_eq_some_iff.mp H
    obtain ⟨t208, A120, H⟩ := H
    (try dsimp only at H)
    have A12 := Aside0.mk A120
    clear A120
    by_cases c13 : 0 < (l1.length : Int)
    rotate_left
    ·
     rw [if_neg c13] at H
     exact absurd H (by simp)
    rw [if_pos c13] at H
    have c13b0 : decide (0 < (l1.length : Int)) = true := decide_eq_true c13
    have c13b1 : decide (0 < l1.length) = true := decide_eq_true (by omega)
    clear c13
    (first | rw [c13b0] | (simp only [i64_w, i32_w]; rw [c13b0]) | skip)
    by_cases c14 : t208 = (rd l1 0)
    rotate_left
    ·
     rw [if_neg c14] at H
     have c14b0 : (t208 == (rd l1 0)) = false := beq_eq_false_iff_ne.mpr c14
     have c14b1 : (t208 != (rd l1 0)) = true := bne_iff_ne.mpr c14
     have H' := Aside0.mk H
     clear H
     go_wp2_with (first | (go_at_call 23; (with_reducible refine (timer_bit.calls a2 t208 _ A12.out).mono ?_); rintro e w' ⟨rfl, ⟨nd, rfl⟩⟩; (try first | exact ⟨rfl, _, World.drewN_drewN _ _ _⟩ | exact ⟨rfl, _, Eq.trans (World.drewN_drewN _ _ _) (congrArg (World.drewN _) (Nat.add_assoc _ _ _))⟩); have p209 : 0 ≤ (0 : Int) := (by omega); have q209 : 0 < (l1.length : Int) := ode; obtain ⟨ad209, e209, hx209_0⟩ := Kd.at_int (Kd.R_reads' HO_1.out).2.2 0 p209 q209; obtain rfl : ad204 = ad209 := (by injection e209); have qi209 : (0 < l1.length) = True := eq_true (by omega); (try rw [t0] at hx209_0); (try rw [Addr.add_zero'] at hx209_0); replace p209 := eq_true p209; replace q209 := eq_true q209) | (go_quiet (first | (go_at_call 23; (with_reducible refine (timer_bit.calls a2 t208 _ A12.out).mono ?_); rintro e w' ⟨rfl, ⟨nd, rfl⟩⟩; (try first | exact ⟨rfl, _, World.drewN_drewN _ _ _⟩ | exact ⟨rfl, _, Eq.trans (World.drewN_drewN _ _ _) (congrArg (World.drewN _) (Nat.add_assoc _ _ _))⟩); have p209 : 0 ≤ (0 : Int) := (by omega); have q209 : 0 < (l1.length : Int) := ode; obtain ⟨ad209, e209, hx209_0⟩ := Kd.at_int (Kd.R_reads' HO_1.out).2.2 0 p209 q209; obtain rfl : ad204 = ad209 := (by injection e209); have qi209 : (0 < l1.length) = True := eq_true (by omega); (try rw [t0] at hx209_0); (try rw [Addr.add_zero'] at hx209_0); replace p209 := eq_true p209; replace q209 := eq_true q209))))
     go_meet
     case rel => exact ⟨_, (x11_7), (by first | rfl | (simp; done) | (simp [*]; done)), H', ⟨by have := HJ7.out; first | omega | exact Nat.le_refl _⟩, ⟨rr HO_1.out⟩, ⟨kk⟩, ⟨bl⟩⟩
    rw [if_pos c14] at H
    have c14b0 : (t208 == (rd l1 0)) = true := beq_iff_eq.mpr c14
    have c14b1 : (t208 != (rd l1 0)) = false := bne_eq_false_iff_eq.mpr c14
    clear c14
    have H' := Aside0.mk H
    clear H
    go_wp2_with (first | (go_at_call 23; (with_reducible refine (timer_bit.calls a2 t208 _ A12.out).mono ?_); rintro e w' ⟨rfl, ⟨nd, rfl⟩⟩; (try first | exact ⟨rfl, _, World.drewN_drewN _ _ _⟩ | exact ⟨rfl, _, Eq.trans (World.drewN_drewN _ _ _) (congrArg (World.drewN _) (Nat.add_assoc _ _ _))⟩); have p209 : 0 ≤ (0 : Int) := (by omega); have q209 : 0 < (l1.length : Int) := ode; obtain ⟨ad209, e209, hx209_0⟩ := Kd.at_int (Kd.R_reads' HO_1.out).2.2 0 p209 q209; obtain rfl : ad204 = ad209 := (by injection e209); have qi209 : (0 < l1.length) = True := eq_true (by omega); (try rw [t0] at hx209_0); (try rw [Addr.add_zero'] at hx209_0); replace p209 := eq_true p209; replace q209 := eq_true q209) | (go_quiet (first | (go_at_call 23; (with_reducible refine (timer_bit.calls a2 t208 _ A12.out).mono ?_); rintro e w' ⟨rfl, ⟨nd, rfl⟩⟩; (try first | exact ⟨rfl, _, World.drewN_drewN _ _ _⟩ | exact ⟨rfl, _, Eq.trans (World.drewN_drewN _ _ _) (congrArg (World.drewN _) (Nat.add_assoc _ _ _))⟩); have p209 : 0 ≤ (0 : Int) := (by omega); have q209 : 0 < (l1.length : Int) := ode; obtain ⟨ad209, e209, hx209_0⟩ := Kd.at_int (Kd.R_reads' HO_1.out).2.2 0 p209 q209; obtain rfl : ad204 = ad209 := (by injection e209); have qi209 : (0 < l1.length) = True := eq_true (by omega); (try rw [t0] at hx209_0); (try rw [Addr.add_zero'] at hx209_0); replace p209 := eq_true p209; replace q209 := eq_true q209))))
    go_meet
    case rel => exact ⟨_, (true), (by first | rfl | (simp; done) | (simp [*]; done)), H', ⟨by have := HJ7.out; first | omega | exact Nat.le_refl _⟩, ⟨rr HO_1.out⟩, ⟨kk⟩, ⟨bl⟩⟩
   clear HC11
   try clear c1
   try clear c2
   try clear p2
   try clear q2
   try clear hx2
   try clear qi2
   try clear c5
   try clear c5b0
   try clear c5b1
   try clear p6
   try clear c7
   try clear c7b0
   try clear c7b1
   try clear c10
   try clear c10b0
   try clear c10b1
   try clear c13
   try clear c13b0
   try clear c13b1
   try clear c14
   try clear c14b0
   try clear c14b1
   try clear hx204_0
   try clear hx206_0
   try clear hx207_0
   try clear hx209_0
   try clear p2
   try clear p204
   try clear p206
   try clear p207
   try clear p209
   try clear p6
   try clear q2
   try clear q204
   try clear q206
   try clear q207
   try clear q209
   obtain ⟨kq, x40_10, rfl, HA, HJ10, HO_1, HK, HB⟩ := hcut
   cases kq with
   | zero => exact absurd HA.out (by simp [timer_minrun.j1])
   | succ kj10 =>
    have H := HA.out
    clear HA
    simp only [timer_minrun.j1] at H
    by_cases c15 : x40_10 = true
    rotate_left
    ·
     replace c15 := Bool.eq_false_iff.mpr c15
     subst c15
     rw [if_neg (show ¬ (false = true) by decide)] at H
     replace H := Option.bind_eq_some_iff.mp H
     obtain ⟨t214, A270, H⟩ := H
     (try dsimp only at H)
     have A27 := Aside0.mk A270
     clear A270
     by_cases c28 : 0 < (l1.length : Int)
     rotate_left
     ·
      rw [if_neg c28] at H
      exact absurd H (by simp)
     rw [if_pos c28] at H
     have c28b0 : decide (0 < (l1.length : Int)) = true := decide_eq_true c28
     have c28b1 : decide (0 < l1.length) = true := decide_eq_true (by omega)
     clear c28
     obtain ⟨y215, hy215⟩ : ∃ y_ : List Int, y_ = (l1.set (0 : Int).toNat t214) := ⟨_, rfl⟩
     replace H : ((timer_least.f l0 (rd y215 0)).bind fun t217 => ((timer_bit.f (t217 != 0)).bind fun t218 => (if 1 < (l1.length : Int) then (some (a2, (y215.set (1 : Int).toNat t218))) else (none)))) = some (r1, r2) := by first | (rw [hy215]; with_reducible exact H) | (have H2_ := (Option.bind_some _ _).symm.trans H; rw [hy215]; with_reducible exact H2_) | (have H2_ := (Option.bind_some _ _).symm.trans H; with_reducible exact H2_) | with_reducible exact H | (rw [hy215]; exact H) | exact H
     have Ny215 := Aside0.mk hy215
     clear hy215
     replace H := Option.bind_eq_some_iff.mp H
     obtain ⟨t217, A300, H⟩ := H
     (try dsimp only at H)
     have A30 := Aside0.mk A300
     clear A300
     replace H := Option.bind_eq_some_iff.mp H
     obtain ⟨t218, A310, H⟩ := H
     (try dsimp only at H)
     have A31 := Aside0.mk A310
     clear A310
     by_cases c32 : 1 < (l1.length : Int)
     rotate_left
     ·
      rw [if_neg c32] at H
      exact absurd H (by simp)
     rw [if_pos c32] at H
     have c32b0 : decide (1 < (l1.length : Int)) = true := decide_eq_true c32
     have c32b1 : decide (1 < l1.length) = true := decide_eq_true (by omega)
     clear c32
     obtain ⟨y219, hy219⟩ : ∃ y_ : List Int, y_ = (y215.set (1 : Int).toNat t218) := ⟨_, rfl⟩
     replace H : (some (a2, y219)) = some (r1, r2) := by first | (rw [hy219]; with_reducible exact H) | (have H2_ := (Option.bind_some _ _).symm.trans H; rw [hy219]; with_reducible exact H2_) | (have H2_ := (Option.bind_some _ _).symm.trans H; with_reducible exact H2_) | with_reducible exact H | (rw [hy219]; exact H) | exact H
     have Ny219 := Aside0.mk hy219
     clear hy219
     simp only [Option.some.injEq, Prod.mk.injEq] at H
     obtain ⟨rfl, rfl⟩ := H
     go_wp2_with (first | (go_at_call 23; (with_reducible refine (timer_bit.calls a2 t214 _ A27.out).mono ?_); rintro e w' ⟨rfl, ⟨nd, rfl⟩⟩; (try first | exact ⟨rfl, _, World.drewN_drewN _ _ _⟩ | exact ⟨rfl, _, Eq.trans (World.drewN_drewN _ _ _) (congrArg (World.drewN _) (Nat.add_assoc _ _ _))⟩); have p29 : 0 ≤ (0 : Int) := (by omega); have q29 : (0 : Int) < ((l1.length : Int) : Int) := ode; have qi29 : (0 < l1.length) = True := eq_true (by omega); obtain ⟨go29, co29, eo29, gb29, gl29, cl29, HG29⟩ := Kd.R_form HO_1.out (by omega); (first | cases eo29 | (injection eo29 with ea_ en_ ec_; (first | subst ea_ | (injection ea_ with ea_; subst ea_)); subst ec_; clear en_)); have GB29 := Aside0.mk gb29; have GG29 := Aside0.mk HG29; clear gb29 gl29 HG29; have HMgo29 := Aside0.mk (show (P1_ go29 ∨ w.heap.size ≤ go29) from (HO_1.out.1 _ rfl)); obtain ⟨hx29_0, hf29_0⟩ := Kd.R_celln 0 HO_1.out (0 : Int) p29 q29; (try rw [t0] at hx29_0); (try simp only [Nat.reduceMul, Nat.zero_mul, Nat.zero_add, Nat.reduceAdd] at hx29_0); (try rw [t0] at hf29_0); (try simp only [Nat.reduceMul, Nat.zero_mul, Nat.zero_add, Nat.reduceAdd] at hf29_0); replace p29 := eq_true p29; replace q29 := eq_true q29; obtain ⟨hy34_, hz34_⟩ := Kd.R_celln 0 HO_1.out (0 : Int) (by omega) (ode); (try simp only [Int.reduceToNat, Int.toNat_zero, Int.toNat_ofNat, Nat.reduceMul, Nat.zero_mul, Nat.zero_add] at hy34_ hz34_); (try rw [t0] at hy34_); (try rw [t0] at hz34_); have HP34 := Kd.R_putg HO_1.out (0 : Int) t214) | ((with_reducible refine gate_store (t := 2) (p := 55) rfl ?_); (try (rw [drewN_self wc]; generalize hq_ : World.drewN wc _ = wc; have n0_ := Aside0.mk (Kd.R_at hq_ HO_1.out); have n1_ := Aside0.mk (kept_at hq_ HK.out); have n2_ := Aside0.mk (below_at hq_ HB.out); clear hq_ HO_1 HK HB; have HO_1 := n0_; have HK := n1_; have HB := n2_; clear n0_ n1_ n2_; (try (obtain ⟨hy34_, hz34_⟩ := Kd.R_celln 0 HO_1.out (0 : Int) (by omega) (ode))); (try (try simp only [Int.reduceToNat, Int.toNat_zero, Int.toNat_ofNat, Nat.reduceMul, Nat.zero_mul, Nat.zero_add] at hy34_ hz34_)); (try (try rw [t0] at hy34_)); (try (try rw [t0] at hz34_)); (try (have HP34 := Kd.R_putg HO_1.out (0 : Int) t214)))); refine store_event (t := 2) (p := 55) (v := ?vo_w35) (w1 := (wc.setCell ⟨go29, (0 : Int).toNat, none⟩ (.int .i64 t214))) ?hg ?ho ?hn ?hr ?_; (case ho => rfl); (case hg => rfl); (case hn => rfl); (case hr => first | (go_simp; done) | (go_simp; rfl)); intro w35 hw; have hg : wc.grownBy w35 (some go29) := (by rw [hw]; exact HP34.2); have hp_ : Kd.R (Kd.int .i64) 2 w35 w0.heap.size (fun k_ => (P1_ k_ ∨ w.heap.size ≤ k_)) (.slice (some ⟨go29, 0, none⟩) l1.length co9) y215 := (by rw [hw, Ny215.out]; exact HP34.1); clear HP34; have n0_ := Aside0.mk (hp_); have n1_ := Aside0.mk ((by rw [hw]; exact below_set (HB.out) GB29.out : Below w0.heap.size w0 w35)); have n2_ := Aside0.mk (Kept.of_grown (S := (fun k_ => P1_ k_)) hg kk (fun k_ e_ => (HO_1.out.1 k_ e_))); revert n0_ n1_ n2_; clear HO_1 HB HK; intro HO_1 HB HK; clear hg hw hp_; have p216 : 0 ≤ (0 : Int) := (by omega); have q216 : 0 < (y215.length : Int) := (by have h_ : (0 : Int) < ((l1.length : Int) : Int) := ode; first | (have e_ := (Kd.R_reads' HO_1.out).1; omega) | simpa only [Ny215.out, List.length_set] using h_); have ql216 : ((0 : Int) < ((l1.length : Int) : Int)) = True := eq_true (ode); (try have qn216 : (0 < l1.length) = True := eq_true (by have h_ : (0 : Int) < ((l1.length : Int) : Int) := ode; omega)); obtain ⟨ad216, e216, hx216_0⟩ := Kd.at_int (Kd.R_reads' HO_1.out).2.2 0 p216 q216; obtain rfl : (⟨go29, 0, none⟩ : Addr) = ad216 := (by injection e216); (first | simp only [add_plain] at hx216_0 | simp only [add_at] at hx216_0 | simp only [Addr.add, Nat.zero_add] at hx216_0 | skip); have qi216 : (0 < y215.length) = True := eq_true (by omega); (try rw [t0] at hx216_0); (try rw [Addr.add_zero'] at hx216_0); replace p216 := eq_true p216; replace q216 := eq_true q216) | (go_at_call 34; (with_reducible refine (timer_least.calls _ _ l0 (rd y215 0) t217 _ ?side1 ?side2 A30.out).mono ?_); (case side1 => exact Kd.C_kept_now HR0.out kk); (case side2 => exact HC0.out); rintro e w' ⟨rfl, ⟨nd, rfl⟩⟩; (try first | exact ⟨rfl, _, World.drewN_drewN _ _ _⟩ | exact ⟨rfl, _, Eq.trans (World.drewN_drewN _ _ _) (congrArg (World.drewN _) (Nat.add_assoc _ _ _))⟩)) | (go_at_call 23; (with_reducible refine (timer_bit.calls (t217 != 0) t218 _ A31.out).mono ?_); rintro e w' ⟨rfl, ⟨nd, rfl⟩⟩; (try first | exact ⟨rfl, _, World.drewN_drewN _ _ _⟩ | exact ⟨rfl, _, Eq.trans (World.drewN_drewN _ _ _) (congrArg (World.drewN _) (Nat.add_assoc _ _ _))⟩); have p33 : 0 ≤ (1 : Int) := (by omega); have q33 : (1 : Int) < ((l1.length : Int) : Int) := ode; have qi33 : (1 < l1.length) = True := eq_true (by omega); obtain ⟨hx33_0, hf33_0⟩ := Kd.R_celln 0 HO_1.out (1 : Int) p33 q33; (try rw [t1] at hx33_0); (try simp only [Nat.reduceMul, Nat.zero_mul, Nat.zero_add, Nat.reduceAdd] at hx33_0); (try rw [t1] at hf33_0); (try simp only [Nat.reduceMul, Nat.zero_mul, Nat.zero_add, Nat.reduceAdd] at hf33_0); replace p33 := eq_true p33; replace q33 := eq_true q33; obtain ⟨hy36_, hz36_⟩ := Kd.R_celln 0 HO_1.out (1 : Int) (by omega) (ode); (try simp only [Int.reduceToNat, Int.toNat_zero, Int.toNat_ofNat, Nat.reduceMul, Nat.zero_mul, Nat.zero_add] at hy36_ hz36_); (try rw [t1] at hy36_); (try rw [t1] at hz36_); have HP36 := Kd.R_putg HO_1.out (1 : Int) t218) | ((with_reducible refine gate_store (t := 2) (p := 64) rfl ?_); (try (rw [drewN_self w35]; generalize hq_ : World.drewN w35 _ = w35; have n0_ := Aside0.mk (Kd.R_at hq_ HO_1.out); have n1_ := Aside0.mk (kept_at hq_ HK.out); have n2_ := Aside0.mk (below_at hq_ HB.out); clear hq_ HO_1 HK HB; have HO_1 := n0_; have HK := n1_; have HB := n2_; clear n0_ n1_ n2_; (try (obtain ⟨hy36_, hz36_⟩ := Kd.R_celln 0 HO_1.out (1 : Int) (by omega) (ode))); (try (try simp only [Int.reduceToNat, Int.toNat_zero, Int.toNat_ofNat, Nat.reduceMul, Nat.zero_mul, Nat.zero_add] at hy36_ hz36_)); (try (try rw [t1] at hy36_)); (try (try rw [t1] at hz36_)); (try (have HP36 := Kd.R_putg HO_1.out (1 : Int) t218)))); refine store_event (t := 2) (p := 64) (v := ?vo_w37) (w1 := (w35.setCell ⟨go29, (1 : Int).toNat, none⟩ (.int .i64 t218))) ?hg ?ho ?hn ?hr ?_; (case ho => rfl); (case hg => rfl); (case hn => rfl); (case hr => first | (go_simp; done) | (go_simp; rfl)); intro w37 hw; have hg : w35.grownBy w37 (some go29) := (by rw [hw]; exact HP36.2); have hp_ : Kd.R (Kd.int .i64) 2 w37 w0.heap.size (fun k_ => (P1_ k_ ∨ w.heap.size ≤ k_)) (.slice (some ⟨go29, 0, none⟩) l1.length co9) y219 := (by rw [hw, Ny219.out]; exact HP36.1); clear HP36; have n0_ := Aside0.mk (hp_); have n1_ := Aside0.mk ((by rw [hw]; exact below_set (HB.out) GB29.out : Below w0.heap.size w0 w37)); have n2_ := Aside0.mk (Kept.of_grown (S := (fun k_ => P1_ k_)) hg kk (fun k_ e_ => (HO_1.out.1 k_ e_))); revert n0_ n1_ n2_; clear HO_1 HB HK; intro HO_1 HB HK; clear hg hw hp_))
     go_ret
     exact ⟨by first | rfl | (simp [errW_none, errW_some] <;> rfl) | (simp [*, errW_none, errW_some] <;> rfl), rr HO_1.out, bl, kk⟩
    subst c15
    rw [if_pos rfl] at H
    by_cases c16 : x11_7 = true
    rotate_left
    ·
     replace c16 := Bool.eq_false_iff.mpr c16
     subst c16
     rw [if_neg (show ¬ (false = true) by decide)] at H
     by_cases c22 : 1 < (l1.length : Int)
     rotate_left
     ·
      rw [if_neg c22] at H
      exact absurd H (by simp)
     rw [if_pos c22] at H
     have c22b0 : decide (1 < (l1.length : Int)) = true := decide_eq_true c22
     have c22b1 : decide (1 < l1.length) = true := decide_eq_true (by omega)
     clear c22
     obtain ⟨y212, hy212⟩ : ∃ y_ : List Int, y_ = (l1.set (1 : Int).toNat 0) := ⟨_, rfl⟩
     replace H : (if 0 < (l1.length : Int) then (some (((rd y212 0) == 1), y212)) else (none)) = some (r1, r2) := by first | (rw [hy212]; with_reducible exact H) | (have H2_ := (Option.bind_some _ _).symm.trans H; rw [hy212]; with_reducible exact H2_) | (have H2_ := (Option.bind_some _ _).symm.trans H; with_reducible exact H2_) | with_reducible exact H | (rw [hy212]; exact H) | exact H
     have Ny212 := Aside0.mk hy212
     clear hy212
     by_cases c24 : 0 < (l1.length : Int)
     rotate_left
     ·
      rw [if_neg c24] at H
      exact absurd H (by simp)
     rw [if_pos c24] at H
     have c24b0 : decide (0 < (l1.length : Int)) = true := decide_eq_true c24
     have c24b1 : decide (0 < l1.length) = true := decide_eq_true (by omega)
     clear c24
     simp only [Option.some.injEq, Prod.mk.injEq] at H
     obtain ⟨rfl, rfl⟩ := H
     have p23 : 0 ≤ (1 : Int) := (by omega)
     have q23 : (1 : Int) < ((l1.length : Int) : Int) := ode
     have qi23 : (1 < l1.length) = True := eq_true (by omega)
     obtain ⟨go23, co23, eo23, gb23, gl23, cl23, HG23⟩ := Kd.R_form HO_1.out (by omega)
     (first | cases eo23 | (injection eo23 with ea_ en_ ec_; (first | subst ea_ | (injection ea_ with ea_; subst ea_)); subst ec_; clear en_))
     have GB23 := Aside0.mk gb23
     have GG23 := Aside0.mk HG23
     clear gb23 gl23 HG23
     have HMgo23 := Aside0.mk (show (P1_ go23 ∨ w.heap.size ≤ go23) from (HO_1.out.1 _ rfl))
     obtain ⟨hx23_0, hf23_0⟩ := Kd.R_celln 0 HO_1.out (1 : Int) p23 q23
     (try rw [t1] at hx23_0)
     (try simp only [Nat.reduceMul, Nat.zero_mul, Nat.zero_add, Nat.reduceAdd] at hx23_0)
     (try rw [t1] at hf23_0)
     (try simp only [Nat.reduceMul, Nat.zero_mul, Nat.zero_add, Nat.reduceAdd] at hf23_0)
     replace p23 := eq_true p23
     replace q23 := eq_true q23
     have HP25 := Kd.R_putg HO_1.out (1 : Int) 0
     go_wp2_with (first | ((with_reducible refine gate_store (t := 2) (p := 47) rfl ?_); (try (rw [drewN_self wc]; generalize hq_ : World.drewN wc _ = wc; have n0_ := Aside0.mk (Kd.R_at hq_ HO_1.out); have n1_ := Aside0.mk (kept_at hq_ HK.out); have n2_ := Aside0.mk (below_at hq_ HB.out); clear hq_ HO_1 HK HB; have HO_1 := n0_; have HK := n1_; have HB := n2_; clear n0_ n1_ n2_; (try (have HP25 := Kd.R_putg HO_1.out (1 : Int) 0)))); refine store_event (t := 2) (p := 47) (v := ?vo_w26) (w1 := (wc.setCell ⟨go23, (1 : Int).toNat, none⟩ (.int .i64 0))) ?hg ?ho ?hn ?hr ?_; (case ho => rfl); (case hg => rfl); (case hn => rfl); (case hr => first | (go_simp; done) | (go_simp; rfl)); intro w26 hw; have hg : wc.grownBy w26 (some go23) := (by rw [hw]; exact HP25.2); have hp_ : Kd.R (Kd.int .i64) 2 w26 w0.heap.size (fun k_ => (P1_ k_ ∨ w.heap.size ≤ k_)) (.slice (some ⟨go23, 0, none⟩) l1.length co9) y212 := (by rw [hw, Ny212.out]; exact HP25.1); clear HP25; have n0_ := Aside0.mk (hp_); have n1_ := Aside0.mk ((by rw [hw]; exact below_set (HB.out) GB23.out : Below w0.heap.size w0 w26)); have n2_ := Aside0.mk (Kept.of_grown (S := (fun k_ => P1_ k_)) hg kk (fun k_ e_ => (HO_1.out.1 k_ e_))); revert n0_ n1_ n2_; clear HO_1 HB HK; intro HO_1 HB HK; clear hg hw hp_; have p213 : 0 ≤ (0 : Int) := (by omega); have q213 : 0 < (y212.length : Int) := (by have h_ : (0 : Int) < ((l1.length : Int) : Int) := ode; first | (have e_ := (Kd.R_reads' HO_1.out).1; omega) | simpa only [Ny212.out, List.length_set] using h_); have ql213 : ((0 : Int) < ((l1.length : Int) : Int)) = True := eq_true (ode); (try have qn213 : (0 < l1.length) = True := eq_true (by have h_ : (0 : Int) < ((l1.length : Int) : Int) := ode; omega)); obtain ⟨ad213, e213, hx213_0⟩ := Kd.at_int (Kd.R_reads' HO_1.out).2.2 0 p213 q213; obtain rfl : (⟨go23, 0, none⟩ : Addr) = ad213 := (by injection e213); (first | simp only [add_plain] at hx213_0 | simp only [add_at] at hx213_0 | simp only [Addr.add, Nat.zero_add] at hx213_0 | skip); have qi213 : (0 < y212.length) = True := eq_true (by omega); (try rw [t0] at hx213_0); (try rw [Addr.add_zero'] at hx213_0); replace p213 := eq_true p213; replace q213 := eq_true q213))
     go_ret
     exact ⟨by first | rfl | (simp [errW_none, errW_some] <;> rfl) | (simp [*, errW_none, errW_some] <;> rfl), rr HO_1.out, bl, kk⟩
    subst c16
    rw [if_pos rfl] at H
    by_cases c17 : 1 < (l1.length : Int)
    rotate_left
    ·
     rw [if_neg c17] at H
     exact absurd H (by simp)
    rw [if_pos c17] at H
    have c17b0 : decide (1 < (l1.length : Int)) = true := decide_eq_true c17
    have c17b1 : decide (1 < l1.length) = true := decide_eq_true (by omega)
    clear c17
    obtain ⟨y210, hy210⟩ : ∃ y_ : List Int, y_ = (l1.set (1 : Int).toNat (wrap64 ((wrap64 ((wrap64 ((rd l1 1) - 1)) + a3)) + 1))) := ⟨_, rfl⟩
    replace H : (if 0 < (l1.length : Int) then (some (((rd y210 0) == 1), y210)) else (none)) = some (r1, r2) := by first | (rw [hy210]; with_reducible exact H) | (have H2_ := (Option.bind_some _ _).symm.trans H; rw [hy210]; with_reducible exact H2_) | (have H2_ := (Option.bind_some _ _).symm.trans H; with_reducible exact H2_) | with_reducible exact H | (rw [hy210]; exact H) | exact H
    have Ny210 := Aside0.mk hy210
    clear hy210
    by_cases c19 : 0 < (l1.length : Int)
    rotate_left
    ·
     rw [if_neg c19] at H
     exact absurd H (by simp)
    rw [if_pos c19] at H
    have c19b0 : decide (0 < (l1.length : Int)) = true := decide_eq_true c19
    have c19b1 : decide (0 < l1.length) = true := decide_eq_true (by omega)
    clear c19
    simp only [Option.some.injEq, Prod.mk.injEq] at H
    obtain ⟨rfl, rfl⟩ := H
    have p18 : 0 ≤ (1 : Int) := (by omega)
    have q18 : (1 : Int) < ((l1.length : Int) : Int) := ode
    have qi18 : (1 < l1.length) = True := eq_true (by omega)
    obtain ⟨go18, co18, eo18, gb18, gl18, cl18, HG18⟩ := Kd.R_form HO_1.out (by omega)
    (first | cases eo18 | (injection eo18 with ea_ en_ ec_; (first | subst ea_ | (injection ea_ with ea_; subst ea_)); subst ec_; clear en_))
    have GB18 := Aside0.mk gb18
    have GG18 := Aside0.mk HG18
    clear gb18 gl18 HG18
    have HMgo18 := Aside0.mk (show (P1_ go18 ∨ w.heap.size ≤ go18) from (HO_1.out.1 _ rfl))
    (first | simp only [add_plain] at hx204_0 | skip)
    (first | simp only [add_plain] at hx206_0 | skip)
    (first | simp only [add_plain] at hx207_0 | skip)
    (first | simp only [add_plain] at hx209_0 | skip)
    obtain ⟨hx18_0, hf18_0⟩ := Kd.R_celln 0 HO_1.out (1 : Int) p18 q18
    (try rw [t1] at hx18_0)
    (try simp only [Nat.reduceMul, Nat.zero_mul, Nat.zero_add, Nat.reduceAdd] at hx18_0)
    (try rw [t1] at hf18_0)
    (try simp only [Nat.reduceMul, Nat.zero_mul, Nat.zero_add, Nat.reduceAdd] at hf18_0)
    replace p18 := eq_true p18
    replace q18 := eq_true q18
    have HP20 := Kd.R_putg HO_1.out (1 : Int) (wrap64 ((wrap64 ((wrap64 ((rd l1 1) - 1)) + a3)) + 1))
    go_wp2_with (first | ((with_reducible refine gate_store (t := 2) (p := 45) rfl ?_); (try (rw [drewN_self wc]; generalize hq_ : World.drewN wc _ = wc; have n0_ := Aside0.mk (Kd.R_at hq_ HO_1.out); have n1_ := Aside0.mk (kept_at hq_ HK.out); have n2_ := Aside0.mk (below_at hq_ HB.out); clear hq_ HO_1 HK HB; have HO_1 := n0_; have HK := n1_; have HB := n2_; clear n0_ n1_ n2_; (try (have HP20 := Kd.R_putg HO_1.out (1 : Int) (wrap64 ((wrap64 ((wrap64 ((rd l1 1) - 1)) + a3)) + 1)))))); refine store_event (t := 2) (p := 45) (v := ?vo_w21) (w1 := (wc.setCell ⟨go18, (1 : Int).toNat, none⟩ (.int .i64 (wrap64 ((wrap64 ((wrap64 ((rd l1 1) - 1)) + a3)) + 1))))) ?hg ?ho ?hn ?hr ?_; (case ho => rfl); (case hg => rfl); (case hn => rfl); (case hr => first | (go_simp; done) | (go_simp; rfl)); intro w21 hw; have hg : wc.grownBy w21 (some go18) := (by rw [hw]; exact HP20.2); have hp_ : Kd.R (Kd.int .i64) 2 w21 w0.heap.size (fun k_ => (P1_ k_ ∨ w.heap.size ≤ k_)) (.slice (some ⟨go18, 0, none⟩) l1.length co9) y210 := (by rw [hw, Ny210.out]; exact HP20.1); clear HP20; have n0_ := Aside0.mk (hp_); have n1_ := Aside0.mk ((by rw [hw]; exact below_set (HB.out) GB18.out : Below w0.heap.size w0 w21)); have n2_ := Aside0.mk (Kept.of_grown (S := (fun k_ => P1_ k_)) hg kk (fun k_ e_ => (HO_1.out.1 k_ e_))); revert n0_ n1_ n2_; clear HO_1 HB HK; intro HO_1 HB HK; clear hg hw hp_; have p211 : 0 ≤ (0 : Int) := (by omega); have q211 : 0 < (y210.length : Int) := (by have h_ : (0 : Int) < ((l1.length : Int) : Int) := ode; first | (have e_ := (Kd.R_reads' HO_1.out).1; omega) | simpa only [Ny210.out, List.length_set] using h_); have ql211 : ((0 : Int) < ((l1.length : Int) : Int)) = True := eq_true (ode); (try have qn211 : (0 < l1.length) = True := eq_true (by have h_ : (0 : Int) < ((l1.length : Int) : Int) := ode; omega)); obtain ⟨ad211, e211, hx211_0⟩ := Kd.at_int (Kd.R_reads' HO_1.out).2.2 0 p211 q211; obtain rfl : (⟨go18, 0, none⟩ : Addr) = ad211 := (by injection e211); (first | simp only [add_plain] at hx211_0 | simp only [add_at] at hx211_0 | simp only [Addr.add, Nat.zero_add] at hx211_0 | skip); have qi211 : (0 < y210.length) = True := eq_true (by omega); (try rw [t0] at hx211_0); (try rw [Addr.add_zero'] at hx211_0); replace p211 := eq_true p211; replace q211 := eq_true q211))
    go_ret
    exact ⟨by first | rfl | (simp [errW_none, errW_some] <;> rfl) | (simp [*, errW_none, errW_some] <;> rfl), rr HO_1.out, bl, kk⟩
 ·
  rw [if_neg c5] at H
  exact absurd H (by simp)

end Go.Proofs.YtjjbdgngncgikaaDoor.R
