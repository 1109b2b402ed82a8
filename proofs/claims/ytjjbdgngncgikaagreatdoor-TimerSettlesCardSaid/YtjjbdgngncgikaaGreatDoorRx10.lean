import Derived.Test.YtjjbdgngncgikaaGreatDoorRx0
import Derived.Test.YtjjbdgngncgikaaGreatDoorRx6
import Derived.Test.YtjjbdgngncgikaaGreatDoorRx7
import Derived.Test.YtjjbdgngncgikaaGreatDoorRx9
namespace Go.Proofs.YtjjbdgngncgikaaGreatDoor.R
open Go.RowKit Go.Proofs.YtjjbdgngncgikaaGreatDoorW.PrintWords Go.Proofs.YtjjbdgngncgikaaGreatDoorW.PrintLast Go.Proofs.YtjjbdgngncgikaaGreatDoorW.PrintMore
attribute [local go_sem] max2_int min2_int max_two min_two max_three min_three max_four min_four
set_option linter.unusedVariables false
set_option linter.unusedSimpArgs false

/-- What the function literal of 'possible' tells. -/
def timer_wi (l : List Int) (i lo hi : Int) : Option Bool := if i < (l.length : Int) then some (decide (rd l i ≥ lo) && decide (rd l i ≤ hi)) else none
set_option maxHeartbeats 8000000 in
set_option maxRecDepth 100000 in
theorem timer_within (g : Nat) (A : Option Addr) (c : Nat) (l : List Int) (i lo hi : Int) (b : Bool) (w : World) (hw : timer_wi l i lo hi = some b) (hg : w.cell? ⟨g, 0, none⟩ = some (.slice A l.length c)) (hr : Kd.C (Kd.int .i64) w A l.length l) (h0 : 0 ≤ i) :
    Calls Tryz.prog 28 #[.int .i64 i, .int .i64 lo, .int .i64 hi, .pointer (some ⟨g, 0, none⟩)] w fun e w' => e = .returned (.bool b) ∧ w' = w := by
  unfold timer_wi at hw
  split at hw
  · rename_i h1
    obtain rfl := Option.some.inj hw
    clear hw
    obtain ⟨ad, e, hx⟩ := Kd.at_int hr i h0 h1
    cases e
    have HR := Aside0.mk hr
    clear hr
    replace h0 := eq_true h0
    replace h1 := eq_true h1
    go_enter Tryz.func28, Tryz.ntmps28
    by_cases c1 : rd l i ≥ lo
    · have c1b : decide (lo ≤ rd l i) = true := decide_eq_true c1
      rw [decide_eq_true c1]
      clear c1
      go_wp2
      repeat (go_quiet (fail); try go_wp2)
      go_ret
      exact ⟨by simp, rfl⟩
    · have c1b : decide (lo ≤ rd l i) = false := decide_eq_false c1
      rw [decide_eq_false c1]
      clear c1
      go_wp2
      repeat (go_quiet (fail); try go_wp2)
      go_ret
      exact ⟨by simp, rfl⟩
  · cases hw
def timer_possible.f (a0 : ByteArray) (l1 l2 : List Int) : Option Bool :=
  if a0.toList = ([99, 111, 117, 110, 116] : List UInt8) then (timer_wi l2 0 0 1).bind fun b => if b = true then timer_wi l2 1 0 1000000000 else some false
  else if a0.toList = ([109, 105, 110, 114, 117, 110] : List UInt8) then (timer_wi l2 0 0 1).bind fun b => if b = true then (timer_least.f l1 (rd l2 0)).bind fun t => timer_wi l2 1 0 t else some false
  else if a0.toList = ([111, 102, 102, 100, 101, 108, 97, 121] : List UInt8) then (if 0 < (l1.length : Int) then timer_wi l2 0 (-1) (rd l1 0) else none)
  else if a0.toList = ([111, 110, 100, 101, 108, 97, 121] : List UInt8) then (if 0 < (l1.length : Int) then timer_wi l2 0 0 (wrap64 (rd l1 0 + 1)) else none)
  else if a0.toList = ([112, 117, 108, 115, 101] : List UInt8) then (timer_wi l2 0 0 1).bind fun b => if b = true then (if 0 < (l1.length : Int) then timer_wi l2 1 0 (rd l1 0) else none) else some false
  else timer_wi l2 0 0 1
theorem timer_wi_len {l : List Int} {i lo hi : Int} {b : Bool} (h : timer_wi l i lo hi = some b) : i < (l.length : Int) := by
  unfold timer_wi at h
  split at h
  · assumption
  · cases h
set_option maxHeartbeats 8000000 in
set_option maxRecDepth 100000 in
theorem timer_possible.calls (a0 : ByteArray) (A1 : Option Addr) (c1 : Nat) (l1 : List Int) (A2 : Option Addr) (c2 : Nat) (l2 : List Int) (r : Bool) (w : World) (hr1 : Kd.C (Kd.int .i64) w A1 l1.length l1) (hc1 : l1.length ≤ c1) (hr2 : Kd.C (Kd.int .i64) w A2 l2.length l2) (hc2 : l2.length ≤ c2) (h : timer_possible.f a0 l1 l2 = some r) :
    Calls Tryz.prog 17 #[.string a0, .slice A1 l1.length c1, .slice A2 l2.length c2] w fun e w' => e = .returned (.bool r) ∧ Below w.heap.size w w' := by
  have HR1 := Aside0.mk hr1
  have HR2 := Aside0.mk hr2
  have HC1 := Aside0.mk hc1
  clear hr1 hr2 hc1 hc2
  have HB := Aside0.mk (Below.refl w.heap.size w)
  have hmf : ∀ (fn : Fn) (first cap : Array Value) (w : World), (Instr.makeFunc fn first cap).run Tryz.prog w = .ok (.func fn first cap) w := fun _ _ _ _ => rfl
  unfold timer_possible.f at h
  by_cases k1 : a0.toList = ([99, 111, 117, 110, 116] : List UInt8)
  · rw [if_pos k1] at h
    have b1 : (a0.toList == ([99, 111, 117, 110, 116] : List UInt8)) = true := beq_iff_eq.mpr k1
    clear k1
    obtain ⟨b, hb, h⟩ := Option.bind_eq_some_iff.1 h
    have W1 := Aside0.mk hb
    clear hb
    cases b
    · rw [if_neg (by simp)] at h
      obtain rfl := Option.some.inj h
      clear h
      go_enter Tryz.func17, Tryz.ntmps17
      go_wp2_with (first | (go_at_call 28; (with_reducible refine (timer_within w.heap.size A2 c2 l2 _ _ _ false _ W1.out ?s1 ?s2 ?s3).mono ?_); (case s1 => go_simp; done); (case s2 => exact Kd.C_below HR2.out bl); (case s3 => decide); rintro e w' ⟨rfl, rfl⟩))
      go_ret
      exact ⟨by simp, bl⟩
    · rw [if_pos rfl] at h
      have W2 := Aside0.mk h
      clear h
      go_enter Tryz.func17, Tryz.ntmps17
      go_wp2_with (first | (go_at_call 28; (with_reducible refine (timer_within w.heap.size A2 c2 l2 0 _ _ true _ W1.out ?s1 ?s2 ?s3).mono ?_); (case s1 => go_simp; done); (case s2 => exact Kd.C_below HR2.out bl); (case s3 => decide); rintro e w' ⟨rfl, rfl⟩) | (go_at_call 28; (with_reducible refine (timer_within w.heap.size A2 c2 l2 1 _ _ r _ W2.out ?s1 ?s2 ?s3).mono ?_); (case s1 => go_simp; done); (case s2 => exact Kd.C_below HR2.out bl); (case s3 => decide); rintro e w' ⟨rfl, rfl⟩))
      go_ret
      exact ⟨by simp, bl⟩
  have b1 : (a0.toList == ([99, 111, 117, 110, 116] : List UInt8)) = false := beq_eq_false_iff_ne.mpr k1
  rw [if_neg k1] at h
  clear k1
  by_cases k2 : a0.toList = ([109, 105, 110, 114, 117, 110] : List UInt8)
  · rw [if_pos k2] at h
    have b2 : (a0.toList == ([109, 105, 110, 114, 117, 110] : List UInt8)) = true := beq_iff_eq.mpr k2
    clear k2
    obtain ⟨b, hb, h⟩ := Option.bind_eq_some_iff.1 h
    have W1 := Aside0.mk hb
    clear hb
    cases b
    · rw [if_neg (by simp)] at h
      obtain rfl := Option.some.inj h
      clear h
      go_enter Tryz.func17, Tryz.ntmps17
      go_wp2_with (first | (go_at_call 28; (with_reducible refine (timer_within w.heap.size A2 c2 l2 _ _ _ false _ W1.out ?s1 ?s2 ?s3).mono ?_); (case s1 => go_simp; done); (case s2 => exact Kd.C_below HR2.out bl); (case s3 => decide); rintro e w' ⟨rfl, rfl⟩))
      go_ret
      exact ⟨by simp, bl⟩
    · rw [if_pos rfl] at h
      obtain ⟨t, ht, h⟩ := Option.bind_eq_some_iff.1 h
      have W2 := Aside0.mk h
      have T1 := Aside0.mk ht
      clear h ht
      have hlen := timer_wi_len W1.out
      obtain ⟨ad, e, hx⟩ := Kd.at_int HR2.out 0 (by decide) hlen
      cases e
      (try rw [show ((0 : Int)).toNat = 0 from rfl] at hx)
      (try rw [Addr.add_zero'] at hx)
      have hlen' : (0 < l2.length) = True := eq_true (by omega)
      replace hlen := eq_true hlen
      replace hx := (pw_cell_below (below_alloc (Below.refl w.heap.size w) _) hx : (w.alloc (.cells #[.slice (some ad) l2.length c2] 22)).cell? _ = _)
      go_enter Tryz.func17, Tryz.ntmps17
      go_wp2_with (first | (go_at_call 28; (with_reducible refine (timer_within w.heap.size (some ad) c2 l2 0 _ _ true _ W1.out ?s1 ?s2 ?s3).mono ?_); (case s1 => go_simp; done); (case s2 => exact Kd.C_below HR2.out bl); (case s3 => decide); rintro e w' ⟨rfl, rfl⟩) | (go_at_call 29; (with_reducible refine (timer_least.calls _ _ l1 (rd l2 0) t _ ?s1 ?s2 T1.out).mono ?_); (case s1 => exact Kd.C_below HR1.out bl); (case s2 => exact HC1.out); rintro e w' ⟨rfl, ⟨nd, rfl⟩⟩) | (go_at_call 28; (with_reducible refine (timer_within w.heap.size (some ad) c2 l2 1 _ _ r _ W2.out ?s1 ?s2 ?s3).mono ?_); (case s1 => go_simp; done); (case s2 => exact Kd.C_below HR2.out bl); (case s3 => decide); rintro e w' ⟨rfl, rfl⟩))
      go_ret
      exact ⟨by simp, bl⟩
  have b2 : (a0.toList == ([109, 105, 110, 114, 117, 110] : List UInt8)) = false := beq_eq_false_iff_ne.mpr k2
  rw [if_neg k2] at h
  clear k2
  by_cases k3 : a0.toList = ([111, 102, 102, 100, 101, 108, 97, 121] : List UInt8)
  · rw [if_pos k3] at h
    have b3 : (a0.toList == ([111, 102, 102, 100, 101, 108, 97, 121] : List UInt8)) = true := beq_iff_eq.mpr k3
    clear k3
    split at h
    · rename_i hlen
      have W1 := Aside0.mk h
      clear h
      obtain ⟨ad, e, hx⟩ := Kd.at_int HR1.out 0 (by decide) hlen
      cases e
      (try rw [show ((0 : Int)).toNat = 0 from rfl] at hx)
      (try rw [Addr.add_zero'] at hx)
      have hlen' : (0 < l1.length) = True := eq_true (by omega)
      replace hlen := eq_true hlen
      replace hx := (pw_cell_below (below_alloc (Below.refl w.heap.size w) _) hx : (w.alloc (.cells #[.slice A2 l2.length c2] 22)).cell? _ = _)
      go_enter Tryz.func17, Tryz.ntmps17
      go_wp2_with (first | (go_at_call 28; (with_reducible refine (timer_within w.heap.size A2 c2 l2 0 _ _ r _ W1.out ?s1 ?s2 ?s3).mono ?_); (case s1 => go_simp; done); (case s2 => exact Kd.C_below HR2.out bl); (case s3 => decide); rintro e w' ⟨rfl, rfl⟩))
      go_ret
      exact ⟨by simp, bl⟩
    · cases h
  have b3 : (a0.toList == ([111, 102, 102, 100, 101, 108, 97, 121] : List UInt8)) = false := beq_eq_false_iff_ne.mpr k3
  rw [if_neg k3] at h
  clear k3
  by_cases k4 : a0.toList = ([111, 110, 100, 101, 108, 97, 121] : List UInt8)
  · rw [if_pos k4] at h
    have b4 : (a0.toList == ([111, 110, 100, 101, 108, 97, 121] : List UInt8)) = true := beq_iff_eq.mpr k4
    clear k4
    split at h
    · rename_i hlen
      have W1 := Aside0.mk h
      clear h
      obtain ⟨ad, e, hx⟩ := Kd.at_int HR1.out 0 (by decide) hlen
      cases e
      (try rw [show ((0 : Int)).toNat = 0 from rfl] at hx)
      (try rw [Addr.add_zero'] at hx)
      have hlen' : (0 < l1.length) = True := eq_true (by omega)
      replace hlen := eq_true hlen
      replace hx := (pw_cell_below (below_alloc (Below.refl w.heap.size w) _) hx : (w.alloc (.cells #[.slice A2 l2.length c2] 22)).cell? _ = _)
      go_enter Tryz.func17, Tryz.ntmps17
      go_wp2_with (first | (go_at_call 28; (with_reducible refine (timer_within w.heap.size A2 c2 l2 0 _ _ r _ W1.out ?s1 ?s2 ?s3).mono ?_); (case s1 => go_simp; done); (case s2 => exact Kd.C_below HR2.out bl); (case s3 => decide); rintro e w' ⟨rfl, rfl⟩))
      go_ret
      exact ⟨by simp, bl⟩
    · cases h
  have b4 : (a0.toList == ([111, 110, 100, 101, 108, 97, 121] : List UInt8)) = false := beq_eq_false_iff_ne.mpr k4
  rw [if_neg k4] at h
  clear k4
  by_cases k5 : a0.toList = ([112, 117, 108, 115, 101] : List UInt8)
  · rw [if_pos k5] at h
    have b5 : (a0.toList == ([112, 117, 108, 115, 101] : List UInt8)) = true := beq_iff_eq.mpr k5
    clear k5
    obtain ⟨b, hb, h⟩ := Option.bind_eq_some_iff.1 h
    have W1 := Aside0.mk hb
    clear hb
    cases b
    · rw [if_neg (by simp)] at h
      obtain rfl := Option.some.inj h
      clear h
      go_enter Tryz.func17, Tryz.ntmps17
      go_wp2_with (first | (go_at_call 28; (with_reducible refine (timer_within w.heap.size A2 c2 l2 _ _ _ false _ W1.out ?s1 ?s2 ?s3).mono ?_); (case s1 => go_simp; done); (case s2 => exact Kd.C_below HR2.out bl); (case s3 => decide); rintro e w' ⟨rfl, rfl⟩))
      go_ret
      exact ⟨by simp, bl⟩
    · rw [if_pos rfl] at h
      split at h
      · rename_i hlen
        have W2 := Aside0.mk h
        clear h
        obtain ⟨ad, e, hx⟩ := Kd.at_int HR1.out 0 (by decide) hlen
        cases e
        (try rw [show ((0 : Int)).toNat = 0 from rfl] at hx)
        (try rw [Addr.add_zero'] at hx)
        have hlen' : (0 < l1.length) = True := eq_true (by omega)
        replace hlen := eq_true hlen
        replace hx := (pw_cell_below (below_alloc (Below.refl w.heap.size w) _) hx : (w.alloc (.cells #[.slice A2 l2.length c2] 22)).cell? _ = _)
        go_enter Tryz.func17, Tryz.ntmps17
        go_wp2_with (first | (go_at_call 28; (with_reducible refine (timer_within w.heap.size A2 c2 l2 0 _ _ true _ W1.out ?s1 ?s2 ?s3).mono ?_); (case s1 => go_simp; done); (case s2 => exact Kd.C_below HR2.out bl); (case s3 => decide); rintro e w' ⟨rfl, rfl⟩) | (go_at_call 28; (with_reducible refine (timer_within w.heap.size A2 c2 l2 1 _ _ r _ W2.out ?s1 ?s2 ?s3).mono ?_); (case s1 => go_simp; done); (case s2 => exact Kd.C_below HR2.out bl); (case s3 => decide); rintro e w' ⟨rfl, rfl⟩))
        go_ret
        exact ⟨by simp, bl⟩
      · cases h
  have b5 : (a0.toList == ([112, 117, 108, 115, 101] : List UInt8)) = false := beq_eq_false_iff_ne.mpr k5
  rw [if_neg k5] at h
  clear k5
  have W1 := Aside0.mk h
  clear h
  go_enter Tryz.func17, Tryz.ntmps17
  go_wp2_with (first | (go_at_call 28; (with_reducible refine (timer_within w.heap.size A2 c2 l2 0 _ _ r _ W1.out ?s1 ?s2 ?s3).mono ?_); (case s1 => go_simp; done); (case s2 => exact Kd.C_below HR2.out bl); (case s3 => decide); rintro e w' ⟨rfl, rfl⟩))
  go_ret
  exact ⟨by simp, bl⟩


def timer_inputs.l0 : Nat → List (S26) → Int → Int → ByteArray → List (S61) → List (S64) → List (S64) → Int → Int → Option (Int)
 | 0, _, _, _, _, _, _, _, _, _ => none
 | k + 1, x13, x14, x15, x205000, x205001, x205002, x205003, x205004, x205005 => if x15 < x14 then (if 0 ≤ x15 then (if x15 < (x13.length : Int) then (if x15 < (x205002.length : Int) then (if ((rd_T64 x205002 x15).f1).toList = ([98, 105, 110, 97, 114, 121] : List UInt8) then (if ((rd_T26 x13 x15).f0) = 2 then (if ((rd_T26 x13 x15).f1) = 0 then (timer_inputs.l0 k x13 x14 (wrap64 (x15 + 1)) x205000 x205001 x205002 x205003 x205004 x205005) else (if ((rd_T26 x13 x15).f1) = 1 then (timer_inputs.l0 k x13 x14 (wrap64 (x15 + 1)) x205000 x205001 x205002 x205003 x205004 x205005) else (some 11))) else (some 11)) else (if ((rd_T26 x13 x15).f0) = 1 then (timer_inputs.l0 k x13 x14 (wrap64 (x15 + 1)) x205000 x205001 x205002 x205003 x205004 x205005) else (some 11))) else (none)) else (none)) else (none)) else (some 0)
def timer_inputs.f (k : Nat) (a0_0 : ByteArray) (l0_1 : List (S61)) (l0_2 : List (S64)) (l0_3 : List (S64)) (a0_4 : Int) (a0_5 : Int) (l1 : List (S26)) : Option (Int) := if (l1.length : Int) = (l0_2.length : Int) then (timer_inputs.l0 k l1 (l1.length : Int) 0 a0_0 l0_1 l0_2 l0_3 a0_4 a0_5) else (some 1)
theorem timer_inputs.mono_l : ∀ k, (∀ y0 y1 y2 y3 y4 y5 y6 y7 y8, LeO (timer_inputs.l0 k y0 y1 y2 y3 y4 y5 y6 y7 y8) (timer_inputs.l0 (k + 1) y0 y1 y2 y3 y4 y5 y6 y7 y8))
 | 0 => fun _ _ _ _ _ _ _ _ _ r h => by simp [timer_inputs.l0] at h
 | k + 1 => by
  have ih0 := timer_inputs.mono_l k
  ·
   intro y0 y1 y2 y3 y4 y5 y6 y7 y8
   unfold timer_inputs.l0
   repeat' first
   | (with_reducible exact ih0 _ _ _ _ _ _ _ _ _)
   | (with_reducible exact LeO.refl _)
   | (with_reducible exact LeO.none _)
   | (with_reducible refine LeO.ite ?_ ?_)
   | (with_reducible refine LeO.bind ?_ (fun _ => ?_))
   | exact LeO.none _
   | refine LeO.ite ?_ ?_
   | refine LeO.bind ?_ (fun _ => ?_)
theorem timer_inputs.mono : ∀ a0 a1 a2 a3 a4 a5 a6 k, LeO (timer_inputs.f k a0 a1 a2 a3 a4 a5 a6) (timer_inputs.f (k + 1) a0 a1 a2 a3 a4 a5 a6) := by
 intro a0 a1 a2 a3 a4 a5 a6 k
 have ih0 := timer_inputs.mono_l k
 unfold timer_inputs.f
 repeat' first
   | (with_reducible exact ih0 _ _ _ _ _ _ _ _ _)
   | (with_reducible exact LeO.refl _)
   | (with_reducible exact LeO.none _)
   | (with_reducible refine LeO.ite ?_ ?_)
   | (with_reducible refine LeO.bind ?_ (fun _ => ?_))
   | exact LeO.none _
   | refine LeO.ite ?_ ?_
   | refine LeO.bind ?_ (fun _ => ?_)
set_option maxHeartbeats 8000000 in
set_option maxRecDepth 100000 in
theorem timer_inputs.calls (k : Nat) (a0_0 : ByteArray) (A0_1 : Option Addr) (c0_1 : Nat) (l0_1 : List (S61)) (A0_2 : Option Addr) (c0_2 : Nat) (l0_2 : List (S64)) (A0_3 : Option Addr) (c0_3 : Nat) (l0_3 : List (S64)) (a0_4 : Int) (a0_5 : Int) (A1 : Option Addr) (c1 : Nat) (l1 : List (S26)) (r : Int) (w : World) (hr0_1 : Kd.C k61 w A0_1 l0_1.length l0_1) (hc0_1 : l0_1.length ≤ c0_1) (hr0_2 : Kd.C k64 w A0_2 l0_2.length l0_2) (hc0_2 : l0_2.length ≤ c0_2) (hr0_3 : Kd.C k64 w A0_3 l0_3.length l0_3) (hc0_3 : l0_3.length ≤ c0_3) (hr1 : Kd.C k26 w A1 l1.length l1) (hc1 : l1.length ≤ c1) (h : timer_inputs.f k a0_0 l0_1 l0_2 l0_3 a0_4 a0_5 l1 = some r) :
  Calls Tryz.prog 18 #[.agg #[.string a0_0, .slice A0_1 l0_1.length c0_1, .slice A0_2 l0_2.length c0_2, .slice A0_3 l0_3.length c0_3, .int .i64 a0_4, .int .i64 a0_5], .slice A1 l1.length c1] w fun e w' => e = .returned (.int .i64 r) ∧ Below w.heap.size w w' := by
 have hu47 := Tryz.underlying47
 have hu26 := Tryz.underlying26
 have HR0_1 := am hr0_1
 have HC0_1 := am hc0_1
 clear hr0_1 hc0_1
 have HR0_2 := am hr0_2
 have HC0_2 := am hc0_2
 clear hr0_2 hc0_2
 have HR0_3 := am hr0_3
 have HC0_3 := am hc0_3
 clear hr0_3 hc0_3
 have HR1 := am hr1
 have HC1 := am hc1
 clear hr1 hc1
 have HB := am (Below.refl w.heap.size w)
 have H : (if (l1.length : Int) = (l0_2.length : Int) then (timer_inputs.l0 k l1 (l1.length : Int) 0 a0_0 l0_1 l0_2 l0_3 a0_4 a0_5) else (some 1)) = some r := h
 clear h
 by_cases c3 : (l1.length : Int) = (l0_2.length : Int)
 rotate_left
 ·
  rw [if_neg c3] at H
  have c3b0 := beq_eq_false_iff_ne.mpr c3
  have c3b1 := bne_iff_ne.mpr c3
  have c3b2 : (l1.length == l0_2.length) = false := by first | simpa using c3 | (simp at c3 ⊢; omega)
  obtain rfl := Option.some.inj H
  go_enter Tryz.func18, Tryz.ntmps18
  go_wp2_with (first | ((refine gate_dst (N := 2) rfl ?_); refine bx (N := 2) (cs := #[.string a0_0, .slice A0_1 l0_1.length c0_1, .slice A0_2 l0_2.length c0_2, .slice A0_3 l0_3.length c0_3, .int .i64 a0_4, .int .i64 a0_5]) (t := 47) ?_; intro gb204 hg w39 hbox hb; have BK204 := am (hbox); have GW204 := am (gw hg (below_size bl)); have GE204 := am (gw hg (below_size bl)); replace HB := am (below_step bl hb); clear hb hbox hg; obtain ⟨hcz40_0, hcz40_1, hcz40_2, hcz40_3, hcz40_4, hcz40_5, hfz40_0, hfz40_1, hfz40_2, hfz40_3, hfz40_4, hfz40_5⟩ := bz6 BK204.out))
  go_ret
  exact ⟨ew, bs1 GE204.out⟩
 rw [if_pos c3] at H
 have c3b0 := beq_iff_eq.mpr c3
 have c3b1 := bne_eq_false_iff_eq.mpr c3
 have c3b2 : (l1.length == l0_2.length) = true := by first | simpa using c3 | (simp at c3 ⊢; omega)
 clear c3
 have H' := am H
 clear H
 go_enter Tryz.func18, Tryz.ntmps18
 go_wp2_with (first | ((refine gate_dst (N := 2) rfl ?_); refine bx (N := 2) (cs := #[.string a0_0, .slice A0_1 l0_1.length c0_1, .slice A0_2 l0_2.length c0_2, .slice A0_3 l0_3.length c0_3, .int .i64 a0_4, .int .i64 a0_5]) (t := 47) ?_; intro gb204 hg w4 hbox hb; have BK204 := am (hbox); have GW204 := am (gw hg (below_size bl)); have GE204 := am (gw hg (below_size bl)); replace HB := am (below_step bl hb); clear hb hbox hg; obtain ⟨hcz5_0, hcz5_1, hcz5_2, hcz5_3, hcz5_4, hcz5_5, hfz5_0, hfz5_1, hfz5_2, hfz5_3, hfz5_4, hfz5_5⟩ := bz6 BK204.out))
 go_loopg [15] k (fun kq v15 w' => ∃ (x15_1 : Int), v15 = .int .i64 x15_1 ∧ Aside0 (timer_inputs.l0 kq l1 (l1.length : Int) x15_1 a0_0 l0_1 l0_2 l0_3 a0_4 a0_5 = some r) ∧ Aside0 (kq ≤ k) ∧ Aside0 (w'.heap[gb204]? = some (.cells #[.string a0_0, (.slice A0_1 l0_1.length c0_1), (.slice A0_2 l0_2.length c0_2), (.slice A0_3 l0_3.length c0_3), .int .i64 a0_4, .int .i64 a0_5] 47 (0, 0))) ∧ Aside0 (Below w.heap.size w w'))
 case atStart => exact ⟨(0), (by first | rfl | (simp; done) | (simp [*]; done)), H', ⟨Nat.le_refl _⟩, ⟨rb BK204.out⟩, ⟨bs1 GE204.out⟩⟩
 case round =>
  clear H'
  obtain ⟨x15_1, rfl, HA, HK1, BK204, HB⟩ := hrel
  cases gk with
  | zero => exact absurd HA.out (by simp [timer_inputs.l0])
  | succ k1 =>
   have H := HA.out
   clear HA
   simp only [timer_inputs.l0] at H
   by_cases c6 : x15_1 < (l1.length : Int)
   rotate_left
   ·
    rw [if_neg c6] at H
    have c6b0 := decide_eq_false c6
    clear c6
    obtain rfl := Option.some.inj H
    go_wp2
    go_ret
    exact ⟨ew, bs1 GE204.out⟩
   rw [if_pos c6] at H
   have c6b0 := decide_eq_true c6
   clear c6
   have c7 := oi H; rw [if_pos c7] at H
   have c7b0 := decide_eq_true c7
   clear c7
   have c8 := oi H; rw [if_pos c8] at H
   have c8b0 := decide_eq_true c8
   clear c8
   have c9 := oi H; rw [if_pos c9] at H
   have c9b0 := decide_eq_true c9
   clear c9
   by_cases c10 : ((rd_T64 l0_2 x15_1).f1).toList = ([98, 105, 110, 97, 114, 121] : List UInt8)
   rotate_left
   ·
    rw [if_neg c10] at H
    have c10b0 := beq_eq_false_iff_ne.mpr c10
    have c10b1 := bne_iff_ne.mpr c10
    by_cases c30 : ((rd_T26 l1 x15_1).f0) = 1
    rotate_left
    ·
     rw [if_neg c30] at H
     have c30b0 := beq_eq_false_iff_ne.mpr c30
     have c30b1 := bne_iff_ne.mpr c30
     obtain rfl := Option.some.inj H
     have q205 := ixv (i := x15_1) (n := l1.length) ode ode; obtain ⟨ad205, e205, hx205_0, hx205_1⟩ := at_T26 HR1.out x15_1 (of_eq_true q205.1) (of_eq_true q205.2); cases e205; replace hx205_0 := hbl HB.out hx205_0; replace hx205_1 := hbl HB.out hx205_1; obtain ⟨p205, q205⟩ := q205
     go_wp2_with (first | ((refine gate_dst (N := 6) rfl ?_); refine bx (N := 6) (cs := #[.int .i64 0, .int .i64 0]) (t := 26) ?_; intro gb206 hg w35 hbox hb; have BK206 := am (hbox); have GW206 := am (gw hg (below_size (bs1 GE204.out))); have GE206 := am (gw hg (below_size (bs1 GE204.out))); replace HB := am (below_step (bs1 GE204.out) hb); have NB204_206 := am ((by rw [hg]; exact Nat.ne_of_lt (blk_lt (rb BK204.out)) : gb204 ≠ gb206)); have NB206_204 := am ((by rw [hg]; exact Nat.ne_of_gt (blk_lt (rb BK204.out)) : gb206 ≠ gb204)); replace BK204 := am (blk_below (rb BK204.out) hb); clear hb hbox hg; have hnb36 := NB206_204.out; have hnc36 := NB204_206.out; obtain ⟨hcz37_0, hcz37_1, hfz37_0, hfz37_1⟩ := bz2 BK206.out; obtain ⟨hcz38_0, hcz38_1, hcz38_2, hcz38_3, hcz38_4, hcz38_5, hfz38_0, hfz38_1, hfz38_2, hfz38_3, hfz38_4, hfz38_5⟩ := bz6 BK204.out; have q207 := ixv (i := x15_1) (n := l0_2.length) ode ode; obtain ⟨ad207, e207, hx207_0, hx207_1⟩ := at_T64 HR0_2.out x15_1 (of_eq_true q207.1) (of_eq_true q207.2); cases e207; have hn207_0 : ad207.block ≠ gb206 := hnl hx207_0 GW206.out; have hn207_1 : ad207.block ≠ gb206 := hnl hx207_0 GW206.out; replace hx207_0 := hbl HB.out hx207_0; replace hx207_1 := hbl HB.out hx207_1; replace hx207_0 := (cell_far (p := ⟨gb206, 0, none⟩) (an hn207_0) (.int .i64 ((rd_T26 l1 x15_1).f0))).trans hx207_0; replace hx207_1 := (cell_far (p := ⟨gb206, 0, none⟩) (an hn207_0) (.int .i64 ((rd_T26 l1 x15_1).f0))).trans hx207_1; replace hx207_0 := (cell_far (p := ⟨gb206, 1, none⟩) (an hn207_1) (.int .i64 ((rd_T26 l1 x15_1).f1))).trans hx207_0; replace hx207_1 := (cell_far (p := ⟨gb206, 1, none⟩) (an hn207_1) (.int .i64 ((rd_T26 l1 x15_1).f1))).trans hx207_1; clear hn207_0; clear hn207_1; obtain ⟨p207, q207⟩ := q207))
     go_ret
     exact ⟨ew, bs2 GE204.out GE206.out⟩
    rw [if_pos c30] at H
    have c30b0 := beq_iff_eq.mpr c30
    have c30b1 := bne_eq_false_iff_eq.mpr c30
    clear c30
    have H' := am H
    clear H
    have q205 := ixv (i := x15_1) (n := l1.length) ode ode; obtain ⟨ad205, e205, hx205_0, hx205_1⟩ := at_T26 HR1.out x15_1 (of_eq_true q205.1) (of_eq_true q205.2); cases e205; replace hx205_0 := hbl HB.out hx205_0; replace hx205_1 := hbl HB.out hx205_1; obtain ⟨p205, q205⟩ := q205
    go_wp2_with (first | ((refine gate_dst (N := 6) rfl ?_); refine bx (N := 6) (cs := #[.int .i64 0, .int .i64 0]) (t := 26) ?_; intro gb206 hg w31 hbox hb; have BK206 := am (hbox); have GW206 := am (gw hg (below_size (bs1 GE204.out))); have GE206 := am (gw hg (below_size (bs1 GE204.out))); replace HB := am (below_step (bs1 GE204.out) hb); have NB204_206 := am ((by rw [hg]; exact Nat.ne_of_lt (blk_lt (rb BK204.out)) : gb204 ≠ gb206)); have NB206_204 := am ((by rw [hg]; exact Nat.ne_of_gt (blk_lt (rb BK204.out)) : gb206 ≠ gb204)); replace BK204 := am (blk_below (rb BK204.out) hb); clear hb hbox hg; have hnb32 := NB206_204.out; have hnc32 := NB204_206.out; obtain ⟨hcz33_0, hcz33_1, hfz33_0, hfz33_1⟩ := bz2 BK206.out; obtain ⟨hcz34_0, hcz34_1, hcz34_2, hcz34_3, hcz34_4, hcz34_5, hfz34_0, hfz34_1, hfz34_2, hfz34_3, hfz34_4, hfz34_5⟩ := bz6 BK204.out; have q207 := ixv (i := x15_1) (n := l0_2.length) ode ode; obtain ⟨ad207, e207, hx207_0, hx207_1⟩ := at_T64 HR0_2.out x15_1 (of_eq_true q207.1) (of_eq_true q207.2); cases e207; have hn207_0 : ad207.block ≠ gb206 := hnl hx207_0 GW206.out; have hn207_1 : ad207.block ≠ gb206 := hnl hx207_0 GW206.out; replace hx207_0 := hbl HB.out hx207_0; replace hx207_1 := hbl HB.out hx207_1; replace hx207_0 := (cell_far (p := ⟨gb206, 0, none⟩) (an hn207_0) (.int .i64 ((rd_T26 l1 x15_1).f0))).trans hx207_0; replace hx207_1 := (cell_far (p := ⟨gb206, 0, none⟩) (an hn207_0) (.int .i64 ((rd_T26 l1 x15_1).f0))).trans hx207_1; replace hx207_0 := (cell_far (p := ⟨gb206, 1, none⟩) (an hn207_1) (.int .i64 ((rd_T26 l1 x15_1).f1))).trans hx207_0; replace hx207_1 := (cell_far (p := ⟨gb206, 1, none⟩) (an hn207_1) (.int .i64 ((rd_T26 l1 x15_1).f1))).trans hx207_1; clear hn207_0; clear hn207_1; obtain ⟨p207, q207⟩ := q207))
    go_roundg k1
    case measure => have := HK1.out; omega
    case rel => exact ⟨(wrap64 (x15_1 + 1)), (by first | rfl | (simp; done) | (simp [*]; done)), H', ⟨by have := HK1.out; omega⟩, ⟨by (with_reducible repeat (first | apply blk_drewN | apply blk_drew | apply blk_alloc)); refine blk_far ?_ NB204_206.out _; (with_reducible repeat (first | apply blk_drewN | apply blk_drew | apply blk_alloc)); refine blk_far ?_ NB204_206.out _; exact rb BK204.out⟩, ⟨bs2 GE204.out GE206.out⟩⟩
   rw [if_pos c10] at H
   have c10b0 := beq_iff_eq.mpr c10
   have c10b1 := bne_eq_false_iff_eq.mpr c10
   clear c10
   by_cases c11 : ((rd_T26 l1 x15_1).f0) = 2
   rotate_left
   ·
    rw [if_neg c11] at H
    have c11b0 := beq_eq_false_iff_ne.mpr c11
    have c11b1 := bne_iff_ne.mpr c11
    obtain rfl := Option.some.inj H
    have q205 := ixv (i := x15_1) (n := l1.length) ode ode; obtain ⟨ad205, e205, hx205_0, hx205_1⟩ := at_T26 HR1.out x15_1 (of_eq_true q205.1) (of_eq_true q205.2); cases e205; replace hx205_0 := hbl HB.out hx205_0; replace hx205_1 := hbl HB.out hx205_1; obtain ⟨p205, q205⟩ := q205
    go_wp2_with (first | ((refine gate_dst (N := 6) rfl ?_); refine bx (N := 6) (cs := #[.int .i64 0, .int .i64 0]) (t := 26) ?_; intro gb206 hg w26 hbox hb; have BK206 := am (hbox); have GW206 := am (gw hg (below_size (bs1 GE204.out))); have GE206 := am (gw hg (below_size (bs1 GE204.out))); replace HB := am (below_step (bs1 GE204.out) hb); have NB204_206 := am ((by rw [hg]; exact Nat.ne_of_lt (blk_lt (rb BK204.out)) : gb204 ≠ gb206)); have NB206_204 := am ((by rw [hg]; exact Nat.ne_of_gt (blk_lt (rb BK204.out)) : gb206 ≠ gb204)); replace BK204 := am (blk_below (rb BK204.out) hb); clear hb hbox hg; have hnb27 := NB206_204.out; have hnc27 := NB204_206.out; obtain ⟨hcz28_0, hcz28_1, hfz28_0, hfz28_1⟩ := bz2 BK206.out; obtain ⟨hcz29_0, hcz29_1, hcz29_2, hcz29_3, hcz29_4, hcz29_5, hfz29_0, hfz29_1, hfz29_2, hfz29_3, hfz29_4, hfz29_5⟩ := bz6 BK204.out; have q207 := ixv (i := x15_1) (n := l0_2.length) ode ode; obtain ⟨ad207, e207, hx207_0, hx207_1⟩ := at_T64 HR0_2.out x15_1 (of_eq_true q207.1) (of_eq_true q207.2); cases e207; have hn207_0 : ad207.block ≠ gb206 := hnl hx207_0 GW206.out; have hn207_1 : ad207.block ≠ gb206 := hnl hx207_0 GW206.out; replace hx207_0 := hbl HB.out hx207_0; replace hx207_1 := hbl HB.out hx207_1; replace hx207_0 := (cell_far (p := ⟨gb206, 0, none⟩) (an hn207_0) (.int .i64 ((rd_T26 l1 x15_1).f0))).trans hx207_0; replace hx207_1 := (cell_far (p := ⟨gb206, 0, none⟩) (an hn207_0) (.int .i64 ((rd_T26 l1 x15_1).f0))).trans hx207_1; replace hx207_0 := (cell_far (p := ⟨gb206, 1, none⟩) (an hn207_1) (.int .i64 ((rd_T26 l1 x15_1).f1))).trans hx207_0; replace hx207_1 := (cell_far (p := ⟨gb206, 1, none⟩) (an hn207_1) (.int .i64 ((rd_T26 l1 x15_1).f1))).trans hx207_1; clear hn207_0; clear hn207_1; obtain ⟨p207, q207⟩ := q207))
    go_ret
    exact ⟨ew, bs2 GE204.out GE206.out⟩
   rw [if_pos c11] at H
   have c11b0 := beq_iff_eq.mpr c11
   have c11b1 := bne_eq_false_iff_eq.mpr c11
   clear c11
   by_cases c12 : ((rd_T26 l1 x15_1).f1) = 0
   ·
    rw [if_pos c12] at H
    have c12b0 := beq_iff_eq.mpr c12
    have c12b1 := bne_eq_false_iff_eq.mpr c12
    clear c12
    have H' := am H
    clear H
    have q205 := ixv (i := x15_1) (n := l1.length) ode ode; obtain ⟨ad205, e205, hx205_0, hx205_1⟩ := at_T26 HR1.out x15_1 (of_eq_true q205.1) (of_eq_true q205.2); cases e205; replace hx205_0 := hbl HB.out hx205_0; replace hx205_1 := hbl HB.out hx205_1; obtain ⟨p205, q205⟩ := q205
    go_wp2_with (first | ((refine gate_dst (N := 6) rfl ?_); refine bx (N := 6) (cs := #[.int .i64 0, .int .i64 0]) (t := 26) ?_; intro gb206 hg w13 hbox hb; have BK206 := am (hbox); have GW206 := am (gw hg (below_size (bs1 GE204.out))); have GE206 := am (gw hg (below_size (bs1 GE204.out))); replace HB := am (below_step (bs1 GE204.out) hb); have NB204_206 := am ((by rw [hg]; exact Nat.ne_of_lt (blk_lt (rb BK204.out)) : gb204 ≠ gb206)); have NB206_204 := am ((by rw [hg]; exact Nat.ne_of_gt (blk_lt (rb BK204.out)) : gb206 ≠ gb204)); replace BK204 := am (blk_below (rb BK204.out) hb); clear hb hbox hg; have hnb14 := NB206_204.out; have hnc14 := NB204_206.out; obtain ⟨hcz15_0, hcz15_1, hfz15_0, hfz15_1⟩ := bz2 BK206.out; obtain ⟨hcz16_0, hcz16_1, hcz16_2, hcz16_3, hcz16_4, hcz16_5, hfz16_0, hfz16_1, hfz16_2, hfz16_3, hfz16_4, hfz16_5⟩ := bz6 BK204.out; have q207 := ixv (i := x15_1) (n := l0_2.length) ode ode; obtain ⟨ad207, e207, hx207_0, hx207_1⟩ := at_T64 HR0_2.out x15_1 (of_eq_true q207.1) (of_eq_true q207.2); cases e207; have hn207_0 : ad207.block ≠ gb206 := hnl hx207_0 GW206.out; have hn207_1 : ad207.block ≠ gb206 := hnl hx207_0 GW206.out; replace hx207_0 := hbl HB.out hx207_0; replace hx207_1 := hbl HB.out hx207_1; replace hx207_0 := (cell_far (p := ⟨gb206, 0, none⟩) (an hn207_0) (.int .i64 ((rd_T26 l1 x15_1).f0))).trans hx207_0; replace hx207_1 := (cell_far (p := ⟨gb206, 0, none⟩) (an hn207_0) (.int .i64 ((rd_T26 l1 x15_1).f0))).trans hx207_1; replace hx207_0 := (cell_far (p := ⟨gb206, 1, none⟩) (an hn207_1) (.int .i64 ((rd_T26 l1 x15_1).f1))).trans hx207_0; replace hx207_1 := (cell_far (p := ⟨gb206, 1, none⟩) (an hn207_1) (.int .i64 ((rd_T26 l1 x15_1).f1))).trans hx207_1; clear hn207_0; clear hn207_1; obtain ⟨p207, q207⟩ := q207))
    go_roundg k1
    case measure => have := HK1.out; omega
    case rel => exact ⟨(wrap64 (x15_1 + 1)), (by first | rfl | (simp; done) | (simp [*]; done)), H', ⟨by have := HK1.out; omega⟩, ⟨by (with_reducible repeat (first | apply blk_drewN | apply blk_drew | apply blk_alloc)); refine blk_far ?_ NB204_206.out _; (with_reducible repeat (first | apply blk_drewN | apply blk_drew | apply blk_alloc)); refine blk_far ?_ NB204_206.out _; exact rb BK204.out⟩, ⟨bs2 GE204.out GE206.out⟩⟩
   rw [if_neg c12] at H
   have c12b0 := beq_eq_false_iff_ne.mpr c12
   have c12b1 := bne_iff_ne.mpr c12
   by_cases c17 : ((rd_T26 l1 x15_1).f1) = 1
   rotate_left
   ·
    rw [if_neg c17] at H
    have c17b0 := beq_eq_false_iff_ne.mpr c17
    have c17b1 := bne_iff_ne.mpr c17
    obtain rfl := Option.some.inj H
    have q205 := ixv (i := x15_1) (n := l1.length) ode ode; obtain ⟨ad205, e205, hx205_0, hx205_1⟩ := at_T26 HR1.out x15_1 (of_eq_true q205.1) (of_eq_true q205.2); cases e205; replace hx205_0 := hbl HB.out hx205_0; replace hx205_1 := hbl HB.out hx205_1; obtain ⟨p205, q205⟩ := q205
    go_wp2_with (first | ((refine gate_dst (N := 6) rfl ?_); refine bx (N := 6) (cs := #[.int .i64 0, .int .i64 0]) (t := 26) ?_; intro gb206 hg w22 hbox hb; have BK206 := am (hbox); have GW206 := am (gw hg (below_size (bs1 GE204.out))); have GE206 := am (gw hg (below_size (bs1 GE204.out))); replace HB := am (below_step (bs1 GE204.out) hb); have NB204_206 := am ((by rw [hg]; exact Nat.ne_of_lt (blk_lt (rb BK204.out)) : gb204 ≠ gb206)); have NB206_204 := am ((by rw [hg]; exact Nat.ne_of_gt (blk_lt (rb BK204.out)) : gb206 ≠ gb204)); replace BK204 := am (blk_below (rb BK204.out) hb); clear hb hbox hg; have hnb23 := NB206_204.out; have hnc23 := NB204_206.out; obtain ⟨hcz24_0, hcz24_1, hfz24_0, hfz24_1⟩ := bz2 BK206.out; obtain ⟨hcz25_0, hcz25_1, hcz25_2, hcz25_3, hcz25_4, hcz25_5, hfz25_0, hfz25_1, hfz25_2, hfz25_3, hfz25_4, hfz25_5⟩ := bz6 BK204.out; have q207 := ixv (i := x15_1) (n := l0_2.length) ode ode; obtain ⟨ad207, e207, hx207_0, hx207_1⟩ := at_T64 HR0_2.out x15_1 (of_eq_true q207.1) (of_eq_true q207.2); cases e207; have hn207_0 : ad207.block ≠ gb206 := hnl hx207_0 GW206.out; have hn207_1 : ad207.block ≠ gb206 := hnl hx207_0 GW206.out; replace hx207_0 := hbl HB.out hx207_0; replace hx207_1 := hbl HB.out hx207_1; replace hx207_0 := (cell_far (p := ⟨gb206, 0, none⟩) (an hn207_0) (.int .i64 ((rd_T26 l1 x15_1).f0))).trans hx207_0; replace hx207_1 := (cell_far (p := ⟨gb206, 0, none⟩) (an hn207_0) (.int .i64 ((rd_T26 l1 x15_1).f0))).trans hx207_1; replace hx207_0 := (cell_far (p := ⟨gb206, 1, none⟩) (an hn207_1) (.int .i64 ((rd_T26 l1 x15_1).f1))).trans hx207_0; replace hx207_1 := (cell_far (p := ⟨gb206, 1, none⟩) (an hn207_1) (.int .i64 ((rd_T26 l1 x15_1).f1))).trans hx207_1; clear hn207_0; clear hn207_1; obtain ⟨p207, q207⟩ := q207))
    go_ret
    exact ⟨ew, bs2 GE204.out GE206.out⟩
   rw [if_pos c17] at H
   have c17b0 := beq_iff_eq.mpr c17
   have c17b1 := bne_eq_false_iff_eq.mpr c17
   clear c17
   have H' := am H
   clear H
   have q205 := ixv (i := x15_1) (n := l1.length) ode ode; obtain ⟨ad205, e205, hx205_0, hx205_1⟩ := at_T26 HR1.out x15_1 (of_eq_true q205.1) (of_eq_true q205.2); cases e205; replace hx205_0 := hbl HB.out hx205_0; replace hx205_1 := hbl HB.out hx205_1; obtain ⟨p205, q205⟩ := q205
   go_wp2_with (first | ((refine gate_dst (N := 6) rfl ?_); refine bx (N := 6) (cs := #[.int .i64 0, .int .i64 0]) (t := 26) ?_; intro gb206 hg w18 hbox hb; have BK206 := am (hbox); have GW206 := am (gw hg (below_size (bs1 GE204.out))); have GE206 := am (gw hg (below_size (bs1 GE204.out))); replace HB := am (below_step (bs1 GE204.out) hb); have NB204_206 := am ((by rw [hg]; exact Nat.ne_of_lt (blk_lt (rb BK204.out)) : gb204 ≠ gb206)); have NB206_204 := am ((by rw [hg]; exact Nat.ne_of_gt (blk_lt (rb BK204.out)) : gb206 ≠ gb204)); replace BK204 := am (blk_below (rb BK204.out) hb); clear hb hbox hg; have hnb19 := NB206_204.out; have hnc19 := NB204_206.out; obtain ⟨hcz20_0, hcz20_1, hfz20_0, hfz20_1⟩ := bz2 BK206.out; obtain ⟨hcz21_0, hcz21_1, hcz21_2, hcz21_3, hcz21_4, hcz21_5, hfz21_0, hfz21_1, hfz21_2, hfz21_3, hfz21_4, hfz21_5⟩ := bz6 BK204.out; have q207 := ixv (i := x15_1) (n := l0_2.length) ode ode; obtain ⟨ad207, e207, hx207_0, hx207_1⟩ := at_T64 HR0_2.out x15_1 (of_eq_true q207.1) (of_eq_true q207.2); cases e207; have hn207_0 : ad207.block ≠ gb206 := hnl hx207_0 GW206.out; have hn207_1 : ad207.block ≠ gb206 := hnl hx207_0 GW206.out; replace hx207_0 := hbl HB.out hx207_0; replace hx207_1 := hbl HB.out hx207_1; replace hx207_0 := (cell_far (p := ⟨gb206, 0, none⟩) (an hn207_0) (.int .i64 ((rd_T26 l1 x15_1).f0))).trans hx207_0; replace hx207_1 := (cell_far (p := ⟨gb206, 0, none⟩) (an hn207_0) (.int .i64 ((rd_T26 l1 x15_1).f0))).trans hx207_1; replace hx207_0 := (cell_far (p := ⟨gb206, 1, none⟩) (an hn207_1) (.int .i64 ((rd_T26 l1 x15_1).f1))).trans hx207_0; replace hx207_1 := (cell_far (p := ⟨gb206, 1, none⟩) (an hn207_1) (.int .i64 ((rd_T26 l1 x15_1).f1))).trans hx207_1; clear hn207_0; clear hn207_1; obtain ⟨p207, q207⟩ := q207))
   go_roundg k1
   case measure => have := HK1.out; omega
   case rel => exact ⟨(wrap64 (x15_1 + 1)), (by first | rfl | (simp; done) | (simp [*]; done)), H', ⟨by have := HK1.out; omega⟩, ⟨by (with_reducible repeat (first | apply blk_drewN | apply blk_drew | apply blk_alloc)); refine blk_far ?_ NB204_206.out _; (with_reducible repeat (first | apply blk_drewN | apply blk_drew | apply blk_alloc)); refine blk_far ?_ NB204_206.out _; exact rb BK204.out⟩, ⟨bs2 GE204.out GE206.out⟩⟩
def timer_Step.j0 : Nat → ByteArray → List Int → List Int → List (S26) → Int → Bool → ByteArray → List (S61) → List (S64) → List (S64) → Int → Int → Option (List Int × Int × Int × Int)
 | 0, _, _, _, _, _, _, _, _, _, _, _, _ => none
 | k + 1, x0, x1, x2, x3, x4, x47, x339000, x339001, x339002, x339003, x339004, x339005 => if x47 = true then (some (([] : List Int), 0, 0, 1)) else ((timer_inputs.f k x339000 x339001 x339002 x339003 x339004 x339005 x3).bind fun t340 => (if t340 = 0 then (if 0 ≤ (x2.length : Int) then (if ((x2.length : Int) : Int).toNat ≤ 35184372088832 then (if List.length (α := Int) (List.replicate ((x2.length : Int) : Int).toNat 0) = x2.length then ((timer_step.f k x0 x1 (x2) x3 x4).bind fun bt347 => (some (bt347.2.2, bt347.1, bt347.2.1, 0))) else (none)) else (none)) else (none)) else (some (([] : List Int), 0, 0, t340))))
def timer_Step.f (k : Nat) (a0 : ByteArray) (l1 : List Int) (l2 : List Int) (l3 : List (S26)) (a4 : Int) : Option (List Int × Int × Int × Int) := (timer_find.f k a0 l1).bind fun bt325 => (if bt325.2.2.2.2.2.2 = 0 then (if (l2.length : Int) = bt325.2.2.2.2.1 then ((timer_possible.f a0 l1 l2).bind fun t339 => (if t339 = true then (if a4 < 1 then (timer_Step.j0 k a0 l1 l2 l3 a4 true bt325.1 bt325.2.1 bt325.2.2.1 bt325.2.2.2.1 bt325.2.2.2.2.1 bt325.2.2.2.2.2.1) else (timer_Step.j0 k a0 l1 l2 l3 a4 (decide (a4 > 86400)) bt325.1 bt325.2.1 bt325.2.2.1 bt325.2.2.2.1 bt325.2.2.2.2.1 bt325.2.2.2.2.2.1)) else (timer_Step.j0 k a0 l1 l2 l3 a4 true bt325.1 bt325.2.1 bt325.2.2.1 bt325.2.2.2.1 bt325.2.2.2.2.1 bt325.2.2.2.2.2.1))) else (timer_Step.j0 k a0 l1 l2 l3 a4 true bt325.1 bt325.2.1 bt325.2.2.1 bt325.2.2.2.1 bt325.2.2.2.2.1 bt325.2.2.2.2.2.1)) else (some (([] : List Int), 0, 0, bt325.2.2.2.2.2.2)))
theorem timer_Step.mono_l : ∀ k, (∀ y0 y1 y2 y3 y4 y5 y6 y7 y8 y9 y10 y11, LeO (timer_Step.j0 k y0 y1 y2 y3 y4 y5 y6 y7 y8 y9 y10 y11) (timer_Step.j0 (k + 1) y0 y1 y2 y3 y4 y5 y6 y7 y8 y9 y10 y11))
 | 0 => fun _ _ _ _ _ _ _ _ _ _ _ _ r h => by simp [timer_Step.j0] at h
 | k + 1 => by
  have ih0 := timer_Step.mono_l k
  ·
   intro y0 y1 y2 y3 y4 y5 y6 y7 y8 y9 y10 y11
   unfold timer_Step.j0
   repeat' first
   | (with_reducible exact ih0 _ _ _ _ _ _ _ _ _ _ _ _)
   | (with_reducible exact timer_find.mono _ _ _)
   | (with_reducible exact timer_inputs.mono _ _ _ _ _ _ _ _)
   | (with_reducible exact timer_step.mono _ _ _ _ _ _)
   | (with_reducible exact LeO.refl _)
   | (with_reducible exact LeO.none _)
   | (with_reducible refine LeO.ite ?_ ?_)
   | (with_reducible refine LeO.bind ?_ (fun _ => ?_))
   | exact LeO.none _
   | refine LeO.ite ?_ ?_
   | refine LeO.bind ?_ (fun _ => ?_)
theorem timer_Step.mono : ∀ a0 a1 a2 a3 a4 k, LeO (timer_Step.f k a0 a1 a2 a3 a4) (timer_Step.f (k + 1) a0 a1 a2 a3 a4) := by
 intro a0 a1 a2 a3 a4 k
 have ih0 := timer_Step.mono_l k
 unfold timer_Step.f
 repeat' first
   | (with_reducible exact ih0 _ _ _ _ _ _ _ _ _ _ _ _)
   | (with_reducible exact timer_find.mono _ _ _)
   | (with_reducible exact timer_inputs.mono _ _ _ _ _ _ _ _)
   | (with_reducible exact timer_step.mono _ _ _ _ _ _)
   | (with_reducible exact LeO.refl _)
   | (with_reducible exact LeO.none _)
   | (with_reducible refine LeO.ite ?_ ?_)
   | (with_reducible refine LeO.bind ?_ (fun _ => ?_))
   | exact LeO.none _
   | refine LeO.ite ?_ ?_
   | refine LeO.bind ?_ (fun _ => ?_)
set_option maxHeartbeats 8000000 in
set_option maxRecDepth 100000 in
theorem timer_Step.calls (k : Nat) (a0 : ByteArray) (A1 : Option Addr) (c1 : Nat) (l1 : List Int) (A2 : Option Addr) (c2 : Nat) (l2 : List Int) (A3 : Option Addr) (c3 : Nat) (l3 : List (S26)) (a4 : Int) (r1 : List Int) (r2 : Int) (r3 : Int) (r4 : Int) (w : World) (hr1 : Kd.C (Kd.int .i64) w A1 l1.length l1) (hc1 : l1.length ≤ c1) (hr2 : Kd.C (Kd.int .i64) w A2 l2.length l2) (hc2 : l2.length ≤ c2) (hr3 : Kd.C k26 w A3 l3.length l3) (hc3 : l3.length ≤ c3) (hG : GW w) (h : timer_Step.f k a0 l1 l2 l3 a4 = some (r1, r2, r3, r4)) :
  Calls Tryz.prog 6 #[.string a0, .slice A1 l1.length c1, .slice A2 l2.length c2, .slice A3 l3.length c3, .int .i64 a4] w fun e w' => ∃ v0_ : Value, e = .returned (.tuple #[v0_, .agg #[.int .i64 r2, .int .i64 r3], .int .i64 r4]) ∧ Kd.R (Kd.int .i64) 2 w' w.heap.size (fun _ => True) v0_ r1 ∧ Below w.heap.size w w' := by
 have hu26 := Tryz.underlying26
 have hu47 := Tryz.underlying47
 have HG := am hG
 clear hG
 have HR1 := am hr1
 have HC1 := am hc1
 clear hr1 hc1
 have HR2 := am hr2
 have HC2 := am hc2
 clear hr2 hc2
 have HR3 := am hr3
 have HC3 := am hc3
 clear hr3 hc3
 have HB := am (Below.refl w.heap.size w)
 have H : ((timer_find.f k a0 l1).bind fun bt325 => (if bt325.2.2.2.2.2.2 = 0 then (if (l2.length : Int) = bt325.2.2.2.2.1 then ((timer_possible.f a0 l1 l2).bind fun t339 => (if t339 = true then (if a4 < 1 then (timer_Step.j0 k a0 l1 l2 l3 a4 true bt325.1 bt325.2.1 bt325.2.2.1 bt325.2.2.2.1 bt325.2.2.2.2.1 bt325.2.2.2.2.2.1) else (timer_Step.j0 k a0 l1 l2 l3 a4 (decide (a4 > 86400)) bt325.1 bt325.2.1 bt325.2.2.1 bt325.2.2.2.1 bt325.2.2.2.2.1 bt325.2.2.2.2.2.1)) else (timer_Step.j0 k a0 l1 l2 l3 a4 true bt325.1 bt325.2.1 bt325.2.2.1 bt325.2.2.2.1 bt325.2.2.2.2.1 bt325.2.2.2.2.2.1))) else (timer_Step.j0 k a0 l1 l2 l3 a4 true bt325.1 bt325.2.1 bt325.2.2.1 bt325.2.2.2.1 bt325.2.2.2.2.1 bt325.2.2.2.2.2.1)) else (some (([] : List Int), 0, 0, bt325.2.2.2.2.2.2)))) = some (r1, r2, r3, r4) := h
 clear h
 obtain ⟨⟨t325, t326, t329, t332, t335, t336, t337⟩, A6, H⟩ := Option.bind_eq_some_iff.mp H
 (try dsimp only at H)
 replace A6 := am A6
 by_cases c7 : t337 = 0
 rotate_left
 ·
  rw [if_neg c7] at H
  have c7b0 := beq_eq_false_iff_ne.mpr c7
  have c7b1 := bne_iff_ne.mpr c7
  simp only [Option.some.injEq, Prod.mk.injEq] at H
  obtain ⟨rfl, rfl, rfl, rfl⟩ := H
  go_enter Tryz.func6, Tryz.ntmps6
  go_wp2_with (first | ((refine gate_dst (N := 11) rfl ?_); refine bx (N := 11) (cs := #[.int .i64 0, .int .i64 0]) (t := 26) ?_; intro gb324 hg w61 hbox hb; have BK324 := am (hbox); have GW324 := am (gw hg (below_size bl)); have GE324 := am (gw hg (below_size bl)); replace HB := am (below_step bl hb); clear hb hbox hg) | ((refine gate_callee (f := 16) rfl ?_); refine gl (some 21) Tryz.func16 #[.string a0, .slice A1 l1.length c1] ?_; (with_reducible refine (timer_find.calls k a0 _ _ l1 t325 t326 t329 t332 t335 t336 t337 _ ?side1 ?side2 ?side3 A6.out).mono ?_); (case side1 => exact cc (Kd.C_below HR1.out HB.out)); (case side2 => exact HC1.out); (case side3 => exact GW.below HG.out (bs1 GE324.out)); rintro e w62 ⟨v327, v330, v333, rfl, ho0, ho1, ho2, hb⟩; refine ⟨_, rfl, ?_⟩; have HO328 := am (Kd.R_lower ho0 (below_size (bs1 GE324.out))); have HO331 := am (Kd.R_lower ho1 (below_size (bs1 GE324.out))); have HO334 := am (Kd.R_lower ho2 (below_size (bs1 GE324.out))); replace BK324 := am (blk_below (rb BK324.out) hb); replace HB := am (below_step (bs1 GE324.out) hb); (try clear hb); (try clear hb2); (try clear hk); (try clear hi); (try clear ho0); (try clear ho1); (try clear ho2)) | ((refine gate_dst (N := 13) rfl ?_); refine bx (N := 13) (cs := #[.string (⟨#[]⟩ : ByteArray), .slice none 0 0, .slice none 0 0, .slice none 0 0, .int .i64 0, .int .i64 0]) (t := 47) ?_; intro gb338 hg w63 hbox hb; replace HO328 := am (Kd.R_below (rr HO328.out) hb); replace HO331 := am (Kd.R_below (rr HO331.out) hb); replace HO334 := am (Kd.R_below (rr HO334.out) hb); have BK338 := am (hbox); have GW338 := am (gw hg (below_size (bs1 GE324.out))); have GE338 := am (gw hg (below_size (bs1 GE324.out))); replace HB := am (below_step (bs1 GE324.out) hb); have NB324_338 := am ((by rw [hg]; exact Nat.ne_of_lt (blk_lt (rb BK324.out)) : gb324 ≠ gb338)); have NB338_324 := am ((by rw [hg]; exact Nat.ne_of_gt (blk_lt (rb BK324.out)) : gb338 ≠ gb324)); replace BK324 := am (blk_below (rb BK324.out) hb); clear hb hbox hg; have hnb64 := NB338_324.out; have hnc64 := NB324_338.out; obtain ⟨hcz65_0, hcz65_1, hcz65_2, hcz65_3, hcz65_4, hcz65_5, hfz65_0, hfz65_1, hfz65_2, hfz65_3, hfz65_4, hfz65_5⟩ := bz6 BK338.out; obtain ⟨Ao66, co66, eo66⟩ := Kd.R_slice HO328.out; subst eo66; obtain ⟨Ao67, co67, eo67⟩ := Kd.R_slice HO331.out; subst eo67; obtain ⟨Ao68, co68, eo68⟩ := Kd.R_slice HO334.out; subst eo68; obtain ⟨hcz69_0, hcz69_1, hfz69_0, hfz69_1⟩ := bz2 BK324.out))
  refine bodyPost_ret (results_list (rs := [.tmp 10, .cell 11 26, .tmp 12]) rfl (by simp) (.tmp (.cell gb324 26 #[.int .i64 0, .int .i64 0] (0, 0) _ rfl (by refine rb ?_; refine blk_put (cs := #[.int .i64 0, .int .i64 0]) ?_ 1 _ rfl; refine rb ?_; refine blk_put (cs := #[.int .i64 0, .int .i64 0]) ?_ 0 _ rfl; (with_reducible repeat (first | apply blk_drewN | apply blk_drew | apply blk_alloc)); refine blk_far ?_ NB324_338.out _; (with_reducible repeat (first | apply blk_drewN | apply blk_drew | apply blk_alloc)); refine blk_far ?_ NB324_338.out _; (with_reducible repeat (first | apply blk_drewN | apply blk_drew | apply blk_alloc)); refine blk_far ?_ NB324_338.out _; (with_reducible repeat (first | apply blk_drewN | apply blk_drew | apply blk_alloc)); refine blk_far ?_ NB324_338.out _; (with_reducible repeat (first | apply blk_drewN | apply blk_drew | apply blk_alloc)); refine blk_far ?_ NB324_338.out _; (with_reducible repeat (first | apply blk_drewN | apply blk_drew | apply blk_alloc)); refine blk_far ?_ NB324_338.out _; exact rb BK324.out) Tryz.underlying26 rfl (by kernel_rfl) (.tmp .nil)))) rfl ?_
  exact ⟨_, ew, by first | exact Kd.R_nil _ _ _ _ _ | exact Kd.R_nil _ _ _ 0 _ | exact Kd.N_nil _ _ _ _ _ | exact Kd.V_nil _ _ _ _ _ | exact Kd.Q_nil _ _ _ _ _ | exact Kd.S_nil _ _ _ _ _, bs2 GE324.out GE338.out⟩
 rw [if_pos c7] at H
 have c7b0 := beq_iff_eq.mpr c7
 have c7b1 := bne_eq_false_iff_eq.mpr c7
 clear c7
 have HC8 := am H
 clear H
 go_enter Tryz.func6, Tryz.ntmps6
 go_upto_region 4 with (first | ((refine gate_dst (N := 11) rfl ?_); refine bx (N := 11) (cs := #[.int .i64 0, .int .i64 0]) (t := 26) ?_; intro gb324 hg w9 hbox hb; have BK324 := am (hbox); have GW324 := am (gw hg (below_size bl)); have GE324 := am (gw hg (below_size bl)); replace HB := am (below_step bl hb); clear hb hbox hg) | ((refine gate_callee (f := 16) rfl ?_); refine gl (some 21) Tryz.func16 #[.string a0, .slice A1 l1.length c1] ?_; (with_reducible refine (timer_find.calls k a0 _ _ l1 t325 t326 t329 t332 t335 t336 t337 _ ?side1 ?side2 ?side3 A6.out).mono ?_); (case side1 => exact cc (Kd.C_below HR1.out HB.out)); (case side2 => exact HC1.out); (case side3 => exact GW.below HG.out (bs1 GE324.out)); rintro e w10 ⟨v327, v330, v333, rfl, ho0, ho1, ho2, hb⟩; refine ⟨_, rfl, ?_⟩; have HO328 := am (Kd.R_lower ho0 (below_size (bs1 GE324.out))); have HO331 := am (Kd.R_lower ho1 (below_size (bs1 GE324.out))); have HO334 := am (Kd.R_lower ho2 (below_size (bs1 GE324.out))); replace BK324 := am (blk_below (rb BK324.out) hb); replace HB := am (below_step (bs1 GE324.out) hb); (try clear hb); (try clear hb2); (try clear hk); (try clear hi); (try clear ho0); (try clear ho1); (try clear ho2)) | ((refine gate_dst (N := 13) rfl ?_); refine bx (N := 13) (cs := #[.string (⟨#[]⟩ : ByteArray), .slice none 0 0, .slice none 0 0, .slice none 0 0, .int .i64 0, .int .i64 0]) (t := 47) ?_; intro gb338 hg w11 hbox hb; replace HO328 := am (Kd.R_below (rr HO328.out) hb); replace HO331 := am (Kd.R_below (rr HO331.out) hb); replace HO334 := am (Kd.R_below (rr HO334.out) hb); have BK338 := am (hbox); have GW338 := am (gw hg (below_size (bs1 GE324.out))); have GE338 := am (gw hg (below_size (bs1 GE324.out))); replace HB := am (below_step (bs1 GE324.out) hb); have NB324_338 := am ((by rw [hg]; exact Nat.ne_of_lt (blk_lt (rb BK324.out)) : gb324 ≠ gb338)); have NB338_324 := am ((by rw [hg]; exact Nat.ne_of_gt (blk_lt (rb BK324.out)) : gb338 ≠ gb324)); replace BK324 := am (blk_below (rb BK324.out) hb); clear hb hbox hg; have hnb12 := NB338_324.out; have hnc12 := NB324_338.out; obtain ⟨hcz13_0, hcz13_1, hcz13_2, hcz13_3, hcz13_4, hcz13_5, hfz13_0, hfz13_1, hfz13_2, hfz13_3, hfz13_4, hfz13_5⟩ := bz6 BK338.out; obtain ⟨Ao14, co14, eo14⟩ := Kd.R_slice HO328.out; subst eo14; obtain ⟨Ao15, co15, eo15⟩ := Kd.R_slice HO331.out; subst eo15; obtain ⟨Ao16, co16, eo16⟩ := Kd.R_slice HO334.out; subst eo16))
 (try simp only [ap, sa, sb, sc])
 go_cut [47] (fun v47 wc => ∃ (kq : Nat) (x47_7 : Bool), v47 = .bool x47_7 ∧ Aside0 (timer_Step.j0 kq a0 l1 l2 l3 a4 x47_7 t325 t326 t329 t332 t335 t336 = some (r1, r2, r3, r4)) ∧ Aside0 (kq ≤ k) ∧ Aside0 (Kd.R k61 61 wc w.heap.size (fun _ => True) (.slice Ao14 t326.length co14) t326) ∧ Aside0 (Kd.R k64 64 wc w.heap.size (fun k_ => some k_ ≠ ((.slice Ao16 t332.length co16) : Value).ownBlock) (.slice Ao15 t329.length co15) t329) ∧ Aside0 (Kd.R k64 64 wc w.heap.size (fun k_ => some k_ ≠ ((.slice Ao15 t329.length co15) : Value).ownBlock) (.slice Ao16 t332.length co16) t332) ∧ Aside0 (wc.heap[gb324]? = some (.cells #[.int .i64 0, .int .i64 0] 26 (0, 0))) ∧ Aside0 (wc.heap[gb338]? = some (.cells #[.string t325, (.slice Ao14 t326.length co14), (.slice Ao15 t329.length co15), (.slice Ao16 t332.length co16), .int .i64 t335, .int .i64 t336] 47 (0, 0))) ∧ Aside0 (Below w.heap.size w wc))
 case first =>
  have H := HC8.out
  clear HC8
  by_cases c17 : (l2.length : Int) = t335
  rotate_left
  ·
   rw [if_neg c17] at H
   have c17b0 := beq_eq_false_iff_ne.mpr c17
   have c17b1 := bne_iff_ne.mpr c17
   (first | rw [c17b0] | (simp only [i64_w, i32_w]; rw [c17b0]) | skip)
   have H' := am H
   clear H
   have hnb30 := NB338_324.out
   have hnc30 := NB324_338.out
   obtain ⟨hcz31_0, hcz31_1, hcz31_2, hcz31_3, hcz31_4, hcz31_5, hfz31_0, hfz31_1, hfz31_2, hfz31_3, hfz31_4, hfz31_5⟩ := bz6 BK338.out
   go_wp2
   go_meet
   case rel => exact ⟨_, (true), (by first | rfl | (simp; done) | (simp [*]; done)), H', ⟨by first | omega | exact Nat.le_refl _⟩, ⟨rr (Kd.R_mono (Kd.R_far (p := ⟨gb338, 5, none⟩) (Kd.R_far (p := ⟨gb338, 4, none⟩) (Kd.R_far (p := ⟨gb338, 3, none⟩) (Kd.R_far (p := ⟨gb338, 2, none⟩) (Kd.R_far (p := ⟨gb338, 1, none⟩) (Kd.R_far (p := ⟨gb338, 0, none⟩) (Kd.R_types HO328.out BK338.out (by decide)) (fun _ hk => hk.2) (.string t325)) (fun _ hk => hk.2) (.slice Ao14 t326.length co14)) (fun _ hk => hk.2) (.slice Ao15 t329.length co15)) (fun _ hk => hk.2) (.slice Ao16 t332.length co16)) (fun _ hk => hk.2) (.int .i64 t335)) (fun _ hk => hk.2) (.int .i64 t336)) (fun _ hk => trivial))⟩, ⟨rr (Kd.R_mono (Kd.R_far (p := ⟨gb338, 5, none⟩) (Kd.R_far (p := ⟨gb338, 4, none⟩) (Kd.R_far (p := ⟨gb338, 3, none⟩) (Kd.R_far (p := ⟨gb338, 2, none⟩) (Kd.R_far (p := ⟨gb338, 1, none⟩) (Kd.R_far (p := ⟨gb338, 0, none⟩) (Kd.R_types HO331.out BK338.out (by decide)) (fun _ hk => hk.2) (.string t325)) (fun _ hk => hk.2) (.slice Ao14 t326.length co14)) (fun _ hk => hk.2) (.slice Ao15 t329.length co15)) (fun _ hk => hk.2) (.slice Ao16 t332.length co16)) (fun _ hk => hk.2) (.int .i64 t335)) (fun _ hk => hk.2) (.int .i64 t336)) (fun _ hk => hk.1))⟩, ⟨rr (Kd.R_mono (Kd.R_far (p := ⟨gb338, 5, none⟩) (Kd.R_far (p := ⟨gb338, 4, none⟩) (Kd.R_far (p := ⟨gb338, 3, none⟩) (Kd.R_far (p := ⟨gb338, 2, none⟩) (Kd.R_far (p := ⟨gb338, 1, none⟩) (Kd.R_far (p := ⟨gb338, 0, none⟩) (Kd.R_types HO334.out BK338.out (by decide)) (fun _ hk => hk.2) (.string t325)) (fun _ hk => hk.2) (.slice Ao14 t326.length co14)) (fun _ hk => hk.2) (.slice Ao15 t329.length co15)) (fun _ hk => hk.2) (.slice Ao16 t332.length co16)) (fun _ hk => hk.2) (.int .i64 t335)) (fun _ hk => hk.2) (.int .i64 t336)) (fun _ hk => hk.1))⟩, ⟨by (with_reducible repeat (first | apply blk_drewN | apply blk_drew | apply blk_alloc)); refine blk_far ?_ NB324_338.out _; (with_reducible repeat (first | apply blk_drewN | apply blk_drew | apply blk_alloc)); refine blk_far ?_ NB324_338.out _; (with_reducible repeat (first | apply blk_drewN | apply blk_drew | apply blk_alloc)); refine blk_far ?_ NB324_338.out _; (with_reducible repeat (first | apply blk_drewN | apply blk_drew | apply blk_alloc)); refine blk_far ?_ NB324_338.out _; (with_reducible repeat (first | apply blk_drewN | apply blk_drew | apply blk_alloc)); refine blk_far ?_ NB324_338.out _; (with_reducible repeat (first | apply blk_drewN | apply blk_drew | apply blk_alloc)); refine blk_far ?_ NB324_338.out _; exact rb BK324.out⟩, ⟨by refine rb ?_; refine blk_put (cs := #[.string t325, .slice Ao14 t326.length co14, .slice Ao15 t329.length co15, .slice Ao16 t332.length co16, .int .i64 t335, .int .i64 0]) ?_ 5 _ rfl; refine rb ?_; refine blk_put (cs := #[.string t325, .slice Ao14 t326.length co14, .slice Ao15 t329.length co15, .slice Ao16 t332.length co16, .int .i64 0, .int .i64 0]) ?_ 4 _ rfl; refine rb ?_; refine blk_put (cs := #[.string t325, .slice Ao14 t326.length co14, .slice Ao15 t329.length co15, .slice none 0 0, .int .i64 0, .int .i64 0]) ?_ 3 _ rfl; refine rb ?_; refine blk_put (cs := #[.string t325, .slice Ao14 t326.length co14, .slice none 0 0, .slice none 0 0, .int .i64 0, .int .i64 0]) ?_ 2 _ rfl; refine rb ?_; refine blk_put (cs := #[.string t325, .slice none 0 0, .slice none 0 0, .slice none 0 0, .int .i64 0, .int .i64 0]) ?_ 1 _ rfl; refine rb ?_; refine blk_put (cs := #[.string (⟨#[]⟩ : ByteArray), .slice none 0 0, .slice none 0 0, .slice none 0 0, .int .i64 0, .int .i64 0]) ?_ 0 _ rfl; exact rb BK338.out⟩, ⟨bs2 GE324.out GE338.out⟩⟩
  rw [if_pos c17] at H
  have c17b0 := beq_iff_eq.mpr c17
  have c17b1 := bne_eq_false_iff_eq.mpr c17
  clear c17
  (first | rw [c17b0] | (simp only [i64_w, i32_w]; rw [c17b0]) | skip)
  obtain ⟨t339, A18, H⟩ := Option.bind_eq_some_iff.mp H
  (try dsimp only at H)
  replace A18 := am A18
  by_cases c19 : t339 = true
  rotate_left
  ·
   replace c19 := Bool.eq_false_iff.mpr c19
   subst c19
   rw [if_neg (show ¬ (false = true) by decide)] at H
   have H' := am H
   clear H
   have hnb27 := NB338_324.out
   have hnc27 := NB324_338.out
   obtain ⟨hcz28_0, hcz28_1, hcz28_2, hcz28_3, hcz28_4, hcz28_5, hfz28_0, hfz28_1, hfz28_2, hfz28_3, hfz28_4, hfz28_5⟩ := bz6 BK338.out
   go_wp2_with (first | (go_at_call 17; (with_reducible refine (timer_possible.calls a0 _ _ l1 _ _ l2 false _ ?side1 ?side2 ?side3 ?side4 A18.out).mono ?_); (case side1 => exact Kd.C_below HR1.out (bs2 GE324.out GE338.out)); (case side2 => exact HC1.out); (case side3 => exact Kd.C_below HR2.out (bs2 GE324.out GE338.out)); (case side4 => exact HC2.out); rintro e w29 ⟨rfl, hb⟩; replace HO328 := am (Kd.R_below (rr ((Kd.R_mono (Kd.R_far (p := ⟨gb338, 5, none⟩) (Kd.R_far (p := ⟨gb338, 4, none⟩) (Kd.R_far (p := ⟨gb338, 3, none⟩) (Kd.R_far (p := ⟨gb338, 2, none⟩) (Kd.R_far (p := ⟨gb338, 1, none⟩) (Kd.R_far (p := ⟨gb338, 0, none⟩) (Kd.R_types HO328.out BK338.out (by decide)) (fun _ hk => hk.2) (.string t325)) (fun _ hk => hk.2) (.slice Ao14 t326.length co14)) (fun _ hk => hk.2) (.slice Ao15 t329.length co15)) (fun _ hk => hk.2) (.slice Ao16 t332.length co16)) (fun _ hk => hk.2) (.int .i64 t335)) (fun _ hk => hk.2) (.int .i64 t336)) (fun _ h_ => h_.1)))) hb); replace HO331 := am (Kd.R_below (rr ((Kd.R_mono (Kd.R_far (p := ⟨gb338, 5, none⟩) (Kd.R_far (p := ⟨gb338, 4, none⟩) (Kd.R_far (p := ⟨gb338, 3, none⟩) (Kd.R_far (p := ⟨gb338, 2, none⟩) (Kd.R_far (p := ⟨gb338, 1, none⟩) (Kd.R_far (p := ⟨gb338, 0, none⟩) (Kd.R_types HO331.out BK338.out (by decide)) (fun _ hk => hk.2) (.string t325)) (fun _ hk => hk.2) (.slice Ao14 t326.length co14)) (fun _ hk => hk.2) (.slice Ao15 t329.length co15)) (fun _ hk => hk.2) (.slice Ao16 t332.length co16)) (fun _ hk => hk.2) (.int .i64 t335)) (fun _ hk => hk.2) (.int .i64 t336)) (fun _ h_ => h_.1)))) hb); replace HO334 := am (Kd.R_below (rr ((Kd.R_mono (Kd.R_far (p := ⟨gb338, 5, none⟩) (Kd.R_far (p := ⟨gb338, 4, none⟩) (Kd.R_far (p := ⟨gb338, 3, none⟩) (Kd.R_far (p := ⟨gb338, 2, none⟩) (Kd.R_far (p := ⟨gb338, 1, none⟩) (Kd.R_far (p := ⟨gb338, 0, none⟩) (Kd.R_types HO334.out BK338.out (by decide)) (fun _ hk => hk.2) (.string t325)) (fun _ hk => hk.2) (.slice Ao14 t326.length co14)) (fun _ hk => hk.2) (.slice Ao15 t329.length co15)) (fun _ hk => hk.2) (.slice Ao16 t332.length co16)) (fun _ hk => hk.2) (.int .i64 t335)) (fun _ hk => hk.2) (.int .i64 t336)) (fun _ h_ => h_.1)))) hb); replace BK324 := am (blk_below (g := gb324) (o := .cells #[.int .i64 0, .int .i64 0] 26 (0, 0)) (by (with_reducible repeat (first | apply blk_drewN | apply blk_drew | apply blk_alloc)); refine blk_far ?_ NB324_338.out _; (with_reducible repeat (first | apply blk_drewN | apply blk_drew | apply blk_alloc)); refine blk_far ?_ NB324_338.out _; (with_reducible repeat (first | apply blk_drewN | apply blk_drew | apply blk_alloc)); refine blk_far ?_ NB324_338.out _; (with_reducible repeat (first | apply blk_drewN | apply blk_drew | apply blk_alloc)); refine blk_far ?_ NB324_338.out _; (with_reducible repeat (first | apply blk_drewN | apply blk_drew | apply blk_alloc)); refine blk_far ?_ NB324_338.out _; (with_reducible repeat (first | apply blk_drewN | apply blk_drew | apply blk_alloc)); refine blk_far ?_ NB324_338.out _; exact rb BK324.out) hb); replace BK338 := am (blk_below (g := gb338) (o := .cells #[.string t325, .slice Ao14 t326.length co14, .slice Ao15 t329.length co15, .slice Ao16 t332.length co16, .int .i64 t335, .int .i64 t336] 47 (0, 0)) (by refine rb ?_; refine blk_put (cs := #[.string t325, .slice Ao14 t326.length co14, .slice Ao15 t329.length co15, .slice Ao16 t332.length co16, .int .i64 t335, .int .i64 0]) ?_ 5 _ rfl; refine rb ?_; refine blk_put (cs := #[.string t325, .slice Ao14 t326.length co14, .slice Ao15 t329.length co15, .slice Ao16 t332.length co16, .int .i64 0, .int .i64 0]) ?_ 4 _ rfl; refine rb ?_; refine blk_put (cs := #[.string t325, .slice Ao14 t326.length co14, .slice Ao15 t329.length co15, .slice none 0 0, .int .i64 0, .int .i64 0]) ?_ 3 _ rfl; refine rb ?_; refine blk_put (cs := #[.string t325, .slice Ao14 t326.length co14, .slice none 0 0, .slice none 0 0, .int .i64 0, .int .i64 0]) ?_ 2 _ rfl; refine rb ?_; refine blk_put (cs := #[.string t325, .slice none 0 0, .slice none 0 0, .slice none 0 0, .int .i64 0, .int .i64 0]) ?_ 1 _ rfl; refine rb ?_; refine blk_put (cs := #[.string (⟨#[]⟩ : ByteArray), .slice none 0 0, .slice none 0 0, .slice none 0 0, .int .i64 0, .int .i64 0]) ?_ 0 _ rfl; exact rb BK338.out) hb); replace HB := am (below_step (bs2 GE324.out GE338.out) hb); (try clear hb); (try clear hb2); (try clear hk); (try clear hi)))
   go_meet
   case rel => exact ⟨_, (true), (by first | rfl | (simp; done) | (simp [*]; done)), H', ⟨by first | omega | exact Nat.le_refl _⟩, ⟨rr HO328.out⟩, ⟨rr HO331.out⟩, ⟨rr HO334.out⟩, ⟨rb BK324.out⟩, ⟨rb BK338.out⟩, ⟨bs2 GE324.out GE338.out⟩⟩
  subst c19
  rw [if_pos rfl] at H
  by_cases c20 : a4 < 1
  ·
   rw [if_pos c20] at H
   have c20b0 := decide_eq_true c20
   clear c20
   have H' := am H
   clear H
   have hnb21 := NB338_324.out
   have hnc21 := NB324_338.out
   obtain ⟨hcz22_0, hcz22_1, hcz22_2, hcz22_3, hcz22_4, hcz22_5, hfz22_0, hfz22_1, hfz22_2, hfz22_3, hfz22_4, hfz22_5⟩ := bz6 BK338.out
   go_wp2_with (first | (go_at_call 17; (with_reducible refine (timer_possible.calls a0 _ _ l1 _ _ l2 true _ ?side1 ?side2 ?side3 ?side4 A18.out).mono ?_); (case side1 => exact Kd.C_below HR1.out (bs2 GE324.out GE338.out)); (case side2 => exact HC1.out); (case side3 => exact Kd.C_below HR2.out (bs2 GE324.out GE338.out)); (case side4 => exact HC2.out); rintro e w23 ⟨rfl, hb⟩; replace HO328 := am (Kd.R_below (rr ((Kd.R_mono (Kd.R_far (p := ⟨gb338, 5, none⟩) (Kd.R_far (p := ⟨gb338, 4, none⟩) (Kd.R_far (p := ⟨gb338, 3, none⟩) (Kd.R_far (p := ⟨gb338, 2, none⟩) (Kd.R_far (p := ⟨gb338, 1, none⟩) (Kd.R_far (p := ⟨gb338, 0, none⟩) (Kd.R_types HO328.out BK338.out (by decide)) (fun _ hk => hk.2) (.string t325)) (fun _ hk => hk.2) (.slice Ao14 t326.length co14)) (fun _ hk => hk.2) (.slice Ao15 t329.length co15)) (fun _ hk => hk.2) (.slice Ao16 t332.length co16)) (fun _ hk => hk.2) (.int .i64 t335)) (fun _ hk => hk.2) (.int .i64 t336)) (fun _ h_ => h_.1)))) hb); replace HO331 := am (Kd.R_below (rr ((Kd.R_mono (Kd.R_far (p := ⟨gb338, 5, none⟩) (Kd.R_far (p := ⟨gb338, 4, none⟩) (Kd.R_far (p := ⟨gb338, 3, none⟩) (Kd.R_far (p := ⟨gb338, 2, none⟩) (Kd.R_far (p := ⟨gb338, 1, none⟩) (Kd.R_far (p := ⟨gb338, 0, none⟩) (Kd.R_types HO331.out BK338.out (by decide)) (fun _ hk => hk.2) (.string t325)) (fun _ hk => hk.2) (.slice Ao14 t326.length co14)) (fun _ hk => hk.2) (.slice Ao15 t329.length co15)) (fun _ hk => hk.2) (.slice Ao16 t332.length co16)) (fun _ hk => hk.2) (.int .i64 t335)) (fun _ hk => hk.2) (.int .i64 t336)) (fun _ h_ => h_.1)))) hb); replace HO334 := am (Kd.R_below (rr ((Kd.R_mono (Kd.R_far (p := ⟨gb338, 5, none⟩) (Kd.R_far (p := ⟨gb338, 4, none⟩) (Kd.R_far (p := ⟨gb338, 3, none⟩) (Kd.R_far (p := ⟨gb338, 2, none⟩) (Kd.R_far (p := ⟨gb338, 1, none⟩) (Kd.R_far (p := ⟨gb338, 0, none⟩) (Kd.R_types HO334.out BK338.out (by decide)) (fun _ hk => hk.2) (.string t325)) (fun _ hk => hk.2) (.slice Ao14 t326.length co14)) (fun _ hk => hk.2) (.slice Ao15 t329.length co15)) (fun _ hk => hk.2) (.slice Ao16 t332.length co16)) (fun _ hk => hk.2) (.int .i64 t335)) (fun _ hk => hk.2) (.int .i64 t336)) (fun _ h_ => h_.1)))) hb); replace BK324 := am (blk_below (g := gb324) (o := .cells #[.int .i64 0, .int .i64 0] 26 (0, 0)) (by (with_reducible repeat (first | apply blk_drewN | apply blk_drew | apply blk_alloc)); refine blk_far ?_ NB324_338.out _; (with_reducible repeat (first | apply blk_drewN | apply blk_drew | apply blk_alloc)); refine blk_far ?_ NB324_338.out _; (with_reducible repeat (first | apply blk_drewN | apply blk_drew | apply blk_alloc)); refine blk_far ?_ NB324_338.out _; (with_reducible repeat (first | apply blk_drewN | apply blk_drew | apply blk_alloc)); refine blk_far ?_ NB324_338.out _; (with_reducible repeat (first | apply blk_drewN | apply blk_drew | apply blk_alloc)); refine blk_far ?_ NB324_338.out _; (with_reducible repeat (first | apply blk_drewN | apply blk_drew | apply blk_alloc)); refine blk_far ?_ NB324_338.out _; exact rb BK324.out) hb); replace BK338 := am (blk_below (g := gb338) (o := .cells #[.string t325, .slice Ao14 t326.length co14, .slice Ao15 t329.length co15, .slice Ao16 t332.length co16, .int .i64 t335, .int .i64 t336] 47 (0, 0)) (by refine rb ?_; refine blk_put (cs := #[.string t325, .slice Ao14 t326.length co14, .slice Ao15 t329.length co15, .slice Ao16 t332.length co16, .int .i64 t335, .int .i64 0]) ?_ 5 _ rfl; refine rb ?_; refine blk_put (cs := #[.string t325, .slice Ao14 t326.length co14, .slice Ao15 t329.length co15, .slice Ao16 t332.length co16, .int .i64 0, .int .i64 0]) ?_ 4 _ rfl; refine rb ?_; refine blk_put (cs := #[.string t325, .slice Ao14 t326.length co14, .slice Ao15 t329.length co15, .slice none 0 0, .int .i64 0, .int .i64 0]) ?_ 3 _ rfl; refine rb ?_; refine blk_put (cs := #[.string t325, .slice Ao14 t326.length co14, .slice none 0 0, .slice none 0 0, .int .i64 0, .int .i64 0]) ?_ 2 _ rfl; refine rb ?_; refine blk_put (cs := #[.string t325, .slice none 0 0, .slice none 0 0, .slice none 0 0, .int .i64 0, .int .i64 0]) ?_ 1 _ rfl; refine rb ?_; refine blk_put (cs := #[.string (⟨#[]⟩ : ByteArray), .slice none 0 0, .slice none 0 0, .slice none 0 0, .int .i64 0, .int .i64 0]) ?_ 0 _ rfl; exact rb BK338.out) hb); replace HB := am (below_step (bs2 GE324.out GE338.out) hb); (try clear hb); (try clear hb2); (try clear hk); (try clear hi)))
   go_meet
   case rel => exact ⟨_, (true), (by first | rfl | (simp; done) | (simp [*]; done)), H', ⟨by first | omega | exact Nat.le_refl _⟩, ⟨rr HO328.out⟩, ⟨rr HO331.out⟩, ⟨rr HO334.out⟩, ⟨rb BK324.out⟩, ⟨rb BK338.out⟩, ⟨bs2 GE324.out GE338.out⟩⟩
  rw [if_neg c20] at H
  have c20b0 := decide_eq_false c20
  clear c20
  have H' := am H
  clear H
  have hnb24 := NB338_324.out
  have hnc24 := NB324_338.out
  obtain ⟨hcz25_0, hcz25_1, hcz25_2, hcz25_3, hcz25_4, hcz25_5, hfz25_0, hfz25_1, hfz25_2, hfz25_3, hfz25_4, hfz25_5⟩ := bz6 BK338.out
  go_wp2_with (first | (go_at_call 17; (with_reducible refine (timer_possible.calls a0 _ _ l1 _ _ l2 true _ ?side1 ?side2 ?side3 ?side4 A18.out).mono ?_); (case side1 => exact Kd.C_below HR1.out (bs2 GE324.out GE338.out)); (case side2 => exact HC1.out); (case side3 => exact Kd.C_below HR2.out (bs2 GE324.out GE338.out)); (case side4 => exact HC2.out); rintro e w26 ⟨rfl, hb⟩; replace HO328 := am (Kd.R_below (rr ((Kd.R_mono (Kd.R_far (p := ⟨gb338, 5, none⟩) (Kd.R_far (p := ⟨gb338, 4, none⟩) (Kd.R_far (p := ⟨gb338, 3, none⟩) (Kd.R_far (p := ⟨gb338, 2, none⟩) (Kd.R_far (p := ⟨gb338, 1, none⟩) (Kd.R_far (p := ⟨gb338, 0, none⟩) (Kd.R_types HO328.out BK338.out (by decide)) (fun _ hk => hk.2) (.string t325)) (fun _ hk => hk.2) (.slice Ao14 t326.length co14)) (fun _ hk => hk.2) (.slice Ao15 t329.length co15)) (fun _ hk => hk.2) (.slice Ao16 t332.length co16)) (fun _ hk => hk.2) (.int .i64 t335)) (fun _ hk => hk.2) (.int .i64 t336)) (fun _ h_ => h_.1)))) hb); replace HO331 := am (Kd.R_below (rr ((Kd.R_mono (Kd.R_far (p := ⟨gb338, 5, none⟩) (Kd.R_far (p := ⟨gb338, 4, none⟩) (Kd.R_far (p := ⟨gb338, 3, none⟩) (Kd.R_far (p := ⟨gb338, 2, none⟩) (Kd.R_far (p := ⟨gb338, 1, none⟩) (Kd.R_far (p := ⟨gb338, 0, none⟩) (Kd.R_types HO331.out BK338.out (by decide)) (fun _ hk => hk.2) (.string t325)) (fun _ hk => hk.2) (.slice Ao14 t326.length co14)) (fun _ hk => hk.2) (.slice Ao15 t329.length co15)) (fun _ hk => hk.2) (.slice Ao16 t332.length co16)) (fun _ hk => hk.2) (.int .i64 t335)) (fun _ hk => hk.2) (.int .i64 t336)) (fun _ h_ => h_.1)))) hb); replace HO334 := am (Kd.R_below (rr ((Kd.R_mono (Kd.R_far (p := ⟨gb338, 5, none⟩) (Kd.R_far (p := ⟨gb338, 4, none⟩) (Kd.R_far (p := ⟨gb338, 3, none⟩) (Kd.R_far (p := ⟨gb338, 2, none⟩) (Kd.R_far (p := ⟨gb338, 1, none⟩) (Kd.R_far (p := ⟨gb338, 0, none⟩) (Kd.R_types HO334.out BK338.out (by decide)) (fun _ hk => hk.2) (.string t325)) (fun _ hk => hk.2) (.slice Ao14 t326.length co14)) (fun _ hk => hk.2) (.slice Ao15 t329.length co15)) (fun _ hk => hk.2) (.slice Ao16 t332.length co16)) (fun _ hk => hk.2) (.int .i64 t335)) (fun _ hk => hk.2) (.int .i64 t336)) (fun _ h_ => h_.1)))) hb); replace BK324 := am (blk_below (g := gb324) (o := .cells #[.int .i64 0, .int .i64 0] 26 (0, 0)) (by (with_reducible repeat (first | apply blk_drewN | apply blk_drew | apply blk_alloc)); refine blk_far ?_ NB324_338.out _; (with_reducible repeat (first | apply blk_drewN | apply blk_drew | apply blk_alloc)); refine blk_far ?_ NB324_338.out _; (with_reducible repeat (first | apply blk_drewN | apply blk_drew | apply blk_alloc)); refine blk_far ?_ NB324_338.out _; (with_reducible repeat (first | apply blk_drewN | apply blk_drew | apply blk_alloc)); refine blk_far ?_ NB324_338.out _; (with_reducible repeat (first | apply blk_drewN | apply blk_drew | apply blk_alloc)); refine blk_far ?_ NB324_338.out _; (with_reducible repeat (first | apply blk_drewN | apply blk_drew | apply blk_alloc)); refine blk_far ?_ NB324_338.out _; exact rb BK324.out) hb); replace BK338 := am (blk_below (g := gb338) (o := .cells #[.string t325, .slice Ao14 t326.length co14, .slice Ao15 t329.length co15, .slice Ao16 t332.length co16, .int .i64 t335, .int .i64 t336] 47 (0, 0)) (by refine rb ?_; refine blk_put (cs := #[.string t325, .slice Ao14 t326.length co14, .slice Ao15 t329.length co15, .slice Ao16 t332.length co16, .int .i64 t335, .int .i64 0]) ?_ 5 _ rfl; refine rb ?_; refine blk_put (cs := #[.string t325, .slice Ao14 t326.length co14, .slice Ao15 t329.length co15, .slice Ao16 t332.length co16, .int .i64 0, .int .i64 0]) ?_ 4 _ rfl; refine rb ?_; refine blk_put (cs := #[.string t325, .slice Ao14 t326.length co14, .slice Ao15 t329.length co15, .slice none 0 0, .int .i64 0, .int .i64 0]) ?_ 3 _ rfl; refine rb ?_; refine blk_put (cs := #[.string t325, .slice Ao14 t326.length co14, .slice none 0 0, .slice none 0 0, .int .i64 0, .int .i64 0]) ?_ 2 _ rfl; refine rb ?_; refine blk_put (cs := #[.string t325, .slice none 0 0, .slice none 0 0, .slice none 0 0, .int .i64 0, .int .i64 0]) ?_ 1 _ rfl; refine rb ?_; refine blk_put (cs := #[.string (⟨#[]⟩ : ByteArray), .slice none 0 0, .slice none 0 0, .slice none 0 0, .int .i64 0, .int .i64 0]) ?_ 0 _ rfl; exact rb BK338.out) hb); replace HB := am (below_step (bs2 GE324.out GE338.out) hb); (try clear hb); (try clear hb2); (try clear hk); (try clear hi)))
  go_meet
  case rel => exact ⟨_, (decide (a4 > 86400)), (by first | rfl | (simp; done) | (simp [*]; done)), H', ⟨by first | omega | exact Nat.le_refl _⟩, ⟨rr HO328.out⟩, ⟨rr HO331.out⟩, ⟨rr HO334.out⟩, ⟨rb BK324.out⟩, ⟨rb BK338.out⟩, ⟨bs2 GE324.out GE338.out⟩⟩
 clear HC8
 obtain ⟨kq, x47_7, rfl, HA, HJ7, HO_339001, HO_339002, HO_339003, BK324, BK338, HB⟩ := hcut
 cases kq with
 | zero => exact absurd HA.out (by simp [timer_Step.j0])
 | succ kj7 =>
  have H := HA.out
  clear HA
  simp only [timer_Step.j0] at H
  by_cases c32 : x47_7 = true
  ·
   subst c32
   rw [if_pos rfl] at H
   simp only [Option.some.injEq, Prod.mk.injEq] at H
   obtain ⟨rfl, rfl, rfl, rfl⟩ := H
   have hnb33 := NB324_338.out
   have hnc33 := NB338_324.out
   obtain ⟨hcz34_0, hcz34_1, hfz34_0, hfz34_1⟩ := bz2 BK324.out
   go_wp2
   refine bodyPost_ret (results_list (rs := [.tmp 10, .cell 11 26, .tmp 12]) rfl (by simp) (.tmp (.cell gb324 26 #[.int .i64 0, .int .i64 0] (0, 0) _ rfl (by refine rb ?_; refine blk_put (cs := #[.int .i64 0, .int .i64 0]) ?_ 1 _ rfl; refine rb ?_; refine blk_put (cs := #[.int .i64 0, .int .i64 0]) ?_ 0 _ rfl; exact rb BK324.out) Tryz.underlying26 rfl (by kernel_rfl) (.tmp .nil)))) rfl ?_
   exact ⟨_, ew, by first | exact Kd.R_nil _ _ _ _ _ | exact Kd.R_nil _ _ _ 0 _ | exact Kd.N_nil _ _ _ _ _ | exact Kd.V_nil _ _ _ _ _ | exact Kd.Q_nil _ _ _ _ _ | exact Kd.S_nil _ _ _ _ _, bs2 GE324.out GE338.out⟩
  replace c32 := Bool.eq_false_iff.mpr c32
  subst c32
  rw [if_neg (show ¬ (false = true) by decide)] at H
  obtain ⟨t340, A35, H⟩ := Option.bind_eq_some_iff.mp H
  (try dsimp only at H)
  replace A35 := am A35
  by_cases c36 : t340 = 0
  rotate_left
  ·
   rw [if_neg c36] at H
   have c36b0 := beq_eq_false_iff_ne.mpr c36
   have c36b1 := bne_iff_ne.mpr c36
   simp only [Option.some.injEq, Prod.mk.injEq] at H
   obtain ⟨rfl, rfl, rfl, rfl⟩ := H
   have hnb57 := NB338_324.out
   have hnc57 := NB324_338.out
   obtain ⟨hcz58_0, hcz58_1, hcz58_2, hcz58_3, hcz58_4, hcz58_5, hfz58_0, hfz58_1, hfz58_2, hfz58_3, hfz58_4, hfz58_5⟩ := bz6 BK338.out
   go_wp2_with (first | ((refine gate_callee (f := 18) rfl ?_); refine gl (some 51) Tryz.func18 #[.agg #[.string t325, .slice Ao14 t326.length co14, .slice Ao15 t329.length co15, .slice Ao16 t332.length co16, .int .i64 t335, .int .i64 t336], .slice A3 l3.length c3] ?_; (with_reducible refine (timer_inputs.calls kj7 t325 _ _ t326 _ _ t329 _ _ t332 t335 t336 _ _ l3 t340 _ ?side1 ?side2 ?side3 ?side4 ?side5 ?side6 ?side7 ?side8 A35.out).mono ?_); (case side1 => repeat (first | exact (Kd.R_reads' HO_339001.out).2.2 | (with_reducible refine Kd.C_alloc ?_ _) | (with_reducible refine Kd.C_drewN ?_ _) | (with_reducible refine Kd.C_drew ?_))); (case side2 => exact (Kd.R_reads' HO_339001.out).2.1); (case side3 => repeat (first | exact (Kd.R_reads' HO_339002.out).2.2 | (with_reducible refine Kd.C_alloc ?_ _) | (with_reducible refine Kd.C_drewN ?_ _) | (with_reducible refine Kd.C_drew ?_))); (case side4 => exact (Kd.R_reads' HO_339002.out).2.1); (case side5 => repeat (first | exact (Kd.R_reads' HO_339003.out).2.2 | (with_reducible refine Kd.C_alloc ?_ _) | (with_reducible refine Kd.C_drewN ?_ _) | (with_reducible refine Kd.C_drew ?_))); (case side6 => exact (Kd.R_reads' HO_339003.out).2.1); (case side7 => exact cc (Kd.C_below HR3.out HB.out)); (case side8 => exact HC3.out); rintro e w59 ⟨rfl, hb⟩; refine ⟨_, rfl, ?_⟩; replace HO_339001 := am (Kd.R_below (rr HO_339001.out) hb); replace HO_339002 := am (Kd.R_below (rr HO_339002.out) hb); replace HO_339003 := am (Kd.R_below (rr HO_339003.out) hb); replace BK324 := am (blk_below (rb BK324.out) hb); replace BK338 := am (blk_below (rb BK338.out) hb); replace HB := am (below_step (bs2 GE324.out GE338.out) hb); (try clear hb); (try clear hb2); (try clear hk); (try clear hi); obtain ⟨hcz60_0, hcz60_1, hfz60_0, hfz60_1⟩ := bz2 BK324.out))
   refine bodyPost_ret (results_list (rs := [.tmp 10, .cell 11 26, .tmp 12]) rfl (by simp) (.tmp (.cell gb324 26 #[.int .i64 0, .int .i64 0] (0, 0) _ rfl (by refine rb ?_; refine blk_put (cs := #[.int .i64 0, .int .i64 0]) ?_ 1 _ rfl; refine rb ?_; refine blk_put (cs := #[.int .i64 0, .int .i64 0]) ?_ 0 _ rfl; exact rb BK324.out) Tryz.underlying26 rfl (by kernel_rfl) (.tmp .nil)))) rfl ?_
   exact ⟨_, ew, by first | exact Kd.R_nil _ _ _ _ _ | exact Kd.R_nil _ _ _ 0 _ | exact Kd.N_nil _ _ _ _ _ | exact Kd.V_nil _ _ _ _ _ | exact Kd.Q_nil _ _ _ _ _ | exact Kd.S_nil _ _ _ _ _, bs2 GE324.out GE338.out⟩
  rw [if_pos c36] at H
  have c36b0 := beq_iff_eq.mpr c36
  have c36b1 := bne_eq_false_iff_eq.mpr c36
  clear c36
  have c37 := oi H; rw [if_pos c37] at H
  have c37b0 := eq_true c37
  have c37b1 := decide_eq_true c37
  clear c37
  have c38 := oi H; rw [if_pos c38] at H
  have c38b0 := eq_true c38
  have c38b1 := decide_eq_true c38
  clear c38
  obtain ⟨y341, hy341⟩ : ∃ y_ : List Int, y_ = (List.replicate ((l2.length : Int) : Int).toNat 0) := ⟨_, rfl⟩
  (try rw [← hy341] at H); (try rw [Option.bind_some] at H); (try dsimp only at H)
  have Ny341 := am hy341
  clear hy341
  have c39 := oi H; rw [if_pos c39] at H
  have LMc39 := am c39
  clear c39
  obtain ⟨y344, hy344⟩ : ∃ y_ : List Int, y_ = (l2) := ⟨_, rfl⟩
  (try rw [← hy344] at H); (try rw [Option.bind_some] at H); (try dsimp only at H)
  have Ny344 := am hy344
  clear hy344
  obtain ⟨⟨t347, t348, t349⟩, A40, H⟩ := Option.bind_eq_some_iff.mp H
  (try dsimp only at H)
  replace A40 := am A40
  simp only [Option.some.injEq, Prod.mk.injEq] at H
  obtain ⟨rfl, rfl, rfl, rfl⟩ := H
  have hnb41 := NB338_324.out
  have hnc41 := NB324_338.out
  obtain ⟨hcz42_0, hcz42_1, hcz42_2, hcz42_3, hcz42_4, hcz42_5, hfz42_0, hfz42_1, hfz42_2, hfz42_3, hfz42_4, hfz42_5⟩ := bz6 BK338.out
  try go_wp2_with (first | ((refine gate_callee (f := 18) rfl ?_); refine gl (some 51) Tryz.func18 #[.agg #[.string t325, .slice Ao14 t326.length co14, .slice Ao15 t329.length co15, .slice Ao16 t332.length co16, .int .i64 t335, .int .i64 t336], .slice A3 l3.length c3] ?_; (with_reducible refine (timer_inputs.calls kj7 t325 _ _ t326 _ _ t329 _ _ t332 t335 t336 _ _ l3 t340 _ ?side1 ?side2 ?side3 ?side4 ?side5 ?side6 ?side7 ?side8 A35.out).mono ?_); (case side1 => repeat (first | exact (Kd.R_reads' HO_339001.out).2.2 | (with_reducible refine Kd.C_alloc ?_ _) | (with_reducible refine Kd.C_drewN ?_ _) | (with_reducible refine Kd.C_drew ?_))); (case side2 => exact (Kd.R_reads' HO_339001.out).2.1); (case side3 => repeat (first | exact (Kd.R_reads' HO_339002.out).2.2 | (with_reducible refine Kd.C_alloc ?_ _) | (with_reducible refine Kd.C_drewN ?_ _) | (with_reducible refine Kd.C_drew ?_))); (case side4 => exact (Kd.R_reads' HO_339002.out).2.1); (case side5 => repeat (first | exact (Kd.R_reads' HO_339003.out).2.2 | (with_reducible refine Kd.C_alloc ?_ _) | (with_reducible refine Kd.C_drewN ?_ _) | (with_reducible refine Kd.C_drew ?_))); (case side6 => exact (Kd.R_reads' HO_339003.out).2.1); (case side7 => exact cc (Kd.C_below HR3.out HB.out)); (case side8 => exact HC3.out); rintro e w43 ⟨rfl, hb⟩; refine ⟨_, rfl, ?_⟩; replace HO_339001 := am (Kd.R_below (rr HO_339001.out) hb); replace HO_339002 := am (Kd.R_below (rr HO_339002.out) hb); replace HO_339003 := am (Kd.R_below (rr HO_339003.out) hb); replace BK324 := am (blk_below (rb BK324.out) hb); replace BK338 := am (blk_below (rb BK338.out) hb); replace HB := am (below_step (bs2 GE324.out GE338.out) hb); (try clear hb); (try clear hb2); (try clear hk); (try clear hi)) | ((refine gate_dst (N := 58) rfl ?_); refine Kd.R_make (Kd.int .i64) _ 2 rfl (N := 58) rfl 22 _ _ rfl (l2.length : Int) rfl rfl Tryz.underlying22 (.int .i64 0) 8 info2 rfl (by decide) (by omega) 0 (ok := fun _ => True) (okp := fun _ => True) rfl (fun _ hk => hk) trivial (ode) (Nat.le_trans (Nat.mul_le_mul_right _ (ode : (l2.length : Int).toNat ≤ 35184372088832)) (by omega)) (Below.refl _ _) (Nat.le_refl _) ?_; intro v342 w44 ho45 hb hg_ hnew_; clear hg_ hnew_; (first | rw [← Ny341.out] at ho45 | (simp only [Int.reduceToNat] at ho45; rw [← Ny341.out] at ho45)); replace HO_339001 := am (Kd.R_below (rr HO_339001.out) hb); replace HO_339002 := am (Kd.R_below (rr HO_339002.out) hb); replace HO_339003 := am (Kd.R_below (rr HO_339003.out) hb); have HO343 := am (Kd.R_lower ho45 (below_size (bs2 GE324.out GE338.out))); replace BK324 := am (blk_below (rb BK324.out) hb); replace BK338 := am (blk_below (rb BK338.out) hb); replace HB := am (below_step (bs2 GE324.out GE338.out) hb); clear hb ho45) | ((refine gate_builtin (b := .copy) (xs := #[.tmp 59, .tmp 60]) rfl ?_); skip; refine copy_row (w0 := w) w.heap.size rfl (.tmp 59) (.tmp 60) 22 2 rfl Tryz.underlying22 info2 v342 y341 l2 _ _ _ (fun _ => True) rfl rfl ?aO ?aR ?aL ?aB ?aS ?_; (case aR => exact cc (Kd.C_below HR2.out HB.out)); (case aB => exact (bs2 GE324.out GE338.out)); (case aO => exact (rr HO343.out)); (case aS => exact (below_size (bs2 GE324.out GE338.out))); (case aL => exact LMc39.out); intro v345 w46 hv_ ho hb hg hat; (first | subst hv_ | (cases hv_)); rw [← Ny344.out] at ho; replace HO_339001 := am (Kd.R_over' (rr HO_339001.out) (Kd.R_typed (rr HO343.out)) (by decide) hg); replace HO_339002 := am (Kd.R_over' (rr HO_339002.out) (Kd.R_typed (rr HO343.out)) (by decide) hg); replace HO_339003 := am (Kd.R_over' (rr HO_339003.out) (Kd.R_typed (rr HO343.out)) (by decide) hg); replace BK324 := am (blk_grown (rb BK324.out) hg (Kd.R_ne HO343.out BK324.out (by decide))); replace BK338 := am (blk_grown (rb BK338.out) hg (Kd.R_ne HO343.out BK338.out (by decide))); replace HB := am (hb); have HO346 := am (ho); clear HO343; clear ho hb hg hat; obtain ⟨Ao47, co47, eo47⟩ := Kd.R_slice HO346.out; subst eo47) | ((refine gate_callee (f := 19) rfl ?_); refine gl (some 67) Tryz.func19 #[.string a0, .slice A1 l1.length c1, .slice Ao47 y344.length co47, .slice A3 l3.length c3, .int .i64 a4] ?_; (with_reducible refine (timer_step.calls kj7 a0 _ _ l1 (fun k_ => some k_ = (.slice Ao47 y344.length co47 : Value).ownBlock) (.slice Ao47 y344.length co47) y344 _ _ l3 a4 t347 t348 t349 w _ ?side1 ?side2 ?side3 ?side4 ?side5 ?side6 A40.out).mono ?_); (case side1 => repeat (first | (with_reducible first | exact HB.out | apply below_alloc | apply pw_below_drewN | apply below_drew1 | refine below_set ?_ GE324.out | refine below_set ?_ GE338.out) | exact HB.out)); (case side2 => exact Kd.C_kept_came (Kd.heap_int .i64) HR1.out (bs2 GE324.out GE338.out) (fun k_ hs_ => (fun e_ => Kd.R_base HO346.out k_ e_.symm) hs_)); (case side3 => exact HC1.out); (case side4 => exact Kd.R_tight rfl HO346.out); (case side5 => exact Kd.C_kept_came k26_heap HR3.out (bs2 GE324.out GE338.out) (fun k_ hs_ => (fun e_ => Kd.R_base HO346.out k_ e_.symm) hs_)); (case side6 => exact HC3.out); rintro e w48 ⟨rfl, hy0, hb, hkp⟩; refine ⟨_, rfl, ?_⟩; replace HO_339001 := am (Kd.R_mono (ok' := fun k_ => True) (Kd.R_keptB ((Kd.R_apart' HO_339001.out (Kd.R_typed HO346.out) (by decide))) hkp (fun k_ hk_ hs_ => (hk_.2) hs_)) (fun k_ hk_ => trivial)); replace HO_339002 := am (Kd.R_mono (ok' := fun k_ => some k_ ≠ (.slice Ao16 t332.length co16 : Value).ownBlock) (Kd.R_keptB ((Kd.R_apart' HO_339002.out (Kd.R_typed HO346.out) (by decide))) hkp (fun k_ hk_ hs_ => (hk_.2) hs_)) (fun k_ hk_ => hk_.1.1)); replace HO_339003 := am (Kd.R_mono (ok' := fun k_ => some k_ ≠ (.slice Ao15 t329.length co15 : Value).ownBlock) (Kd.R_keptB ((Kd.R_apart' HO_339003.out (Kd.R_typed HO346.out) (by decide))) hkp (fun k_ hk_ hs_ => (hk_.2) hs_)) (fun k_ hk_ => hk_.1.1)); replace BK324 := am (blk_kept (rb BK324.out) hkp (fun hs_ => (fun e_ => (Kd.R_ne HO346.out BK324.out (by decide)) e_) hs_)); replace BK338 := am (blk_kept (rb BK338.out) hkp (fun hs_ => (fun e_ => (Kd.R_ne HO346.out BK338.out (by decide)) e_) hs_)); replace HO346 := am (Kd.R_reok rfl hy0 (fun k_ e_ => HO346.out.1 k_ e_)); replace HB := am (hb); (try clear hb); (try clear hkp); (try clear hy0)) | ((refine gate_dst (N := 17) rfl ?_); refine bx (N := 17) (cs := #[.int .i64 0, .int .i64 0]) (t := 26) ?_; intro gb350 hg w49 hbox hb; replace HO_339001 := am (Kd.R_below (rr HO_339001.out) hb); replace HO_339002 := am (Kd.R_below (rr HO_339002.out) hb); replace HO_339003 := am (Kd.R_below (rr HO_339003.out) hb); replace HO346 := am (Kd.R_below (rr HO346.out) hb); have BK350 := am (hbox); have GW350 := am (gw hg (below_size (bs2 GE324.out GE338.out))); have GE350 := am (gw hg (below_size (bs2 GE324.out GE338.out))); replace HB := am (below_step (bs2 GE324.out GE338.out) hb); have NB324_350 := am ((by rw [hg]; exact Nat.ne_of_lt (blk_lt (rb BK324.out)) : gb324 ≠ gb350)); have NB350_324 := am ((by rw [hg]; exact Nat.ne_of_gt (blk_lt (rb BK324.out)) : gb350 ≠ gb324)); replace BK324 := am (blk_below (rb BK324.out) hb); have NB338_350 := am ((by rw [hg]; exact Nat.ne_of_lt (blk_lt (rb BK338.out)) : gb338 ≠ gb350)); have NB350_338 := am ((by rw [hg]; exact Nat.ne_of_gt (blk_lt (rb BK338.out)) : gb350 ≠ gb338)); replace BK338 := am (blk_below (rb BK338.out) hb); clear hb hbox hg; have hnb50 := NB350_324.out; have hnc50 := NB324_350.out; have hnb51 := NB350_338.out; have hnc51 := NB338_350.out; obtain ⟨hcz52_0, hcz52_1, hfz52_0, hfz52_1⟩ := bz2 BK350.out))
  have n0_ : Aside0 (Kd.R k61 61 ((w49.setCell ⟨gb350, 0, none⟩ (.int .i64 t347)).setCell ⟨gb350, 1, none⟩ (.int .i64 t348)) w.heap.size (fun _ => True) (.slice Ao14 t326.length co14) t326) := ⟨rr (Kd.R_mono (Kd.R_far (p := ⟨gb350, 1, none⟩) (Kd.R_far (p := ⟨gb350, 0, none⟩) (Kd.R_types HO_339001.out BK350.out (by decide)) (fun _ hk => hk.2) (.int .i64 t347)) (fun _ hk => hk.2) (.int .i64 t348)) (fun _ hk => trivial))⟩
  have n1_ : Aside0 (Kd.R k64 64 ((w49.setCell ⟨gb350, 0, none⟩ (.int .i64 t347)).setCell ⟨gb350, 1, none⟩ (.int .i64 t348)) w.heap.size (fun k_ => some k_ ≠ (.slice Ao16 t332.length co16 : Value).ownBlock) (.slice Ao15 t329.length co15) t329) := ⟨rr (Kd.R_mono (Kd.R_far (p := ⟨gb350, 1, none⟩) (Kd.R_far (p := ⟨gb350, 0, none⟩) (Kd.R_types HO_339002.out BK350.out (by decide)) (fun _ hk => hk.2) (.int .i64 t347)) (fun _ hk => hk.2) (.int .i64 t348)) (fun _ hk => hk.1))⟩
  have n2_ : Aside0 (Kd.R k64 64 ((w49.setCell ⟨gb350, 0, none⟩ (.int .i64 t347)).setCell ⟨gb350, 1, none⟩ (.int .i64 t348)) w.heap.size (fun k_ => some k_ ≠ (.slice Ao15 t329.length co15 : Value).ownBlock) (.slice Ao16 t332.length co16) t332) := ⟨rr (Kd.R_mono (Kd.R_far (p := ⟨gb350, 1, none⟩) (Kd.R_far (p := ⟨gb350, 0, none⟩) (Kd.R_types HO_339003.out BK350.out (by decide)) (fun _ hk => hk.2) (.int .i64 t347)) (fun _ hk => hk.2) (.int .i64 t348)) (fun _ hk => hk.1))⟩
  have n3_ : Aside0 (Kd.R (Kd.int .i64) 2 ((w49.setCell ⟨gb350, 0, none⟩ (.int .i64 t347)).setCell ⟨gb350, 1, none⟩ (.int .i64 t348)) w.heap.size (fun _ => True) (.slice Ao47 y344.length co47) t349) := ⟨rr (Kd.R_mono (Kd.R_far (p := ⟨gb350, 1, none⟩) (Kd.R_far (p := ⟨gb350, 0, none⟩) (Kd.R_types HO346.out BK350.out (by decide)) (fun _ hk => hk.2) (.int .i64 t347)) (fun _ hk => hk.2) (.int .i64 t348)) (fun _ hk => trivial))⟩
  have n4_ : Aside0 (((w49.setCell ⟨gb350, 0, none⟩ (.int .i64 t347)).setCell ⟨gb350, 1, none⟩ (.int .i64 t348)).heap[gb324]? = some (.cells #[.int .i64 0, .int .i64 0] 26 (0, 0))) := ⟨by (with_reducible repeat (first | apply blk_drewN | apply blk_drew | apply blk_alloc)); refine blk_far ?_ NB324_350.out _; (with_reducible repeat (first | apply blk_drewN | apply blk_drew | apply blk_alloc)); refine blk_far ?_ NB324_350.out _; exact rb BK324.out⟩
  have n5_ : Aside0 (((w49.setCell ⟨gb350, 0, none⟩ (.int .i64 t347)).setCell ⟨gb350, 1, none⟩ (.int .i64 t348)).heap[gb338]? = some (.cells #[.string t325, .slice Ao14 t326.length co14, .slice Ao15 t329.length co15, .slice Ao16 t332.length co16, .int .i64 t335, .int .i64 t336] 47 (0, 0))) := ⟨by (with_reducible repeat (first | apply blk_drewN | apply blk_drew | apply blk_alloc)); refine blk_far ?_ NB338_350.out _; (with_reducible repeat (first | apply blk_drewN | apply blk_drew | apply blk_alloc)); refine blk_far ?_ NB338_350.out _; exact rb BK338.out⟩
  have n6_ : Aside0 (((w49.setCell ⟨gb350, 0, none⟩ (.int .i64 t347)).setCell ⟨gb350, 1, none⟩ (.int .i64 t348)).heap[gb350]? = some (.cells #[.int .i64 t347, .int .i64 t348] 26 (0, 0))) := ⟨by refine rb ?_; refine blk_put (cs := #[.int .i64 t347, .int .i64 0]) ?_ 1 _ rfl; refine rb ?_; refine blk_put (cs := #[.int .i64 0, .int .i64 0]) ?_ 0 _ rfl; exact rb BK350.out⟩
  have n7_ : Aside0 (Below w.heap.size w ((w49.setCell ⟨gb350, 0, none⟩ (.int .i64 t347)).setCell ⟨gb350, 1, none⟩ (.int .i64 t348))) := ⟨bs3 GE324.out GE338.out GE350.out⟩
  (try clear HO_339001)
  (try clear HO_339002)
  (try clear HO_339003)
  (try clear HO346)
  (try clear BK324)
  (try clear BK338)
  (try clear BK350)
  (try clear HB)
  generalize ((w49.setCell ⟨gb350, 0, none⟩ (.int .i64 t347)).setCell ⟨gb350, 1, none⟩ (.int .i64 t348)) = w53 at n0_ n1_ n2_ n3_ n4_ n5_ n6_ n7_ ⊢
  have HO_339001 := n0_
  have HO_339002 := n1_
  have HO_339003 := n2_
  have HO346 := n3_
  have BK324 := n4_
  have BK338 := n5_
  have BK350 := n6_
  have HB := n7_
  clear n0_ n1_ n2_ n3_ n4_ n5_ n6_ n7_
  have n0_ := am (Kd.R_drew HO_339001.out)
  have n1_ := am (Kd.R_drew HO_339002.out)
  have n2_ := am (Kd.R_drew HO_339003.out)
  have n3_ := am (Kd.R_drew HO346.out)
  have n4_ := am (blk_drew BK324.out)
  have n5_ := am (blk_drew BK338.out)
  have n6_ := am (blk_drew BK350.out)
  have n7_ := am (below_drew1 HB.out)
  revert n0_ n1_ n2_ n3_ n4_ n5_ n6_ n7_; clear HO_339001 HO_339002 HO_339003 HO346 BK324 BK338 BK350 HB; intro HO_339001 HO_339002 HO_339003 HO346 BK324 BK338 BK350 HB
  refine start_ (n := 5) (S := fun w' => w'.cell? ⟨gb350, 0, none⟩ = some (.int .i64 t347) ∧ w'.cell? ⟨gb350, 1, none⟩ = some (.int .i64 t348)) (ds := []) #[F, F, F, F, F] (by kernel_rfl) rfl rfl ⟨(blk_cell BK350.out 0).trans rfl, (blk_cell BK350.out 1).trans rfl⟩ (fun hHeld => ?_)
  generalize w53.drew = w54 at HO_339001 HO_339002 HO_339003 HO346 BK324 BK338 BK350 HB hHeld ⊢
  refine pure_ (i := 0) (N := some 68) (v := ?_) (a' := ?_) #[T, F, F, F, F] rfl rfl (by kernel_rfl) (fun _ _ _ h => h) (Or.inl ⟨by rfl, ?_⟩) ?_ ?_
  rotate_left
  ·
   intro w'
   go_simp
   with_reducible rfl
  rotate_left
  ·
   simp only [ap, sa, sb, sc, i64_w, i32_w]
   rfl
  refine pure_ (i := 2) (N := some 10) (v := ?_) (a' := ?_) #[T, F, T, F, F] rfl rfl (by kernel_rfl) (fun _ _ _ h => h) (Or.inl ⟨by rfl, ?_⟩) ?_ ?_
  rotate_left
  ·
   intro w'
   go_simp
   with_reducible rfl
  rotate_left
  ·
   simp only [ap, sa, sb, sc, i64_w, i32_w]
   rfl
  refine take_ (i := 1) (N := some 69) (v := ?_) (a' := ?_) #[T, T, T, F, F] rfl rfl (by kernel_rfl) (fun _ _ _ h => h) (Or.inl ⟨by rfl, ?_⟩) hHeld ?_ ?_
  rotate_left
  ·
   rintro w' ⟨s0, s1⟩
   go_simp
   with_reducible rfl
  rotate_left
  ·
   simp only [ap, sa, sb, sc, i64_w, i32_w]
   rfl
  refine one_ (i := 3) (N := none) #[T, T, T, T, F] rfl rfl (by kernel_rfl) (by decide) (fun K hK => ?_)
  have hs55 : w54.cell? ⟨gb324, 0, none⟩ = some (.int .i64 0) := (blk_cell BK324.out 0).trans rfl
  have hfs55 := blk_frozen BK324.out 0
  have hns55_1 := NB338_324.out
  have hns55_2 := NB350_324.out
  have hms55_1 := NB324_338.out
  have hms55_2 := NB324_350.out
  have hs56 : w54.cell? ⟨gb324, 1, none⟩ = some (.int .i64 0) := (blk_cell BK324.out 1).trans rfl
  have hfs56 := blk_frozen BK324.out 1
  have hns56_1 := NB338_324.out
  have hns56_2 := NB350_324.out
  have hms56_1 := NB324_338.out
  have hms56_2 := NB324_350.out
  refine skip_ (w1 := ?_) (by rfl) rfl ?_ ?_
  rotate_left
  ·
   go_simp
   rfl
  refine hK.out _ _ ⟨((cell_far (p := ⟨gb324, _, none⟩) NB350_324.out _).trans (((cell_far (p := ⟨gb324, _, none⟩) NB350_324.out _).trans (hHeld.1)))), ((cell_far (p := ⟨gb324, _, none⟩) NB350_324.out _).trans (((cell_far (p := ⟨gb324, _, none⟩) NB350_324.out _).trans (hHeld.2))))⟩ (fun hHeld => ?_)
  clear hK K
  refine pure_ (i := 4) (N := some 12) (v := ?_) (a' := ?_) #[T, T, T, T, T] rfl rfl (by kernel_rfl) (fun _ _ _ h => h) (Or.inl ⟨by rfl, ?_⟩) ?_ ?_
  rotate_left
  ·
   intro w'
   go_simp
   with_reducible rfl
  rotate_left
  ·
   simp only [ap, sa, sb, sc, i64_w, i32_w]
   rfl
  refine done_ (by kernel_rfl) ?_
  try go_wp2
  refine bodyPost_ret (results_list (rs := [.tmp 10, .cell 11 26, .tmp 12]) rfl (by simp) (.tmp (.cell gb324 26 #[.int .i64 t347, .int .i64 t348] (0, 0) _ rfl (by refine rb ?_; refine blk_put (cs := #[.int .i64 t347, .int .i64 0]) ?_ 1 _ rfl; refine rb ?_; refine blk_put (cs := #[.int .i64 0, .int .i64 0]) ?_ 0 _ rfl; exact rb BK324.out) Tryz.underlying26 rfl (by kernel_rfl) (.tmp .nil)))) rfl ?_
  exact ⟨_, ew, rr (Kd.R_mono (Kd.R_far (p := ⟨gb324, 1, none⟩) (Kd.R_far (p := ⟨gb324, 0, none⟩) (Kd.R_types HO346.out BK324.out (by decide)) (fun _ hk => hk.2) (.int .i64 t347)) (fun _ hk => hk.2) (.int .i64 t348)) (fun _ hk => trivial)), bs3 GE324.out GE338.out GE350.out⟩
end Go.Proofs.YtjjbdgngncgikaaGreatDoor.R
