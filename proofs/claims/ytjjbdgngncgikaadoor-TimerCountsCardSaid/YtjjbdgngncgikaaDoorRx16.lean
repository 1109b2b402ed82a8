-- Written by this claim's own program out of the translation; not trusted: Lean checks it.
import Derived.Test.YtjjbdgngncgikaaDoorRx0
import Derived.Test.YtjjbdgngncgikaaDoorRx10
namespace Go.Proofs.YtjjbdgngncgikaaDoor.R
open Go.RowKit Go.Proofs.YtjjbdgngncgikaaDoorW.PrintWords Go.Proofs.YtjjbdgngncgikaaDoorW.PrintLast Go.Proofs.YtjjbdgngncgikaaDoorW.PrintMore
attribute [local go_sem] max2_int min2_int max_two min_two max_three min_three max_four min_four   -- for this text's walks alone
set_option linter.unusedVariables false
set_option linter.unusedSimpArgs false

/-! ### timer_possible: function 21 (its contract: by hand, out of the shelf's) -/
/-- What the function literal of 'possible' tells. -/
def timer_wi (l : List Int) (i lo hi : Int) : Option Bool := if i < (l.length : Int) then some (decide (rd l i ≥ lo) && decide (rd l i ≤ hi)) else none
set_option maxHeartbeats 8000000 in
set_option maxRecDepth 100000 in
theorem timer_within (g : Nat) (A : Option Addr) (c : Nat) (l : List Int) (i lo hi : Int) (b : Bool) (w : World) (hw : timer_wi l i lo hi = some b) (hg : w.cell? ⟨g, 0, none⟩ = some (.slice A l.length c)) (hr : Kd.C (Kd.int .i64) w A l.length l) (h0 : 0 ≤ i) :
    Calls Tryd.prog 33 #[.int .i64 i, .int .i64 lo, .int .i64 hi, .pointer (some ⟨g, 0, none⟩)] w fun e w' => e = .returned (.bool b) ∧ w' = w := by
  unfold timer_wi at hw
  split at hw
  · rename_i h1
    obtain rfl := Option.some.inj hw
    clear hw
    obtain ⟨ad, e, hx⟩ := Kd.at_int hr i h0 h1
    cases e
    have HR := Aside0.mk hr
    clear hr
    replace h0 := eq_true h0
    replace h1 := eq_true h1
    go_enter Tryd.func33, Tryd.ntmps33
    by_cases c1 : rd l i ≥ lo
    · have c1b : decide (lo ≤ rd l i) = true := decide_eq_true c1
      rw [decide_eq_true c1]
      clear c1
      go_wp2
      repeat (go_quiet (fail); try go_wp2)
      go_ret
      exact ⟨by simp, rfl⟩
    · have c1b : decide (lo ≤ rd l i) = false := decide_eq_false c1
      rw [decide_eq_false c1]
      clear c1
      go_wp2
      repeat (go_quiet (fail); try go_wp2)
      go_ret
      exact ⟨by simp, rfl⟩
  · cases hw
def timer_possible.f (a0 : ByteArray) (l1 l2 : List Int) : Option Bool :=
  if a0.toList = ([99, 111, 117, 110, 116] : List UInt8) then (timer_wi l2 0 0 1).bind fun b => if b = true then timer_wi l2 1 0 1000000000 else some false
  else if a0.toList = ([109, 105, 110, 114, 117, 110] : List UInt8) then (timer_wi l2 0 0 1).bind fun b => if b = true then (timer_least.f l1 (rd l2 0)).bind fun t => timer_wi l2 1 0 t else some false
  else if a0.toList = ([111, 102, 102, 100, 101, 108, 97, 121] : List UInt8) then (if 0 < (l1.length : Int) then timer_wi l2 0 (-1) (rd l1 0) else none)
  else if a0.toList = ([111, 110, 100, 101, 108, 97, 121] : List UInt8) then (if 0 < (l1.length : Int) then timer_wi l2 0 0 (wrap64 (rd l1 0 + 1)) else none)
  else if a0.toList = ([112, 117, 108, 115, 101] : List UInt8) then (timer_wi l2 0 0 1).bind fun b => if b = true then (if 0 < (l1.length : Int) then timer_wi l2 1 0 (rd l1 0) else none) else some false
  else timer_wi l2 0 0 1
theorem timer_wi_len {l : List Int} {i lo hi : Int} {b : Bool} (h : timer_wi l i lo hi = some b) : i < (l.length : Int) := by
  unfold timer_wi at h
  split at h
  · assumption
  · cases h
set_option maxHeartbeats 8000000 in
set_option maxRecDepth 100000 in
theorem timer_possible.calls (a0 : ByteArray) (A1 : Option Addr) (c1 : Nat) (l1 : List Int) (A2 : Option Addr) (c2 : Nat) (l2 : List Int) (r : Bool) (w : World) (hr1 : Kd.C (Kd.int .i64) w A1 l1.length l1) (hc1 : l1.length ≤ c1) (hr2 : Kd.C (Kd.int .i64) w A2 l2.length l2) (hc2 : l2.length ≤ c2) (h : timer_possible.f a0 l1 l2 = some r) :
    Calls Tryd.prog 21 #[.string a0, .slice A1 l1.length c1, .slice A2 l2.length c2] w fun e w' => e = .returned (.bool r) ∧ Below w.heap.size w w' := by
  have HR1 := Aside0.mk hr1
  have HR2 := Aside0.mk hr2
  have HC1 := Aside0.mk hc1
  clear hr1 hr2 hc1 hc2
  have HB := Aside0.mk (Below.refl w.heap.size w)
  have hmf : ∀ (fn : Fn) (first cap : Array Value) (w : World), (Instr.makeFunc fn first cap).run Tryd.prog w = .ok (.func fn first cap) w := fun _ _ _ _ => rfl
  unfold timer_possible.f at h
  by_cases k1 : a0.toList = ([99, 111, 117, 110, 116] : List UInt8)
  · rw [if_pos k1] at h
    have b1 : (a0.toList == ([99, 111, 117, 110, 116] : List UInt8)) = true := beq_iff_eq.mpr k1
    clear k1
    obtain ⟨b, hb, h⟩ := Option.bind_eq_some_iff.1 h
    have W1 := Aside0.mk hb
    clear hb
    cases b
    · rw [if_neg (by simp)] at h
      obtain rfl := Option.some.inj h
      clear h
      go_enter Tryd.func21, Tryd.ntmps21
      go_wp2_with (first | (go_at_call 33; (with_reducible refine (timer_within w.heap.size A2 c2 l2 _ _ _ false _ W1.out ?s1 ?s2 ?s3).mono ?_); (case s1 => go_simp; done); (case s2 => exact Kd.C_below HR2.out bl); (case s3 => decide); rintro e w' ⟨rfl, rfl⟩))
      go_ret
      exact ⟨by simp, bl⟩
    · rw [if_pos rfl] at h
      have W2 := Aside0.mk h
      clear h
      go_enter Tryd.func21, Tryd.ntmps21
      go_wp2_with (first | (go_at_call 33; (with_reducible refine (timer_within w.heap.size A2 c2 l2 0 _ _ true _ W1.out ?s1 ?s2 ?s3).mono ?_); (case s1 => go_simp; done); (case s2 => exact Kd.C_below HR2.out bl); (case s3 => decide); rintro e w' ⟨rfl, rfl⟩) | (go_at_call 33; (with_reducible refine (timer_within w.heap.size A2 c2 l2 1 _ _ r _ W2.out ?s1 ?s2 ?s3).mono ?_); (case s1 => go_simp; done); (case s2 => exact Kd.C_below HR2.out bl); (case s3 => decide); rintro e w' ⟨rfl, rfl⟩))
      go_ret
      exact ⟨by simp, bl⟩
  have b1 : (a0.toList == ([99, 111, 117, 110, 116] : List UInt8)) = false := beq_eq_false_iff_ne.mpr k1
  rw [if_neg k1] at h
  clear k1
  by_cases k2 : a0.toList = ([109, 105, 110, 114, 117, 110] : List UInt8)
  · rw [if_pos k2] at h
    have b2 : (a0.toList == ([109, 105, 110, 114, 117, 110] : List UInt8)) = true := beq_iff_eq.mpr k2
    clear k2
    obtain ⟨b, hb, h⟩ := Option.bind_eq_some_iff.1 h
    have W1 := Aside0.mk hb
    clear hb
    cases b
    · rw [if_neg (by simp)] at h
      obtain rfl := Option.some.inj h
      clear h
      go_enter Tryd.func21, Tryd.ntmps21
      go_wp2_with (first | (go_at_call 33; (with_reducible refine (timer_within w.heap.size A2 c2 l2 _ _ _ false _ W1.out ?s1 ?s2 ?s3).mono ?_); (case s1 => go_simp; done); (case s2 => exact Kd.C_below HR2.out bl); (case s3 => decide); rintro e w' ⟨rfl, rfl⟩))
      go_ret
      exact ⟨by simp, bl⟩
    · rw [if_pos rfl] at h
      obtain ⟨t, ht, h⟩ := Option.bind_eq_some_iff.1 h
      have W2 := Aside0.mk h
      have T1 := Aside0.mk ht
      clear h ht
      have hlen := timer_wi_len W1.out
      obtain ⟨ad, e, hx⟩ := Kd.at_int HR2.out 0 (by decide) hlen
      cases e
      (try rw [show ((0 : Int)).toNat = 0 from rfl] at hx)
      (try rw [Addr.add_zero'] at hx)
      have hlen' : (0 < l2.length) = True := eq_true (by omega)
      replace hlen := eq_true hlen
      replace hx := (pw_cell_below (below_alloc (Below.refl w.heap.size w) _) hx : (w.alloc (.cells #[.slice (some ad) l2.length c2] 28)).cell? _ = _)
      go_enter Tryd.func21, Tryd.ntmps21
      go_wp2_with (first | (go_at_call 33; (with_reducible refine (timer_within w.heap.size (some ad) c2 l2 0 _ _ true _ W1.out ?s1 ?s2 ?s3).mono ?_); (case s1 => go_simp; done); (case s2 => exact Kd.C_below HR2.out bl); (case s3 => decide); rintro e w' ⟨rfl, rfl⟩) | (go_at_call 34; (with_reducible refine (timer_least.calls _ _ l1 (rd l2 0) t _ ?s1 ?s2 T1.out).mono ?_); (case s1 => exact Kd.C_below HR1.out bl); (case s2 => exact HC1.out); rintro e w' ⟨rfl, ⟨nd, rfl⟩⟩) | (go_at_call 33; (with_reducible refine (timer_within w.heap.size (some ad) c2 l2 1 _ _ r _ W2.out ?s1 ?s2 ?s3).mono ?_); (case s1 => go_simp; done); (case s2 => exact Kd.C_below HR2.out bl); (case s3 => decide); rintro e w' ⟨rfl, rfl⟩))
      go_ret
      exact ⟨by simp, bl⟩
  have b2 : (a0.toList == ([109, 105, 110, 114, 117, 110] : List UInt8)) = false := beq_eq_false_iff_ne.mpr k2
  rw [if_neg k2] at h
  clear k2
  by_cases k3 : a0.toList = ([111, 102, 102, 100, 101, 108, 97, 121] : List UInt8)
  · rw [if_pos k3] at h
    have b3 : (a0.toList == ([111, 102, 102, 100, 101, 108, 97, 121] : List UInt8)) = true := beq_iff_eq.mpr k3
    clear k3
    split at h
    · rename_i hlen
      have W1 := Aside0.mk h
      clear h
      obtain ⟨ad, e, hx⟩ := Kd.at_int HR1.out 0 (by decide) hlen
      cases e
      (try rw [show ((0 : Int)).toNat = 0 from rfl] at hx)
      (try rw [Addr.add_zero'] at hx)
      have hlen' : (0 < l1.length) = True := eq_true (by omega)
      replace hlen := eq_true hlen
      replace hx := (pw_cell_below (below_alloc (Below.refl w.heap.size w) _) hx : (w.alloc (.cells #[.slice A2 l2.length c2] 28)).cell? _ = _)
      go_enter Tryd.func21, Tryd.ntmps21
      go_wp2_with (first | (go_at_call 33; (with_reducible refine (timer_within w.heap.size A2 c2 l2 0 _ _ r _ W1.out ?s1 ?s2 ?s3).mono ?_); (case s1 => go_simp; done); (case s2 => exact Kd.C_below HR2.out bl); (case s3 => decide); rintro e w' ⟨rfl, rfl⟩))
      go_ret
      exact ⟨by simp, bl⟩
    · cases h
  have b3 : (a0.toList == ([111, 102, 102, 100, 101, 108, 97, 121] : List UInt8)) = false := beq_eq_false_iff_ne.mpr k3
  rw [if_neg k3] at h
  clear k3
  by_cases k4 : a0.toList = ([111, 110, 100, 101, 108, 97, 121] : List UInt8)
  · rw [if_pos k4] at h
    have b4 : (a0.toList == ([111, 110, 100, 101, 108, 97, 121] : List UInt8)) = true := beq_iff_eq.mpr k4
    clear k4
    split at h
    · rename_i hlen
      have W1 := Aside0.mk h
      clear h
      obtain ⟨ad, e, hx⟩ := Kd.at_int HR1.out 0 (by decide) hlen
      cases e
      (try rw [show ((0 : Int)).toNat = 0 from rfl] at hx)
      (try rw [Addr.add_zero'] at hx)
      have hlen' : (0 < l1.length) = True := eq_true (by omega)
      replace hlen := eq_true hlen
      replace hx := (pw_cell_below (below_alloc (Below.refl w.heap.size w) _) hx : (w.alloc (.cells #[.slice A2 l2.length c2] 28)).cell? _ = _)
      go_enter Tryd.func21, Tryd.ntmps21
      go_wp2_with (first | (go_at_call 33; (with_reducible refine (timer_within w.heap.size A2 c2 l2 0 _ _ r _ W1.out ?s1 ?s2 ?s3).mono ?_); (case s1 => go_simp; done); (case s2 => exact Kd.C_below HR2.out bl); (case s3 => decide); rintro e w' ⟨rfl, rfl⟩))
      go_ret
      exact ⟨by simp, bl⟩
    · cases h
  have b4 : (a0.toList == ([111, 110, 100, 101, 108, 97, 121] : List UInt8)) = false := beq_eq_false_iff_ne.mpr k4
  rw [if_neg k4] at h
  clear k4
  by_cases k5 : a0.toList = ([112, 117, 108, 115, 101] : List UInt8)
  · rw [if_pos k5] at h
    have b5 : (a0.toList == ([112, 117, 108, 115, 101] : List UInt8)) = true := beq_iff_eq.mpr k5
    clear k5
    obtain ⟨b, hb, h⟩ := Option.bind_eq_some_iff.1 h
    have W1 := Aside0.mk hb
    clear hb
    cases b
    · rw [if_neg (by simp)] at h
      obtain rfl := Option.some.inj h
      clear h
      go_enter Tryd.func21, Tryd.ntmps21
      go_wp2_with (first | (go_at_call 33; (with_reducible refine (timer_within w.heap.size A2 c2 l2 _ _ _ false _ W1.out ?s1 ?s2 ?s3).mono ?_); (case s1 => go_simp; done); (case s2 => exact Kd.C_below HR2.out bl); (case s3 => decide); rintro e w' ⟨rfl, rfl⟩))
      go_ret
      exact ⟨by simp, bl⟩
    · rw [if_pos rfl] at h
      split at h
      · rename_i hlen
        have W2 := Aside0.mk h
        clear h
        obtain ⟨ad, e, hx⟩ := Kd.at_int HR1.out 0 (by decide) hlen
        cases e
        (try rw [show ((0 : Int)).toNat = 0 from rfl] at hx)
        (try rw [Addr.add_zero'] at hx)
        have hlen' : (0 < l1.length) = True := eq_true (by omega)
        replace hlen := eq_true hlen
        replace hx := (pw_cell_below (below_alloc (Below.refl w.heap.size w) _) hx : (w.alloc (.cells #[.slice A2 l2.length c2] 28)).cell? _ = _)
        go_enter Tryd.func21, Tryd.ntmps21
        go_wp2_with (first | (go_at_call 33; (with_reducible refine (timer_within w.heap.size A2 c2 l2 0 _ _ true _ W1.out ?s1 ?s2 ?s3).mono ?_); (case s1 => go_simp; done); (case s2 => exact Kd.C_below HR2.out bl); (case s3 => decide); rintro e w' ⟨rfl, rfl⟩) | (go_at_call 33; (with_reducible refine (timer_within w.heap.size A2 c2 l2 1 _ _ r _ W2.out ?s1 ?s2 ?s3).mono ?_); (case s1 => go_simp; done); (case s2 => exact Kd.C_below HR2.out bl); (case s3 => decide); rintro e w' ⟨rfl, rfl⟩))
        go_ret
        exact ⟨by simp, bl⟩
      · cases h
  have b5 : (a0.toList == ([112, 117, 108, 115, 101] : List UInt8)) = false := beq_eq_false_iff_ne.mpr k5
  rw [if_neg k5] at h
  clear k5
  have W1 := Aside0.mk h
  clear h
  go_enter Tryd.func21, Tryd.ntmps21
  go_wp2_with (first | (go_at_call 33; (with_reducible refine (timer_within w.heap.size A2 c2 l2 0 _ _ r _ W1.out ?s1 ?s2 ?s3).mono ?_); (case s1 => go_simp; done); (case s2 => exact Kd.C_below HR2.out bl); (case s3 => decide); rintro e w' ⟨rfl, rfl⟩))
  go_ret
  exact ⟨by simp, bl⟩


end Go.Proofs.YtjjbdgngncgikaaDoor.R
