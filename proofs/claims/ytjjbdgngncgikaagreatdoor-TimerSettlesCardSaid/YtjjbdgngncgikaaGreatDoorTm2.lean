/-
  PLAIN LAWS OF THE TIMERS, 2: a step of each block, in numbers.
-/
import Derived.Test.YtjjbdgngncgikaaGreatDoorTm1
import Derived.Test.YtjjbdgngncgikaaGreatDoorRx7
import Derived.Test.YtjjbdgngncgikaaGreatDoorRx8
import Derived.Test.YtjjbdgngncgikaaGreatDoorRx9
import Derived.Test.YtjjbdgngncgikaaGreatDoorRx10
namespace Go.Proofs.YtjjbdgngncgikaaGreatDoor.Tm
open Go Go.RowKit Go.Proofs.YtjjbdgngncgikaaGreatDoor.R Go.Proofs.YtjjbdgngncgikaaGreatDoorW.PrintWords Go.Proofs.YtjjbdgngncgikaaGreatDoorW.PrintMore

set_option linter.unusedVariables false
set_option linter.unusedSimpArgs false
def onS (time dt t : Int) (a : Bool) : Int × Bool := if a = true then ((if t = 0 then 0 else min (t - 1 + dt) time) + 1, (if t = 0 then 0 else min (t - 1 + dt) time) == time) else (0, false)
def offS (time dt t : Int) (a : Bool) : Int × Bool := if a = true then (-1, true) else if t = 0 then (0, false) else if (if t = -1 then 0 else t - 1 + dt) < time then ((if t = -1 then 0 else t - 1 + dt) + 1, true) else (0, false)
def pulE (dt p q : Int) (a : Bool) : Int := if a = true ∧ p = 0 then 0 else if q = 0 then -1 else q - 1 + dt
def pulS (time dt p q : Int) (a : Bool) : Int × Bool := if 0 ≤ pulE dt p q a ∧ pulE dt p q a < time then (pulE dt p q a + 1, true) else (0, false)
def minS (up dn dt p q : Int) (a : Bool) : (Int × Int) × Bool :=
  if bitv a = p ∨ (q ≠ 0 ∧ q - 1 + dt < (if p = 1 then up else dn)) then ((p, if q ≠ 0 ∧ q - 1 + dt < (if p = 1 then up else dn) then q - 1 + dt + 1 else 0), p == 1)
  else ((bitv a, bitv ((if bitv a = 1 then up else dn) != 0)), a)
def cntS (p n : Int) (a r : Bool) : Int := if r = true then 0 else if a = true ∧ p = 0 then min (n + 1) 1000000000 else n
def latS (p : Int) (a r : Bool) : Int := if r = true then 0 else if a = true then 1 else p
def hysS (up dn p x : Int) : Int := if x > up then 1 else if x < dn then 0 else p
section
variable {v w : S26} {l : List Int} {t p q n dt : Int}
theorem rv0 : rd_T26 [v] 0 = v := Eq.trans rfl rfl
theorem rv00 : rd_T26 [v, w] 0 = v := Eq.trans rfl rfl
theorem rv1 : rd_T26 [v, w] 1 = w := Eq.trans rfl rfl
theorem r0 : rd [t] 0 = t := Eq.trans rfl rfl
theorem r00 : rd [p, q] 0 = p := Eq.trans rfl rfl
theorem r1 : rd [p, q] 1 = q := Eq.trans rfl rfl
theorem len1 : (0 : Int) < (([t] : List Int).length : Int) := by simp
theorem len2 : (0 : Int) < (([p, q] : List Int).length : Int) := by simp
theorem len21 : (1 : Int) < (([p, q] : List Int).length : Int) := by simp
theorem lev1 : (0 : Int) < (([v] : List S26).length : Int) := by simp
theorem lev2 : (0 : Int) < (([v, w] : List S26).length : Int) := by simp
theorem lev21 : (1 : Int) < (([v, w] : List S26).length : Int) := by simp
theorem lenv (r : List S26) : (0 : Int) < ((v :: r).length : Int) := by simp only [List.length_cons]; omega
theorem lenv2 (r : List S26) : (1 : Int) < ((v :: w :: r).length : Int) := by simp only [List.length_cons]; omega
theorem s0 (x : Int) : ([t] : List Int).set (0 : Int).toNat x = [x] := Eq.trans rfl rfl
theorem s00 (x : Int) : ([p, q] : List Int).set (0 : Int).toNat x = [x, q] := Eq.trans rfl rfl
theorem s1 (x : Int) : ([p, q] : List Int).set (1 : Int).toNat x = [p, x] := Eq.trans rfl rfl
end
theorem f_hyst (up dn t x : Int) (y dt : Int) (l : List S26) (k : Nat) : timer_step.f k hystB (up :: dn :: []) [t] (⟨y, x⟩ :: l) dt = some (2, bitv (hysS up dn t x == 1), [hysS up dn t x]) := by
  unfold timer_step.f hysS
  rw [if_pos (lenv _), hystB_l, if_neg (by decide), if_neg (by decide), if_pos rfl, if_pos (by simp), show rd_T26 (⟨y, x⟩ :: l) 0 = ⟨y, x⟩ from rfl, show rd [up, dn] 0 = up from rfl, show rd [up, dn] 1 = dn from rfl]
  simp only [bit_f, Option.bind_some, r0, s0]
  by_cases c : x > up
  · rw [if_pos c, if_pos c, if_pos len1]
  · rw [if_neg c, if_neg c, if_pos (by simp)]
    by_cases d : x < dn
    · rw [if_pos d, if_pos d, if_pos len1]
    · rw [if_neg d, if_neg d, if_pos len1]
theorem f_edge (l : List Int) (t x : Int) (y dt : Int) (r : List S26) (k : Nat) : timer_step.f k edgeB l [t] (⟨y, x⟩ :: r) dt = some (2, bitv (x == 1 && t == 0), [bitv (x == 1)]) := by
  unfold timer_step.f
  rw [if_pos (lenv _), edgeB_l, if_neg (by decide), if_pos rfl, show rd_T26 (⟨y, x⟩ :: r) 0 = ⟨y, x⟩ from rfl]
  simp only [bit_f, Option.bind_some, r0, s0]
  by_cases c : x = 1
  · rw [if_pos c, if_pos len1]; subst c; simp
  · rw [if_neg c, if_pos len1, show (x == 1) = false from beq_eq_false_iff_ne.2 c]; simp
theorem f_latch (l : List Int) (t x z : Int) (y u dt : Int) (r : List S26) (k : Nat) : timer_step.f k latchB l [t] (⟨y, x⟩ :: ⟨u, z⟩ :: r) dt = some (2, bitv (latS t (x == 1) (z == 1) == 1), [latS t (x == 1) (z == 1)]) := by
  unfold timer_step.f latS
  rw [if_pos (lenv _), latchB_l, if_neg (by decide), if_neg (by decide), if_neg (by decide), if_pos rfl, show rd_T26 (⟨y, x⟩ :: ⟨u, z⟩ :: r) 0 = ⟨y, x⟩ from rfl, show rd_T26 (⟨y, x⟩ :: ⟨u, z⟩ :: r) 1 = ⟨u, z⟩ from rfl, if_pos (lenv2 _)]
  simp only [bit_f, Option.bind_some, r0, s0]
  by_cases c : z = 1
  · rw [if_pos c, if_pos len1, if_pos (by simpa using c)]
  · rw [if_neg c, if_neg (show ¬ ((z == 1) = true) by simpa using c)]
    by_cases d : x = 1
    · rw [if_pos d, if_pos len1, if_pos (show (x == 1) = true by simpa using d)]
    · rw [if_neg d, if_pos len1, if_neg (show ¬ ((x == 1) = true) by simpa using d)]
theorem f_count (l : List Int) (p n x z : Int) (y u dt : Int) (r : List S26) (k : Nat) (hn : 0 ≤ n) (hm : n ≤ 1000000000) : timer_step.f (k + 1) countB l [p, n] (⟨y, x⟩ :: ⟨u, z⟩ :: r) dt = some (1, 1000 * cntS p n (x == 1) (z == 1), [bitv (x == 1), cntS p n (x == 1) (z == 1)]) := by
  unfold timer_step.f cntS
  rw [if_pos (lenv _), countB_l, if_pos rfl, show rd_T26 (⟨y, x⟩ :: ⟨u, z⟩ :: r) 0 = ⟨y, x⟩ from rfl, show rd_T26 (⟨y, x⟩ :: ⟨u, z⟩ :: r) 1 = ⟨u, z⟩ from rfl, if_pos (lenv2 _)]
  simp only [bit_f, Option.bind_some, r00, s00, s1, timer_step.j0, r1, if_pos len2, if_pos len21, mn_min]
  rw [wrap_id (x := n + 1) (by omega) (by omega), wrap_id (x := 1000 * (0 : Int)) (by omega) (by omega), wrap_id (x := 1000 * n) (by omega) (by omega), wrap_id (x := 1000 * min (n + 1) 1000000000) (by omega) (by omega)]
  by_cases c : z = 1
  · rw [if_pos c, if_pos (show (z == 1) = true by simpa using c)]
  · rw [if_neg c, if_neg (show ¬ ((z == 1) = true) by simpa using c)]
    by_cases d : x = 1
    · subst d
      rw [if_pos rfl]
      by_cases e : p = 0
      · rw [if_pos (show (p == 0) = true by simpa using e), if_pos (show ((1 : Int) == 1) = true ∧ p = 0 from ⟨by simp, e⟩)]; rfl
      · rw [if_neg (show ¬ ((p == 0) = true) by simpa using e), if_neg (fun h => e h.2)]; rfl
    · rw [if_neg d, if_neg (show ¬ (false = true) by simp), if_neg (fun h => d (by simpa using h.1)), show (x == 1) = false from beq_eq_false_iff_ne.2 d]
theorem least_f (up dn p : Int) : timer_least.f [up, dn] p = some (if p = 1 then up else dn) := by
  unfold timer_least.f
  by_cases c : p = 1
  · rw [if_pos c, if_pos c, if_pos (by simp)]; rfl
  · rw [if_neg c, if_neg c, if_pos (by simp)]; rfl
theorem on_m (time dt t : Int) (a : Bool) (h1 : 0 ≤ t) (h2 : t ≤ time + 1) (h3 : 0 ≤ time) (h4 : time ≤ 86400) (h5 : 1 ≤ dt) (h6 : dt ≤ 86400) : timer_ondelay.f time [t] a dt = some ((onS time dt t a).2, [(onS time dt t a).1]) := by
  unfold timer_ondelay.f onS
  simp only [if_pos len1, r0, s0, mn_min]
  cases a
  · rfl
  · rw [if_pos rfl, if_pos rfl]
    by_cases c : t = 0
    · rw [if_pos c, if_pos c]
    · rw [if_neg c, if_neg c, wrap_id (x := t - 1) (by omega) (by omega), wrap_id (x := t - 1 + dt) (by omega) (by omega), wrap_id (by omega) (by omega)]
theorem off_m (time dt t : Int) (a : Bool) (h1 : -1 ≤ t) (h2 : t ≤ time) (h3 : 0 ≤ time) (h4 : time ≤ 86400) (h5 : 1 ≤ dt) (h6 : dt ≤ 86400) : timer_offdelay.f time [t] a dt = some ((offS time dt t a).2, [(offS time dt t a).1]) := by
  unfold timer_offdelay.f offS
  simp only [if_pos len1, r0, s0]
  cases a
  · rw [if_neg (show ¬ (false = true) by simp), if_neg (show ¬ (false = true) by simp)]
    by_cases c : t = 0
    · rw [if_pos c, if_pos c, c]
    · rw [if_neg c, if_neg c]
      by_cases d : t = -1
      · rw [if_pos d, if_pos d]
        by_cases e : 0 < time
        · rw [if_pos e, if_pos e]
        · rw [if_neg e, if_neg e]
      · rw [if_neg d, if_neg d, wrap_id (x := t - 1) (by omega) (by omega), wrap_id (x := t - 1 + dt) (by omega) (by omega), wrap_id (x := t - 1 + dt + 1) (by omega) (by omega)]
        by_cases e : t - 1 + dt < time
        · rw [if_pos e, if_pos e]
        · rw [if_neg e, if_neg e]
  · rfl
theorem pul_m (time dt p q : Int) (a : Bool) (h1 : 0 ≤ q) (h2 : q ≤ time) (h3 : 0 ≤ time) (h4 : time ≤ 86400) (h5 : 1 ≤ dt) (h6 : dt ≤ 86400) (k : Nat) : timer_pulse.f (k + 1) time [p, q] a dt = some ((pulS time dt p q a).2, [bitv a, (pulS time dt p q a).1]) := by
  have key : ∀ b : Bool, (b = decide (a = true ∧ p = 0)) → timer_pulse.j0 (k + 1) time [p, q] a dt (-1) b = some ((pulS time dt p q a).2, [bitv a, (pulS time dt p q a).1]) := by
    intro b hb
    unfold pulS pulE
    simp only [timer_pulse.j0, if_pos len2, if_pos len21, r00, r1, s00, s1, bit_f, Option.bind_some]
    cases b with
    | true =>
      have hc := of_decide_eq_true hb.symm
      rw [if_pos rfl, if_pos hc]
      by_cases e : 0 < time
      · rw [if_pos e, if_pos ⟨by omega, e⟩, decide_eq_true e]
      · rw [if_neg e, if_neg (fun h => e h.2), decide_eq_false e]
    | false =>
      have hc := of_decide_eq_false hb.symm
      rw [if_neg (by simp), if_neg hc]
      by_cases c : q = 0
      · rw [if_pos c, if_pos c, if_neg (by omega), if_neg (by omega)]
      · rw [if_neg c, if_neg c, wrap_id (x := q - 1) (by omega) (by omega), wrap_id (x := q - 1 + dt) (by omega) (by omega), wrap_id (x := q - 1 + dt + 1) (by omega) (by omega), if_pos (by omega)]
        by_cases e : q - 1 + dt < time
        · rw [if_pos e, if_pos ⟨by omega, e⟩, decide_eq_true e]
        · rw [if_neg e, if_neg (fun h => e h.2), decide_eq_false e]
  unfold timer_pulse.f
  cases a
  · rw [if_neg (by simp)]; exact key false (by simp)
  · rw [if_pos rfl, if_pos len2, r00]; exact key (p == 0) (by by_cases c : p = 0 <;> simp [c])
theorem min_m (up dn dt p q : Int) (a : Bool) (h1 : 0 ≤ q) (h2 : q ≤ 86400) (h5 : 1 ≤ dt) (h6 : dt ≤ 86400) (k : Nat) : timer_minrun.f (k + 2) [up, dn] [p, q] a dt = some ((minS up dn dt p q a).2, [(minS up dn dt p q a).1.1, (minS up dn dt p q a).1.2]) := by
  have key1 : ∀ b c : Bool, b = decide (q ≠ 0 ∧ q - 1 + dt < (if p = 1 then up else dn)) → c = decide (bitv a = p ∨ b = true) → timer_minrun.j1 (k + 1) [up, dn] [p, q] a (q - 1 + dt) b c = some ((minS up dn dt p q a).2, [(minS up dn dt p q a).1.1, (minS up dn dt p q a).1.2]) := by
    intro b c hb hc
    unfold minS
    simp only [timer_minrun.j1, if_pos len2, if_pos len21, r00, r1, s00, s1, bit_f, Option.bind_some, least_f]
    rw [wrap_id (x := q - 1 + dt + 1) (by omega) (by omega)]
    cases c with
    | true =>
      have hc' := of_decide_eq_true hc.symm
      rw [if_pos rfl]
      cases b with
      | true =>
        have hb' := of_decide_eq_true hb.symm
        rw [if_pos rfl, if_pos (Or.inr hb')]
        simp only [if_pos hb']
      | false =>
        have hb' := of_decide_eq_false hb.symm
        rw [if_neg (by simp), if_pos (Or.inl (hc'.resolve_right (by simp)))]
        simp only [if_neg hb']
    | false =>
      have hc' := of_decide_eq_false hc.symm
      have hb' : ¬ (q ≠ 0 ∧ q - 1 + dt < (if p = 1 then up else dn)) := by
        intro h; exact hc' (Or.inr (hb.trans (decide_eq_true h)))
      rw [if_neg (show ¬ (false = true) by simp), if_neg (show ¬ (bitv a = p ∨ (q ≠ 0 ∧ q - 1 + dt < (if p = 1 then up else dn))) from fun h => h.elim (fun h => hc' (Or.inl h)) hb')]
  have key0 : ∀ b : Bool, b = decide (q ≠ 0 ∧ q - 1 + dt < (if p = 1 then up else dn)) → timer_minrun.j0 (k + 2) [up, dn] [p, q] a (q - 1 + dt) b = some ((minS up dn dt p q a).2, [(minS up dn dt p q a).1.1, (minS up dn dt p q a).1.2]) := by
    intro b hb
    simp only [timer_minrun.j0, bit_f, Option.bind_some, if_pos len2, r00]
    by_cases c : bitv a = p
    · rw [if_pos c]; exact key1 b true hb (by simp [c])
    · rw [if_neg c]; exact key1 b b hb (by simp [c])
  unfold timer_minrun.f
  rw [if_pos len2, r00, least_f, Option.bind_some, if_pos len21, r1, wrap_id (x := q - 1) (by omega) (by omega), wrap_id (x := q - 1 + dt) (by omega) (by omega)]
  by_cases c : q = 0
  · rw [if_pos c]; exact key0 false (by simp [c])
  · rw [if_neg c]; exact key0 _ (by simp [c])
theorem f_min (up dn p q x : Int) (y dt : Int) (r : List S26) (h1 : 0 ≤ q) (h2 : q ≤ 86400) (h5 : 1 ≤ dt) (h6 : dt ≤ 86400) (k : Nat) : timer_step.f (k + 2) minrunB [up, dn] [p, q] (⟨y, x⟩ :: r) dt = some (2, bitv (minS up dn dt p q (x == 1)).2, [(minS up dn dt p q (x == 1)).1.1, (minS up dn dt p q (x == 1)).1.2]) := by
  unfold timer_step.f
  rw [if_pos (lenv _), minrunB_l, if_neg (by decide), if_neg (by decide), if_neg (by decide), if_neg (by decide), if_pos rfl, show rd_T26 (⟨y, x⟩ :: r) 0 = ⟨y, x⟩ from rfl, min_m up dn dt p q _ h1 h2 h5 h6 k, Option.bind_some, bit_f, Option.bind_some]
theorem f_off (time t x : Int) (y dt : Int) (r : List S26) (h1 : -1 ≤ t) (h2 : t ≤ time) (h3 : 0 ≤ time) (h4 : time ≤ 86400) (h5 : 1 ≤ dt) (h6 : dt ≤ 86400) (k : Nat) : timer_step.f k offdelayB [time] [t] (⟨y, x⟩ :: r) dt = some (2, bitv (offS time dt t (x == 1)).2, [(offS time dt t (x == 1)).1]) := by
  unfold timer_step.f
  rw [if_pos (lenv _), offdelayB_l, if_neg (by decide), if_neg (by decide), if_neg (by decide), if_neg (by decide), if_neg (by decide), if_pos rfl, if_pos (by simp), r0, show rd_T26 (⟨y, x⟩ :: r) 0 = ⟨y, x⟩ from rfl, off_m time dt t _ h1 h2 h3 h4 h5 h6, Option.bind_some, bit_f, Option.bind_some]
theorem f_on (time t x : Int) (y dt : Int) (r : List S26) (h1 : 0 ≤ t) (h2 : t ≤ time + 1) (h3 : 0 ≤ time) (h4 : time ≤ 86400) (h5 : 1 ≤ dt) (h6 : dt ≤ 86400) (k : Nat) : timer_step.f k ondelayB [time] [t] (⟨y, x⟩ :: r) dt = some (2, bitv (onS time dt t (x == 1)).2, [(onS time dt t (x == 1)).1]) := by
  unfold timer_step.f
  rw [if_pos (lenv _), ondelayB_l, if_neg (by decide), if_neg (by decide), if_neg (by decide), if_neg (by decide), if_neg (by decide), if_neg (by decide), if_pos rfl, if_pos (by simp), r0, show rd_T26 (⟨y, x⟩ :: r) 0 = ⟨y, x⟩ from rfl, on_m time dt t _ h1 h2 h3 h4 h5 h6, Option.bind_some, bit_f, Option.bind_some]
theorem f_pul (time p q x : Int) (y dt : Int) (r : List S26) (h1 : 0 ≤ q) (h2 : q ≤ time) (h3 : 0 ≤ time) (h4 : time ≤ 86400) (h5 : 1 ≤ dt) (h6 : dt ≤ 86400) (k : Nat) : timer_step.f (k + 1) pulseB [time] [p, q] (⟨y, x⟩ :: r) dt = some (2, bitv (pulS time dt p q (x == 1)).2, [bitv (x == 1), (pulS time dt p q (x == 1)).1]) := by
  unfold timer_step.f
  rw [if_pos (lenv _), pulseB_l, if_neg (by decide), if_neg (by decide), if_neg (by decide), if_neg (by decide), if_neg (by decide), if_neg (by decide), if_neg (by decide), if_pos rfl, if_pos (by simp), show rd [time] 0 = time from rfl, show rd_T26 (⟨y, x⟩ :: r) 0 = ⟨y, x⟩ from rfl, pul_m time dt p q _ h1 h2 h3 h4 h5 h6, Option.bind_some, bit_f, Option.bind_some]
/-! ### Possible states -/
theorem wi (l : List Int) (i : Nat) (lo hi : Int) (h : i < l.length) : timer_wi l i lo hi = some (decide (lo ≤ l[i] ∧ l[i] ≤ hi)) := by
  unfold timer_wi
  rw [if_pos (by omega), rdI l i h]
  congr 1
  by_cases c : lo ≤ l[i] <;> by_cases d : l[i] ≤ hi <;> simp [c, d]
theorem pos_one (nm : ByteArray) (ps : List Int) (t : Int) (h1 : nm.toList ≠ countB.toList) (h2 : nm.toList ≠ minrunB.toList) (h3 : nm.toList ≠ offdelayB.toList) (h4 : nm.toList ≠ ondelayB.toList) (h5 : nm.toList ≠ pulseB.toList) : timer_possible.f nm ps [t] = some (decide (0 ≤ t ∧ t ≤ 1)) := by
  rw [countB_l] at h1; rw [minrunB_l] at h2; rw [offdelayB_l] at h3; rw [ondelayB_l] at h4; rw [pulseB_l] at h5
  unfold timer_possible.f
  rw [if_neg h1, if_neg h2, if_neg h3, if_neg h4, if_neg h5]
  exact wi [t] 0 0 1 (by simp)
theorem pos_hyst (ps : List Int) (t : Int) : timer_possible.f hystB ps [t] = some (decide (0 ≤ t ∧ t ≤ 1)) := pos_one _ _ _ (by rw [hystB_l, countB_l]; decide) (by rw [hystB_l, minrunB_l]; decide) (by rw [hystB_l, offdelayB_l]; decide) (by rw [hystB_l, ondelayB_l]; decide) (by rw [hystB_l, pulseB_l]; decide)
theorem pos_edge (ps : List Int) (t : Int) : timer_possible.f edgeB ps [t] = some (decide (0 ≤ t ∧ t ≤ 1)) := pos_one _ _ _ (by rw [edgeB_l, countB_l]; decide) (by rw [edgeB_l, minrunB_l]; decide) (by rw [edgeB_l, offdelayB_l]; decide) (by rw [edgeB_l, ondelayB_l]; decide) (by rw [edgeB_l, pulseB_l]; decide)
theorem pos_latch (ps : List Int) (t : Int) : timer_possible.f latchB ps [t] = some (decide (0 ≤ t ∧ t ≤ 1)) := pos_one _ _ _ (by rw [latchB_l, countB_l]; decide) (by rw [latchB_l, minrunB_l]; decide) (by rw [latchB_l, offdelayB_l]; decide) (by rw [latchB_l, ondelayB_l]; decide) (by rw [latchB_l, pulseB_l]; decide)
theorem pos_on (time t : Int) (h3 : 0 ≤ time) (h4 : time ≤ 86400) : timer_possible.f ondelayB [time] [t] = some (decide (0 ≤ t ∧ t ≤ time + 1)) := by
  unfold timer_possible.f
  rw [ondelayB_l, if_neg (by decide), if_neg (by decide), if_neg (by decide), if_pos rfl, if_pos (by simp), r0, wrap_id (by omega) (by omega)]
  exact wi [t] 0 0 (time + 1) (by simp)
theorem pos_off (time t : Int) : timer_possible.f offdelayB [time] [t] = some (decide (-1 ≤ t ∧ t ≤ time)) := by
  unfold timer_possible.f
  rw [offdelayB_l, if_neg (by decide), if_neg (by decide), if_pos rfl, if_pos (by simp), r0]
  exact wi [t] 0 (-1) time (by simp)
theorem and2 (a b : Prop) [Decidable a] [Decidable b] : ((some (decide a)).bind fun c => if c = true then some (decide b) else some false) = some (decide (a ∧ b)) := by
  by_cases h : a
  · rw [decide_eq_true h]; simp [h]
  · rw [decide_eq_false h]; simp [h]
theorem pos_count (ps : List Int) (p n : Int) : timer_possible.f countB ps [p, n] = some (decide ((0 ≤ p ∧ p ≤ 1) ∧ (0 ≤ n ∧ n ≤ 1000000000))) := by
  unfold timer_possible.f
  rw [countB_l, if_pos rfl, show timer_wi [p, n] 0 0 1 = some (decide (0 ≤ p ∧ p ≤ 1)) from wi [p, n] 0 0 1 (by simp), show timer_wi [p, n] 1 0 1000000000 = some (decide (0 ≤ n ∧ n ≤ 1000000000)) from wi [p, n] 1 0 1000000000 (by simp)]
  exact and2 _ _
theorem pos_pulse (time p q : Int) : timer_possible.f pulseB [time] [p, q] = some (decide ((0 ≤ p ∧ p ≤ 1) ∧ (0 ≤ q ∧ q ≤ time))) := by
  unfold timer_possible.f
  rw [pulseB_l, if_neg (by decide), if_neg (by decide), if_neg (by decide), if_neg (by decide), if_pos rfl, if_pos (by simp), show rd [time] 0 = time from rfl, show timer_wi [p, q] 0 0 1 = some (decide (0 ≤ p ∧ p ≤ 1)) from wi [p, q] 0 0 1 (by simp), show timer_wi [p, q] 1 0 time = some (decide (0 ≤ q ∧ q ≤ time)) from wi [p, q] 1 0 time (by simp)]
  exact and2 _ _
theorem pos_min (up dn p q : Int) : timer_possible.f minrunB [up, dn] [p, q] = some (decide ((0 ≤ p ∧ p ≤ 1) ∧ (0 ≤ q ∧ q ≤ (if p = 1 then up else dn)))) := by
  unfold timer_possible.f
  rw [minrunB_l, if_neg (by decide), if_pos rfl, r00, least_f, Option.bind_some, show timer_wi [p, q] 0 0 1 = some (decide (0 ≤ p ∧ p ≤ 1)) from wi [p, q] 0 0 1 (by simp), show timer_wi [p, q] 1 0 (if p = 1 then up else dn) = some (decide (0 ≤ q ∧ q ≤ (if p = 1 then up else dn))) from wi [p, q] 1 0 _ (by simp)]
  exact and2 _ _
end Go.Proofs.YtjjbdgngncgikaaGreatDoor.Tm
