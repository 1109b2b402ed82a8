/-
  PLAIN LAWS OF THE TIMERS, 4: the reference's steps are the program's.
-/
import Derived.Test.YtjjbdgngncgikaaGreatDoorTm3
import Derived.Test.YtjjbdgngncgikaaGreatDoorRx13
import Derived.Test.YtjjbdgngncgikaaGreatDoorRx14
import Derived.Test.YtjjbdgngncgikaaGreatDoorRx15
namespace Go.Proofs.YtjjbdgngncgikaaGreatDoor.Tm
open Go Go.RowKit Go.Proofs.YtjjbdgngncgikaaGreatDoor.R Go.Proofs.YtjjbdgngncgikaaGreatDoorW.PrintWords Go.Proofs.YtjjbdgngncgikaaGreatDoorW.PrintMore

set_option linter.unusedVariables false
set_option linter.unusedSimpArgs false
theorem rleast_f (up dn p : Int) : plenumref19_least.f [up, dn] p = some (if p = 1 then up else dn) := by
  unfold plenumref19_least.f
  by_cases c : p = 1
  · rw [if_pos c, if_pos c, if_pos (by simp)]; rfl
  · rw [if_neg c, if_neg c, if_pos (by simp)]; rfl
theorem bin_f (x : Int) : plenumref19_binary.f x = some (2, x) := rfl
/-! ### The reference's step -/
theorem g_edge (t : Int) (a : Bool) (dt : Int) (k : Nat) : plenumref19_step.f (k + 1) edgeB [] [t] [bv a] dt = some ([bitv a], 2, bitv (a && t == 0)) := by
  unfold plenumref19_step.f
  rw [if_pos lev1, edgeB_l, if_pos rfl, if_pos len1, r0, show (rd_T26 [bv a] 0).f1 = bitv a from rfl]
  cases a
  · rw [if_neg (by decide)]; rfl
  · rw [if_pos (by rfl)]
    simp only [plenumref19_step.j0, bin_f, Option.bind_some, Bool.true_and]
    cases (t == 0) <;> rfl
theorem g_latch (t : Int) (a b : Bool) (dt : Int) (k : Nat) (ht : t = 0 ∨ t = 1) : plenumref19_step.f k latchB [] [t] [bv a, bv b] dt = some ([latS t a b], 2, bitv (latS t a b == 1)) := by
  unfold plenumref19_step.f latS
  rw [if_pos lev2, latchB_l, if_neg (by decide), if_pos rfl, if_pos len1, if_pos lev21, r0, show (rd_T26 [bv a, bv b] 0).f1 = bitv a from rfl, show (rd_T26 [bv a, bv b] 1).f1 = bitv b from rfl]
  rcases ht with rfl | rfl <;> cases a <;> cases b <;> rfl
theorem g_count (p n : Int) (a b : Bool) (dt : Int) (k : Nat) (n1 : 0 ≤ n) (n2 : n ≤ 1000000000) : plenumref19_step.f k countB [] [p, n] [bv a, bv b] dt = some ([bitv a, cntS p n a b], 1, 1000 * cntS p n a b) := by
  unfold plenumref19_step.f cntS
  rw [if_pos lev2, countB_l, if_neg (by decide), if_neg (by decide), if_pos rfl, if_pos len21, if_pos lev21, if_pos len2, r00, r1, show (rd_T26 [bv a, bv b] 0).f1 = bitv a from rfl, show (rd_T26 [bv a, bv b] 1).f1 = bitv b from rfl]
  rw [wrap_id (x := n + 1) (by omega) (by omega), wrap_id (x := 1000 * n) (by omega) (by omega), wrap_id (x := 1000 * (n + 1)) (by omega) (by omega)]
  cases b
  · rw [if_neg (show ¬ bitv false = 1 by decide), if_neg (show ¬ (false = true) by simp)]
    cases a
    · rw [if_neg (show ¬ bitv false = 1 by decide), if_neg (fun h => absurd h.1 (by simp))]
    · rw [if_pos (show bitv true = 1 from rfl)]
      by_cases c : p = 0
      · rw [if_pos c, if_pos (show true = true ∧ p = 0 from ⟨rfl, c⟩)]
        by_cases d : n < 1000000000
        · rw [if_pos d, show min (n + 1) 1000000000 = n + 1 by omega]
        · rw [if_neg d, show min (n + 1) 1000000000 = n by omega]
      · rw [if_neg c, if_neg (fun h => c h.2)]
  · rfl
theorem g_hyst (up dn t x dt : Int) (k : Nat) (ht : t = 0 ∨ t = 1) : plenumref19_step.f k hystB [up, dn] [t] [⟨1, x⟩] dt = some ([hysS up dn t x], 2, bitv (hysS up dn t x == 1)) := by
  unfold plenumref19_step.f hysS
  rw [if_pos lev1, hystB_l, if_neg (by decide), if_neg (by decide), if_neg (by decide), if_pos rfl, if_pos len1, if_pos len2, r0, r00, r1, show (rd_T26 [(⟨1, x⟩ : S26)] 0).f1 = x from rfl]
  by_cases c : x > up
  · rw [if_pos c, if_pos c]; rfl
  · rw [if_neg c, if_neg c, if_pos len21]
    by_cases d : x < dn
    · rw [if_pos d, if_pos d]; rfl
    · rw [if_neg d, if_neg d]; rcases ht with rfl | rfl <;> rfl
theorem g_on (time dt t : Int) (a : Bool) (t1 : 0 ≤ t) (t2 : t ≤ time + 1) (h1 : 0 ≤ time) (h2 : time ≤ 86400) (d1 : 1 ≤ dt) (d2 : dt ≤ 86400) (k : Nat) : plenumref19_step.f (k + 1) ondelayB [time] [t] [bv a] dt = some ([(onS time dt t a).1], 2, bitv (onS time dt t a).2) := by
  have hj : ∀ e, 0 ≤ e → e ≤ 200000 → plenumref19_step.j1 (k + 1) [time] e = some ([e + 1], 2, bitv (e == time)) := by
    intro e e1 e2
    simp only [plenumref19_step.j1, bin_f, Option.bind_some]
    rw [if_pos len1, r0, wrap_id (by omega) (by omega)]
    by_cases c : e = time
    · rw [if_pos c, show (e == time) = true by simpa using c]; rfl
    · rw [if_neg c, show (e == time) = false by simpa using c]; rfl
  unfold plenumref19_step.f onS
  rw [if_pos lev1, ondelayB_l, if_neg (by decide), if_neg (by decide), if_neg (by decide), if_neg (by decide), if_pos rfl, show (rd_T26 [bv a] 0).f1 = bitv a from rfl, if_pos len1, if_pos len1, r0, r0]
  cases a
  · rfl
  · rw [if_neg (show ¬ bitv true = 0 by decide), if_pos rfl, mn_min, wrap_id (x := t - 1) (by omega) (by omega), wrap_id (x := t - 1 + dt) (by omega) (by omega)]
    by_cases c : t = 0
    · rw [if_neg (by omega), hj 0 (by omega) (by omega), if_pos c]
    · rw [if_pos (by omega), hj _ (by omega) (by omega), if_neg c]
theorem g_off (time dt t : Int) (a : Bool) (t1 : -1 ≤ t) (t2 : t ≤ time) (h1 : 0 ≤ time) (h2 : time ≤ 86400) (d1 : 1 ≤ dt) (d2 : dt ≤ 86400) (k : Nat) : plenumref19_step.f (k + 2) offdelayB [time] [t] [bv a] dt = some ([(offS time dt t a).1], 2, bitv (offS time dt t a).2) := by
  have hj3 : ∀ e b, 0 ≤ e → e ≤ 200000 → plenumref19_step.j3 (k + 1) e b = some (if b = true then ([0], 2, 0) else ([e + 1], 2, 1)) := by
    intro e b e1 e2
    simp only [plenumref19_step.j3, bin_f, Option.bind_some]
    rw [wrap_id (by omega) (by omega)]
    cases b <;> rfl
  have hj : ∀ e, 0 ≤ e → e ≤ 200000 → plenumref19_step.j2 (k + 2) [time] [t] e = some (if t = 0 ∨ e ≥ time then ([0], 2, 0) else ([e + 1], 2, 1)) := by
    intro e e1 e2
    simp only [plenumref19_step.j2]
    rw [if_pos len1, r0, if_pos len1, r0]
    by_cases c : t = 0
    · rw [if_pos c, hj3 e _ e1 e2, if_pos (Or.inl c)]; rfl
    · rw [if_neg c, hj3 e _ e1 e2]
      by_cases d : e ≥ time
      · rw [decide_eq_true d, if_pos (Or.inr d)]; rfl
      · rw [decide_eq_false d, if_neg (show ¬ (t = 0 ∨ e ≥ time) from fun h => h.elim c d)]; rfl
  unfold plenumref19_step.f offS
  rw [if_pos lev1, offdelayB_l, if_neg (by decide), if_neg (by decide), if_neg (by decide), if_neg (by decide), if_neg (by decide), if_pos rfl, show (rd_T26 [bv a] 0).f1 = bitv a from rfl, if_pos len1, r0]
  cases a
  · rw [if_neg (show ¬ bitv false = 1 by decide), if_neg (show ¬ (false = true) by simp), wrap_id (x := t - 1) (by omega) (by omega), wrap_id (x := t - 1 + dt) (by omega) (by omega)]
    by_cases c : t = 0
    · rw [if_neg (by omega), hj 0 (by omega) (by omega), if_pos (Or.inl c), if_pos c]; rfl
    · rw [if_neg c]
      by_cases d : t = -1
      · rw [if_neg (by omega), hj 0 (by omega) (by omega), if_pos d]
        by_cases e : 0 < time
        · rw [if_neg (by omega), if_pos e]; rfl
        · rw [if_pos (Or.inr (by omega)), if_neg e]; rfl
      · rw [if_pos (by omega), hj _ (by omega) (by omega), if_neg d]
        by_cases e : t - 1 + dt < time
        · rw [if_neg (by omega), if_pos e]; rfl
        · rw [if_pos (Or.inr (by omega)), if_neg e]; rfl
  · rfl
theorem g_pul (time dt p q : Int) (a : Bool) (t1 : 0 ≤ q) (t2 : q ≤ time) (h1 : 0 ≤ time) (h2 : time ≤ 86400) (d1 : 1 ≤ dt) (d2 : dt ≤ 86400) (k : Nat) : plenumref19_step.f (k + 2) pulseB [time] [p, q] [bv a] dt = some ([bitv a, (pulS time dt p q a).1], 2, bitv (pulS time dt p q a).2) := by
  have hj5 : ∀ x e, -1 ≤ e → e ≤ 200000 → plenumref19_step.j5 (k + 1) [time] x e = some (if e < time then ([x, e + 1], 2, 1) else ([x, 0], 2, 0)) := by
    intro x e e1 e2
    simp only [plenumref19_step.j5, bin_f, Option.bind_some]
    rw [if_pos len1, r0, wrap_id (by omega) (by omega)]
    split <;> rfl
  have hj : ∀ x b, plenumref19_step.j4 (k + 2) [time] [p, q] x dt time b = some (if (if b = true then 0 else if q = 0 then time else q - 1 + dt) < time then ([x, (if b = true then 0 else if q = 0 then time else q - 1 + dt) + 1], 2, 1) else ([x, 0], 2, 0)) := by
    intro x b
    simp only [plenumref19_step.j4]
    rw [if_pos len21, r1, wrap_id (x := q - 1) (by omega) (by omega), wrap_id (x := q - 1 + dt) (by omega) (by omega)]
    cases b
    · rw [if_neg (show ¬ (false = true) by simp), if_neg (show ¬ (false = true) by simp)]
      by_cases c : q = 0
      · rw [if_neg (by omega), hj5 _ _ (by omega) (by omega), if_pos c]
      · rw [if_pos (by omega), hj5 _ _ (by omega) (by omega), if_neg c]
    · rw [if_pos rfl, hj5 _ _ (by omega) (by omega), if_pos rfl]
  have fin : ∀ b : Bool, b = decide (a = true ∧ p = 0) → (if (if b = true then 0 else if q = 0 then time else q - 1 + dt) < time then ([bitv a, (if b = true then 0 else if q = 0 then time else q - 1 + dt) + 1], (2 : Int), (1 : Int)) else ([bitv a, 0], 2, 0)) = ([bitv a, (pulS time dt p q a).1], 2, bitv (pulS time dt p q a).2) := by
    intro b hb
    unfold pulS pulE
    cases b with
    | true =>
      have hc := of_decide_eq_true hb.symm
      rw [if_pos rfl, if_pos hc]
      by_cases e : 0 < time
      · rw [if_pos e, if_pos (show (0 : Int) ≤ 0 ∧ 0 < time from ⟨by omega, e⟩)]; rfl
      · rw [if_neg e, if_neg (show ¬ ((0 : Int) ≤ 0 ∧ 0 < time) from fun h => e h.2)]; rfl
    | false =>
      have hc := of_decide_eq_false hb.symm
      rw [if_neg (show ¬ (false = true) by simp), if_neg hc]
      by_cases c : q = 0
      · rw [if_pos c, if_pos c, if_neg (by omega), if_neg (by omega)]; rfl
      · rw [if_neg c, if_neg c]
        by_cases e : q - 1 + dt < time
        · rw [if_pos e, if_pos ⟨by omega, e⟩]; rfl
        · rw [if_neg e, if_neg (fun h => e h.2)]; rfl
  unfold plenumref19_step.f
  rw [if_pos lev1, pulseB_l, if_neg (by decide), if_neg (by decide), if_neg (by decide), if_neg (by decide), if_neg (by decide), if_neg (by decide), if_pos rfl, show (rd_T26 [bv a] 0).f1 = bitv a from rfl, if_pos len1, if_pos len2, r0, r00]
  cases a
  · rw [if_neg (show ¬ bitv false = 1 by decide), hj, fin false (by simp)]
  · rw [if_pos (show bitv true = 1 from rfl), hj, fin (p == 0) (by by_cases c : p = 0 <;> simp [c])]
theorem g_min (up dn dt p q : Int) (a : Bool) (p1 : p = 0 ∨ p = 1) (t1 : 0 ≤ q) (t2 : q ≤ 86400) (d1 : 1 ≤ dt) (d2 : dt ≤ 86400) (k : Nat) : plenumref19_step.f (k + 2) minrunB [up, dn] [p, q] [bv a] dt = some ([(minS up dn dt p q a).1.1, (minS up dn dt p q a).1.2], 2, bitv (minS up dn dt p q a).2) := by
  have pb : p = bitv (p == 1) := by rcases p1 with rfl | rfl <;> rfl
  have hj7 : ∀ b c : Bool, b = decide (q ≠ 0 ∧ q - 1 + dt < (if p = 1 then up else dn)) → c = decide (bitv a = p ∨ b = true) → plenumref19_step.j7 (k + 1) [up, dn] [p, q] (bitv a) (q - 1 + dt) b c = some ([(minS up dn dt p q a).1.1, (minS up dn dt p q a).1.2], 2, bitv (minS up dn dt p q a).2) := by
    intro b c hb hc
    unfold minS
    simp only [plenumref19_step.j7, if_pos len2, r00, rleast_f, bin_f, Option.bind_some]
    rw [wrap_id (x := q - 1 + dt + 1) (by omega) (by omega)]
    cases c with
    | true =>
      have hc' := of_decide_eq_true hc.symm
      rw [if_pos rfl]
      cases b with
      | true =>
        have hb' := of_decide_eq_true hb.symm
        rw [if_pos rfl, if_pos (Or.inr hb')]
        simp only [if_pos hb']
        rw [← pb]
      | false =>
        have hb' := of_decide_eq_false hb.symm
        rw [if_neg (by simp), if_pos (Or.inl (hc'.resolve_right (by simp)))]
        simp only [if_neg hb']
        rw [← pb]
    | false =>
      have hc' := of_decide_eq_false hc.symm
      have hb' : ¬ (q ≠ 0 ∧ q - 1 + dt < (if p = 1 then up else dn)) := by
        intro h; exact hc' (Or.inr (hb.trans (decide_eq_true h)))
      rw [if_neg (show ¬ (false = true) by simp), if_neg (show ¬ (bitv a = p ∨ (q ≠ 0 ∧ q - 1 + dt < (if p = 1 then up else dn))) from fun h => h.elim (fun h => hc' (Or.inl h)) hb')]
      obtain ⟨y, hy⟩ : ∃ y, (if bitv a = 1 then up else dn) = y := ⟨_, rfl⟩
      rw [hy]
      by_cases d : y = 0
      · rw [if_pos d, d]; rfl
      · rw [if_neg d, show (y != 0) = true from bne_iff_ne.2 d]; rfl
  have hj6 : ∀ b : Bool, b = decide (q ≠ 0 ∧ q - 1 + dt < (if p = 1 then up else dn)) → plenumref19_step.j6 (k + 2) [up, dn] [p, q] (bitv a) (q - 1 + dt) b = some ([(minS up dn dt p q a).1.1, (minS up dn dt p q a).1.2], 2, bitv (minS up dn dt p q a).2) := by
    intro b hb
    simp only [plenumref19_step.j6, if_pos len2, r00]
    by_cases c : bitv a = p
    · rw [if_pos c]; exact hj7 b true hb (by simp [c])
    · rw [if_neg c]; exact hj7 b b hb (by simp [c])
  unfold plenumref19_step.f
  rw [if_pos lev1, minrunB_l, if_neg (by decide), if_neg (by decide), if_neg (by decide), if_neg (by decide), if_neg (by decide), if_neg (by decide), if_neg (by decide), show (rd_T26 [bv a] 0).f1 = bitv a from rfl, if_pos len21, if_pos len2, r00, r1, rleast_f, Option.bind_some, wrap_id (x := q - 1) (by omega) (by omega), wrap_id (x := q - 1 + dt) (by omega) (by omega)]
  by_cases c : q = 0
  · rw [if_neg (by omega)]; exact hj6 false (by simp [c])
  · rw [if_pos (by omega)]; exact hj6 _ (by simp [c])
end Go.Proofs.YtjjbdgngncgikaaGreatDoor.Tm
