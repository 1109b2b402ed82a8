/-
  PLAIN LAWS OF THE TIMERS, 5: Step and the reference's Step tell the same, of whatever block.
-/
import Derived.Test.YtjjbdgngncgikaaGreatDoorTm4
import Derived.Test.YtjjbdgngncgikaaGreatDoorRx9
import Derived.Test.YtjjbdgngncgikaaGreatDoorRx10
import Derived.Test.YtjjbdgngncgikaaGreatDoorRx13
import Derived.Test.YtjjbdgngncgikaaGreatDoorRx14
import Derived.Test.YtjjbdgngncgikaaGreatDoorRx15
import Derived.Test.YtjjbdgngncgikaaGreatDoorRx16
namespace Go.Proofs.YtjjbdgngncgikaaGreatDoor.Tm
open Go Go.RowKit Go.Proofs.YtjjbdgngncgikaaGreatDoor.R Go.Proofs.YtjjbdgngncgikaaGreatDoorW.PrintWords Go.Proofs.YtjjbdgngncgikaaGreatDoorW.PrintMore

set_option linter.unusedVariables false
set_option linter.unusedSimpArgs false
theorem inside_f (x : Int) : plenumref19_inside.f x = some (decide (-1000000000000 ≤ x ∧ x ≤ 1000000000000)) := by
  unfold plenumref19_inside.f
  by_cases c : x ≥ -1000000000000
  · rw [if_pos c]; congr 1; apply decide_eq_decide.2; omega
  · rw [if_neg c]; symm; congr 1; exact decide_eq_false (by omega)
theorem seconds_f (x : Int) : plenumref19_seconds.f x = some (decide (0 ≤ x ∧ x ≤ 86400)) := by
  unfold plenumref19_seconds.f
  by_cases c : x ≥ 0
  · rw [if_pos c]; congr 1; apply decide_eq_decide.2; omega
  · rw [if_neg c]; symm; congr 1; exact decide_eq_false (by omega)
theorem typed_l0 (nm : ByteArray) (t : Bool) (ht : (nm.toList = ([104, 121, 115, 116] : List UInt8)) ↔ t = false) (r : List S26) (hr : r.length ≤ 10) : ∀ (d i k : Nat), i + d = r.length → 2 * d < k → plenumref19_Typed.l0 k nm r (i : Int) = some ((r.drop i).all (fitv t))
  | 0, i, k, hd, hk => by
    obtain ⟨k, rfl⟩ : ∃ m, k = m + 1 := ⟨k - 1, by omega⟩
    simp only [plenumref19_Typed.l0]
    rw [if_neg (by omega), List.drop_eq_nil_of_le (by omega)]
    rfl
  | d + 1, i, k, hd, hk => by
    obtain ⟨k, rfl⟩ : ∃ m, k = m + 2 := ⟨k - 2, by omega⟩
    have hi : i < r.length := by omega
    have ih := typed_l0 nm t ht r hr d (i + 1) k (by omega) (by omega)
    simp only [plenumref19_Typed.l0, plenumref19_Typed.j1]
    rw [if_pos (by omega), rdV r i hi, wrap_id (by omega) (by omega), show (i : Int) + 1 = ((i + 1 : Nat) : Int) by omega, ih, List.drop_eq_getElem_cons (i := i) hi, List.all_cons]
    cases t
    · have h := ht.2 rfl
      rw [if_pos h, if_pos (show (0 : Int) ≤ (i : Int) by omega), if_pos h]
      unfold fitv
      rw [if_neg (show ¬ (false = true) by simp)]
      by_cases c : (r[i]).f0 = 1
      · rw [show ((r[i]).f0 != 1) = false from bne_eq_false_iff_eq.2 c, if_neg (show ¬ (false = true) by simp), decide_eq_true c, Bool.true_and]
      · rw [show ((r[i]).f0 != 1) = true from bne_iff_ne.2 c, if_pos rfl, decide_eq_false c, Bool.false_and]
    · have h : ¬ nm.toList = ([104, 121, 115, 116] : List UInt8) := fun h => absurd (ht.1 h) (by simp)
      rw [if_neg h, if_neg (show ¬ (false = true) by simp), if_neg h, if_pos (show (0 : Int) ≤ (i : Int) by omega), if_pos (show (i : Int) < (r.length : Int) by omega)]
      unfold fitv
      rw [if_pos (rfl : true = true)]
      by_cases c1 : (r[i]).f0 = 2
      · rw [if_pos c1]
        by_cases c2 : (r[i]).f1 = 0
        · rw [if_pos c2, decide_eq_true ⟨c1, .inl c2⟩, Bool.true_and]
        · rw [if_neg c2]
          by_cases c3 : (r[i]).f1 = 1
          · rw [if_pos c3, decide_eq_true ⟨c1, .inr c3⟩, Bool.true_and]
          · rw [if_neg c3, decide_eq_false (fun h => h.2.elim c2 c3), Bool.false_and]
      · rw [if_neg c1, decide_eq_false (fun h => c1 h.1), Bool.false_and]
theorem fit_bv {v : S26} (h : fitv true v = true) : ∃ a, v = bv a := by
  have h := of_decide_eq_true (show decide (v.f0 = 2 ∧ (v.f1 = 0 ∨ v.f1 = 1)) = true from h)
  obtain ⟨x, y⟩ := v
  obtain ⟨h1, h2 | h2⟩ := h
  · exact ⟨false, by simp only at h1 h2; rw [h1, h2]; rfl⟩
  · exact ⟨true, by simp only at h1 h2; rw [h1, h2]; rfl⟩
theorem fit_an {v : S26} (h : fitv false v = true) : ∃ x, v = ⟨1, x⟩ := by
  have h := of_decide_eq_true (show decide (v.f0 = 1) = true from h)
  obtain ⟨x, y⟩ := v
  exact ⟨y, by simp only at h; rw [h]⟩
/-- What the reference knows of a block. -/
structure RB (nm : ByteArray) (B : List (Int × Int)) (T : List Bool) (n : Nat) : Prop where
  known : plenumref19_Known.f 20 nm = some true
  formed : ∀ l, plenumref19_Formed.f nm l = some (decide (goodP nm B l))
  poss : ∀ l s k, 5 ≤ k → goodP nm B l → ∃ p, plenumref19_Possible.f k nm l s = some p ∧ (s.length ≠ n → p = false) ∧ (s.length = n → timer_possible.f nm l s = some p)
  count : plenumref19_Count.f nm = some (T.length : Int)
  typed : ∀ r k, 60 ≤ k → r.length = T.length → plenumref19_Typed.f k nm r = some (decide (inp T r = 0))
  inpe : ∀ r, inp T r = 0 ∨ inp T r = 11
  step : ∀ l s r dt k, 60 ≤ k → goodP nm B l → s.length = n → timer_possible.f nm l s = some true → 1 ≤ dt → dt ≤ 86400 → r.length = T.length → inp T r = 0 →
    ∃ s' kd x, timer_step.f k nm l s r dt = some (kd, x, s') ∧ plenumref19_step.f k nm l s r dt = some (s', kd, x) ∧ s'.length = n ∧ timer_possible.f nm l s' = some true
theorem rstep_f {nm B T} {n : Nat} (b : RB nm B T n) (l s : List Int) (r : List S26) (dt : Int) (k : Nat) (hk : 70 ≤ k) :
    plenumref19_Step.f k nm l s r dt = if goodP nm B l then (if (s.length : Int) = n then ((timer_possible.f nm l s).bind fun p => if p = true ∧ 1 ≤ dt ∧ dt ≤ 86400 then (if inpE T r = 0 then (plenumref19_step.f k nm l s r dt).bind fun t => some (t.1, t.2.1, t.2.2, 0) else some ([], 0, 0, inpE T r)) else some ([], 0, 0, 1)) else some ([], 0, 0, 1)) else some ([], 0, 0, 1) := by
  obtain ⟨k, rfl⟩ : ∃ m, k = m + 1 := ⟨k - 1, by omega⟩
  have hj : plenumref19_Check.j0 (k + 1) nm r true = some 1 := by simp only [plenumref19_Check.j0]; rfl
  unfold plenumref19_Step.f plenumref19_Check.f
  rw [at_rounds (plenumref19_Known.mono _) (by omega : 20 ≤ k + 1) b.known, Option.bind_some, if_pos rfl, b.formed, Option.bind_some]
  by_cases hg : goodP nm B l
  · rw [if_pos (decide_eq_true hg), if_pos hg]
    obtain ⟨p, hp, hp1, hp2⟩ := b.poss l s (k + 1) (by omega) hg
    rw [hp, Option.bind_some]
    by_cases hs : s.length = n
    · rw [if_pos (show (s.length : Int) = n by omega), hp2 hs, Option.bind_some]
      cases p
      · rw [if_neg (by simp), hj, Option.bind_some, if_neg (by decide), if_neg (fun h => absurd h.1 (by simp))]
      · rw [if_pos rfl]
        by_cases d1 : dt < 1
        · rw [if_pos d1, hj, Option.bind_some, if_neg (by decide), if_neg (fun h => by omega)]
        · rw [if_neg d1]
          by_cases d2 : dt > 86400
          · rw [if_pos d2, hj, Option.bind_some, if_neg (by decide), if_neg (fun h => by omega)]
          · rw [if_neg d2, b.count, Option.bind_some, if_pos ⟨rfl, by omega, by omega⟩]
            unfold inpE
            by_cases hr : r.length = T.length
            · rw [if_pos hr, show ((r.length : Int) != (T.length : Int)) = false from bne_eq_false_iff_eq.2 (by omega)]
              simp only [plenumref19_Check.j0]
              rw [if_neg (by simp), b.typed r k (by omega) hr, Option.bind_some]
              rcases b.inpe r with c | c
              · rw [decide_eq_true c, if_pos rfl, Option.bind_some, if_pos rfl, if_pos c]
              · rw [decide_eq_false (by omega), if_neg (by simp), Option.bind_some, if_neg (by decide), if_neg (by omega), c]
            · rw [if_neg hr, show ((r.length : Int) != (T.length : Int)) = true from bne_iff_ne.2 (by omega), hj, Option.bind_some, if_neg (by decide)]
    · rw [if_neg (show ¬ (s.length : Int) = n by omega), hp1 hs, if_neg (by simp), hj, Option.bind_some, if_neg (by decide)]
  · rw [if_neg (by simpa using hg), if_neg hg, hj, Option.bind_some, if_neg (by decide)]
theorem both {nm B T} {n : Nat} (b : RB nm B T n) (c : Blk nm B T n) (hh : nm.toList = ([104, 121, 115, 116] : List UInt8) → B.length = 2) (l s : List Int) (r : List S26) (dt : Int) :
    ∃ s' kd x e, (s' = [] ∨ s'.length = n) ∧ (∀ k, 80 ≤ k → timer_Step.f k nm l s r dt = some (s', kd, x, e) ∧ plenumref19_Step.f k nm l s r dt = some (s', kd, x, e)) ∧ (e = 0 → goodP nm B l ∧ s'.length = n ∧ timer_possible.f nm l s' = some true ∧ (1 ≤ dt ∧ dt ≤ 86400) ∧ inpE T r = 0) := by
  have err : ∀ e : Int, e ≠ 0 → (∀ k, 80 ≤ k → timer_Step.f k nm l s r dt = some ([], 0, 0, e) ∧ plenumref19_Step.f k nm l s r dt = some ([], 0, 0, e)) → ∃ s' kd x e, (s' = [] ∨ s'.length = n) ∧ (∀ k, 80 ≤ k → timer_Step.f k nm l s r dt = some (s', kd, x, e) ∧ plenumref19_Step.f k nm l s r dt = some (s', kd, x, e)) ∧ (e = 0 → goodP nm B l ∧ s'.length = n ∧ timer_possible.f nm l s' = some true ∧ (1 ≤ dt ∧ dt ≤ 86400) ∧ inpE T r = 0) :=
    fun e he h => ⟨[], 0, 0, e, .inl rfl, h, fun h0 => absurd h0 he⟩
  by_cases hg : goodP nm B l
  · by_cases hs : s.length = n
    · obtain ⟨p, hp, hp1, hp2⟩ := b.poss l s 5 (by omega) hg
      have hp2 := hp2 hs
      by_cases hpd : p = true ∧ 1 ≤ dt ∧ dt ≤ 86400
      · by_cases hi : inpE T r = 0
        · have hr : r.length = T.length := by
            unfold inpE at hi; split at hi
            · assumption
            · omega
          have hi2 : inp T r = 0 := by unfold inpE at hi; rw [if_pos hr] at hi; exact hi
          obtain ⟨s', kd, x, q1, q2, q3, q4⟩ := b.step l s r dt 60 (by omega) hg hs (hpd.1 ▸ hp2) hpd.2.1 hpd.2.2 hr hi2
          refine ⟨s', kd, x, 0, .inr q3, fun k hk => ?_, fun _ => ⟨hg, q3, q4, hpd.2, hi⟩⟩
          obtain ⟨s1, kd1, x1, u1, u2, _, _⟩ := b.step l s r dt k (by omega) hg hs (hpd.1 ▸ hp2) hpd.2.1 hpd.2.2 hr hi2
          obtain ⟨s2, kd2, x2, v1, v2, _, _⟩ := b.step l s r dt (k - 1) (by omega) hg hs (hpd.1 ▸ hp2) hpd.2.1 hpd.2.2 hr hi2
          have e1 := (at_rounds (plenumref19_step.mono _ _ _ _ _) (by omega : 60 ≤ k) q2).symm.trans u2
          have e2 := (at_rounds (plenumref19_step.mono _ _ _ _ _) (by omega : 60 ≤ k - 1) q2).symm.trans v2
          simp only [Option.some.injEq, Prod.mk.injEq] at e1 e2
          obtain ⟨rfl, rfl, rfl⟩ := e1
          obtain ⟨rfl, rfl, rfl⟩ := e2
          obtain ⟨m, rfl⟩ : ∃ m, k = m + 1 := ⟨k - 1, by omega⟩
          rw [Nat.add_sub_cancel] at v1
          rw [step_f c hh l s r dt m (by omega), rstep_f b l s r dt (m + 1) (by omega), if_pos hg, if_pos hg, if_pos (show (s.length : Int) = n by omega), if_pos (show (s.length : Int) = n by omega), hp2, Option.bind_some, Option.bind_some, if_pos hpd, if_pos hpd, if_pos hi, if_pos hi, v1, u2]
          exact ⟨rfl, rfl⟩
        · refine err (inpE T r) hi fun k hk => ?_
          obtain ⟨m, rfl⟩ : ∃ m, k = m + 1 := ⟨k - 1, by omega⟩
          rw [step_f c hh l s r dt m (by omega), rstep_f b l s r dt (m + 1) (by omega), if_pos hg, if_pos hg, if_pos (show (s.length : Int) = n by omega), if_pos (show (s.length : Int) = n by omega), hp2, Option.bind_some, Option.bind_some, if_pos hpd, if_pos hpd, if_neg hi, if_neg hi]
          exact ⟨rfl, rfl⟩
      · refine err 1 (by decide) fun k hk => ?_
        obtain ⟨m, rfl⟩ : ∃ m, k = m + 1 := ⟨k - 1, by omega⟩
        rw [step_f c hh l s r dt m (by omega), rstep_f b l s r dt (m + 1) (by omega), if_pos hg, if_pos hg, if_pos (show (s.length : Int) = n by omega), if_pos (show (s.length : Int) = n by omega), hp2, Option.bind_some, Option.bind_some, if_neg hpd, if_neg hpd]
        exact ⟨rfl, rfl⟩
    · refine err 1 (by decide) fun k hk => ?_
      obtain ⟨m, rfl⟩ : ∃ m, k = m + 1 := ⟨k - 1, by omega⟩
      rw [step_f c hh l s r dt m (by omega), rstep_f b l s r dt (m + 1) (by omega), if_pos hg, if_pos hg, if_neg (show ¬ (s.length : Int) = n by omega), if_neg (show ¬ (s.length : Int) = n by omega)]
      exact ⟨rfl, rfl⟩
  · refine err 1 (by decide) fun k hk => ?_
    obtain ⟨m, rfl⟩ : ∃ m, k = m + 1 := ⟨k - 1, by omega⟩
    rw [step_f c hh l s r dt m (by omega), rstep_f b l s r dt (m + 1) (by omega), if_neg hg, if_neg hg]
    exact ⟨rfl, rfl⟩
end Go.Proofs.YtjjbdgngncgikaaGreatDoor.Tm
