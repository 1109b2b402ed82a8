/-
  TimerDelays: with steps of one second ondelay is on exactly if a is on and was on in at least time steps directly before; offdelay exactly if a is on, or was on in one of the time steps before: the plain law.
-/
import Derived.Test.YtjjbdgngncgikaaDoorTm3
import Derived.Test.YtjjbdgngncgikaaDoorRx0
import Derived.Test.YtjjbdgngncgikaaDoorRx19
import Derived.Test.YtjjbdgngncgikaaDoorRx26
namespace Go.Proofs.YtjjbdgngncgikaaDoor.Pure
open Go Go.RowKit Go.Proofs.YtjjbdgngncgikaaDoor.R Go.Proofs.YtjjbdgngncgikaaDoor.Tm Go.Proofs.YtjjbdgngncgikaaDoorW.PrintWords Go.Proofs.YtjjbdgngncgikaaDoorW.PrintMore
set_option linter.unusedVariables false
set_option linter.unusedSimpArgs false

/-- Are all of the first m on, from lo on? Is one? -/
def AD (l : List Bool) (lo : Int) : Nat → Bool
  | 0 => true
  | m + 1 => if (m : Int) ≥ lo then l.getD m false && AD l lo m else true
def SD (l : List Bool) (lo : Int) : Nat → Bool
  | 0 => false
  | m + 1 => if (m : Int) ≥ lo then l.getD m false || SD l lo m else false
theorem AD_tr (l : List Bool) (lo : Int) (h : 0 ≤ lo) : ∀ m, AD l lo m = decide ((m : Int) - lo ≤ tr l m)
  | 0 => by simp only [AD, tr]; symm; apply decide_eq_true; omega
  | m + 1 => by
    have ih := AD_tr l lo h m
    have w := tr_wf l m
    have w1 := tr_wf l (m + 1)
    simp only [AD]
    by_cases c : (m : Int) ≥ lo
    · rw [if_pos c, ih]
      cases hb : l.getD m false
      · rw [tr_f hb, Bool.false_and]; symm; apply decide_eq_false; omega
      · rw [tr_t hb, Bool.true_and]; apply decide_eq_decide.2; omega
    · rw [if_neg c]; symm; apply decide_eq_true; omega
theorem SD_fs (l : List Bool) (lo : Int) : ∀ m, SD l lo m = decide (0 ≤ fs (fun j => l.getD j false) m ∧ (m : Int) - 1 - fs (fun j => l.getD j false) m ≥ lo)
  | 0 => by simp only [SD, fs]; symm; apply decide_eq_false; omega
  | m + 1 => by
    have ih := SD_fs l lo m
    have w := fs_wf (fun j => l.getD j false) m
    have w1 := fs_wf (fun j => l.getD j false) (m + 1)
    simp only [SD]
    by_cases c : (m : Int) ≥ lo
    · rw [if_pos c, ih]
      cases hb : l.getD m false
      · rw [fs_f (g := fun j => l.getD j false) hb, Bool.false_or]; apply decide_eq_decide.2; split <;> omega
      · rw [fs_t (g := fun j => l.getD j false) hb, Bool.true_or]; symm; apply decide_eq_true; omega
    · rw [if_neg c]; symm; apply decide_eq_false; omega
def so (time x : Int) : Int := if x < 0 then 0 else if x = 0 then -1 else if x - 1 < time then x else 0
theorem so_a {time x : Int} (h : x < 0) : so time x = 0 := by unfold so; rw [if_pos h]
theorem so_b {time : Int} : so time 0 = -1 := rfl
theorem so_c {time x : Int} (h : 0 < x) (h2 : x - 1 < time) : so time x = x := by unfold so; rw [if_neg (by omega), if_neg (by omega), if_pos h2]
theorem so_d {time x : Int} (h : 0 < x) (h2 : ¬ x - 1 < time) : so time x = 0 := by unfold so; rw [if_neg (by omega), if_neg (by omega), if_neg h2]
theorem off0 (time : Int) : offS time 1 0 false = (0, false) := rfl
theorem off1 (time : Int) : offS time 1 (-1) false = if 0 < time then (1, true) else (0, false) := rfl
theorem off2 {time x : Int} (h : 0 < x) : offS time 1 x false = if x < time then (x + 1, true) else (0, false) := by
  unfold offS
  rw [if_neg (show ¬ (false = true) by simp), if_neg (show ¬ x = 0 by omega), if_neg (show ¬ x = -1 by omega), show x - 1 + 1 = x by omega]
theorem off_step {time x : Int} (h : 0 ≤ time) (hx : -1 ≤ x) : offS time 1 (so time x) false = (so time (if x < 0 then -1 else x + 1), decide (0 ≤ (if x < 0 then -1 else x + 1) ∧ (if x < 0 then -1 else x + 1) ≤ time)) := by
  obtain ⟨y, hy⟩ : ∃ y, (if x < 0 then -1 else x + 1) = y := ⟨_, rfl⟩
  rw [hy]
  by_cases c1 : x < 0
  · rw [if_pos c1] at hy; subst hy
    rw [so_a c1, off0, so_a (by decide), decide_eq_false (by omega)]
  · rw [if_neg c1] at hy; subst hy
    by_cases c2 : x = 0
    · subst c2
      rw [so_b, off1]
      by_cases c3 : 0 < time
      · rw [if_pos c3, so_c (by omega) (by omega), decide_eq_true (by omega)]; rfl
      · rw [if_neg c3, so_d (by omega) (by omega), decide_eq_false (by omega)]
    · by_cases c3 : x - 1 < time
      · rw [so_c (by omega) c3, off2 (by omega)]
        by_cases c4 : x < time
        · rw [if_pos c4, so_c (by omega) (by omega), decide_eq_true (by omega)]
        · rw [if_neg c4, so_d (by omega) (by omega), decide_eq_false (by omega)]
      · rw [so_d (by omega) c3, off0, so_d (by omega) (by omega), decide_eq_false (by omega)]
theorem so_wf {time x : Int} (h : 0 ≤ time) : -1 ≤ so time x ∧ so time x ≤ time := by unfold so; repeat' split; all_goals omega
section
variable {time : Int} (h1 : 0 ≤ time) (h2 : time ≤ 100) (l : List Bool) (hl : l.length ≤ 80)
def onst (time : Int) (l : List Bool) (i : Nat) : List Int := [min (tr l i) (time + 1)]
def onov (time : Int) (l : List Bool) (i : Nat) : Bool := decide (time + 1 ≤ tr l (i + 1))
def offst (time : Int) (l : List Bool) (i : Nat) : List Int := [so time (fs (fun j => l.getD j false) i)]
def offov (time : Int) (l : List Bool) (i : Nat) : Bool := decide (0 ≤ fs (fun j => l.getD j false) (i + 1) ∧ fs (fun j => l.getD j false) (i + 1) ≤ time)
include h1 h2 hl
theorem run_on (k : Nat) (hk : 300 ≤ k) : timer_Run.f k ondelayB [time] (onR l) 1 = some ((List.range l.length).map fun i => bv (onov time l i), 0) := by
  have := run_seq (n := 1) (K := 70) ondelay_blk (fun h => absurd h nh_on) (good_one nh_on h1 (by omega)) (rows := onR l) (dt := 1) (by rw [onR_len]; omega) (onst time l) (fun i => bv (onov time l i)) (by simp [onst, tr]; omega) (fun i h k hk => by
    have w := tr_wf l i
    rw [onR_get, onst, step_on (by omega) (by omega) k hk h1 (by omega) (by omega) (by omega), onst]
    unfold onov onS
    cases hb : l.getD i false
    · rw [if_neg (show ¬ (false = true) by simp), tr_f hb]
      simp only [bv]
      rw [decide_eq_false (show ¬ (time + 1 ≤ 0) by omega), show min 0 (time + 1) = 0 by omega]
    · rw [if_pos rfl, tr_t hb]
      simp only [bv]
      have e : (if min (tr l i) (time + 1) = 0 then 0 else min (min (tr l i) (time + 1) - 1 + 1) time) = min (tr l i) time := by split <;> omega
      rw [e, show min (tr l i) time + 1 = min (tr l i + 1) (time + 1) by omega]
      have e2 : (min (tr l i) time == time) = decide (time + 1 ≤ tr l i + 1) := by
        by_cases c : time ≤ tr l i
        · rw [decide_eq_true (by omega), beq_iff_eq]; omega
        · rw [decide_eq_false (by omega), beq_eq_false_iff_ne]; omega
      rw [e2]) k (by rw [onR_len]; omega)
  rw [onR_len] at this
  exact this
theorem run_off (k : Nat) (hk : 300 ≤ k) : timer_Run.f k offdelayB [time] (onR l) 1 = some ((List.range l.length).map fun i => bv (offov time l i), 0) := by
  have := run_seq (n := 1) (K := 70) offdelay_blk (fun h => absurd h nh_off) (good_one nh_off h1 (by omega)) (rows := onR l) (dt := 1) (by rw [onR_len]; omega) (offst time l) (fun i => bv (offov time l i)) rfl (fun i h k hk => by
    have w := fs_wf (fun j => l.getD j false) i
    have sw := so_wf (x := fs (fun j => l.getD j false) i) h1
    rw [onR_get, offst, step_off (by omega) (by omega) k hk h1 (by omega) (by omega) (by omega), offst]
    unfold offov
    cases hb : l.getD i false
    · rw [fs_f (g := fun j => l.getD j false) hb, off_step h1 (by omega)]; rfl
    · rw [fs_t (g := fun j => l.getD j false) hb]
      simp only [bv]
      rw [so_b, decide_eq_true (by omega)]; rfl) k (by rw [onR_len]; omega)
  rw [onR_len] at this
  exact this
theorem delays_l1 (i : Nat) (hi : i < l.length) (A S : List S32) (K : Nat) (ra rs : Bool)
    (hend : ∀ k, K ≤ k → plenumlaw19_TimerDelays.j4 k time l A S (i : Int) ra rs = some true) :
    ∀ (m k : Nat) (a s : Bool), m ≤ i + 1 → (a && AD l (i - time) m) = ra → (s || SD l (i - time) m) = rs → K + m < k →
    plenumlaw19_TimerDelays.l1 k time l A S (i : Int) a s ((m : Int) - 1) = some true
  | 0, k, a, s, hm, ha, hs, hk => by
    obtain ⟨k, rfl⟩ : ∃ m, k = m + 1 := ⟨k - 1, by omega⟩
    simp only [plenumlaw19_TimerDelays.l1]
    rw [if_neg (by omega)]
    simp only [AD, SD, Bool.and_true, Bool.or_false] at ha hs
    rw [ha, hs]
    exact hend _ (by omega)
  | m + 1, k, a, s, hm, ha, hs, hk => by
    obtain ⟨k, rfl⟩ : ∃ m, k = m + 1 := ⟨k - 1, by omega⟩
    have hm1 : (((m + 1 : Nat) : Int) - 1) = (m : Int) := by omega
    simp only [plenumlaw19_TimerDelays.l1]
    rw [hm1, wrap_id (x := (i : Int) - time) (by omega) (by omega), wrap_id (x := (m : Int) - 1) (by omega) (by omega), if_pos (show (m : Int) ≥ 0 by omega)]
    by_cases c : (m : Int) ≥ (i : Int) - time
    · rw [if_pos c, rdG]
      simp only [if_pos (show (0 : Int) ≤ (m : Int) by omega), if_pos (show (m : Int) < (l.length : Int) by omega)]
      simp only [AD, SD, if_pos c] at ha hs
      have ih := fun a' s' h h' => delays_l1 i hi A S K ra rs hend m k a' s' (by omega) h h' (by omega)
      cases a
      · rw [if_neg (show ¬ (false = true) by simp)]
        cases s
        · rw [if_neg (show ¬ (false = true) by simp)]
          refine ih _ _ ?_ ?_ <;> first | (rw [← ha]; simp; done) | (rw [← hs]; simp; done)
        · rw [if_pos rfl]
          refine ih _ _ ?_ ?_ <;> first | (rw [← ha]; simp; done) | (rw [← hs]; simp; done)
      · rw [if_pos rfl]
        cases s
        · rw [if_neg (show ¬ (false = true) by simp)]
          refine ih _ _ ?_ ?_ <;> first | (rw [← ha]; simp; done) | (rw [← hs]; simp; done)
        · rw [if_pos rfl]
          refine ih _ _ ?_ ?_ <;> first | (rw [← ha]; simp; done) | (rw [← hs]; simp; done)
    · rw [if_neg c]
      simp only [AD, SD, if_neg c, Bool.and_true, Bool.or_false] at ha hs
      rw [ha, hs]
      exact hend _ (by omega)
theorem delays_l0 (A S : List S32) (hA : A = (List.range l.length).map fun i => bv (onov time l i)) (hS : S = (List.range l.length).map fun i => bv (offov time l i)) : ∀ (d i k : Nat), i + d = l.length → 100 * d < k →
    plenumlaw19_TimerDelays.l0 k time l A S (i : Int) = some true
  | 0, i, k, hd, hk => by
    obtain ⟨k, rfl⟩ : ∃ m, k = m + 1 := ⟨k - 1, by omega⟩
    simp only [plenumlaw19_TimerDelays.l0]
    rw [if_neg (by omega)]
  | d + 1, i, k, hd, hk => by
    obtain ⟨k, rfl⟩ : ∃ m, k = m + 1 := ⟨k - 1, by omega⟩
    have hi : i < l.length := by omega
    have hAl : A.length = l.length := by rw [hA, len_range]
    have hSl : S.length = l.length := by rw [hS, len_range]
    simp only [plenumlaw19_TimerDelays.l0]
    rw [if_pos (by omega)]
    have := delays_l1 h1 h2 l hl i hi A S (100 * d + 1 + 1) (decide ((i : Int) ≥ time) && AD l ((i : Int) - time) (i + 1)) (false || SD l ((i : Int) - time) (i + 1)) (fun k hk => by
      obtain ⟨k, rfl⟩ : ∃ m, k = m + 1 := ⟨k - 1, by omega⟩
      have w := tr_wf l (i + 1)
      have ea : (decide ((i : Int) ≥ time) && AD l ((i : Int) - time) (i + 1)) = onov time l i := by
        unfold onov
        by_cases c : (i : Int) ≥ time
        · rw [decide_eq_true c, Bool.true_and, AD_tr _ _ (by omega)]; apply decide_eq_decide.2; omega
        · rw [decide_eq_false c, Bool.false_and]; symm; apply decide_eq_false; omega
      have es : (false || SD l ((i : Int) - time) (i + 1)) = offov time l i := by
        unfold offov
        rw [Bool.false_or, SD_fs]; apply decide_eq_decide.2; omega
      rw [ea, es]
      simp only [plenumlaw19_TimerDelays.j4]
      rw [if_pos (by omega), if_pos (by omega), lbit_f, Option.bind_some, hA, rd_range _ _ i hi, if_neg (by rw [cmp_bv]; simp), if_pos (by omega), lbit_f, Option.bind_some, hS, rd_range _ _ i hi, if_neg (by rw [cmp_bv]; simp)]
      rw [wrap_id (by omega) (by omega), show (i : Int) + 1 = ((i + 1 : Nat) : Int) by omega, ← hA, ← hS]
      exact delays_l0 A S hA hS d (i + 1) k (by omega) (by omega)) (i + 1) k (decide ((i : Int) ≥ time)) false (by omega) rfl rfl (by omega)
    rw [show (((i + 1 : Nat) : Int) - 1) = (i : Int) by omega] at this
    exact this
end
theorem TimerDelays (time : Int) (l : List Bool) (_ : (Lit.int .i64 time).wf = true) (_ : l.length ≤ maxLen) (_ : ∀ x ∈ l, True) : ∃ k, plenumlaw19_TimerDelays.f k time l = some true := by
  have hj0 : ∀ k, plenumlaw19_TimerDelays.j0 (k + 1) time l true = some true := by intro k; simp only [plenumlaw19_TimerDelays.j0]; rfl
  refine ⟨9001, ?_⟩
  unfold plenumlaw19_TimerDelays.f
  rw [awake_f _ (by omega), Option.bind_some, if_pos rfl]
  by_cases c1 : (l.length : Int) > 80
  · rw [if_pos c1]; exact hj0 _
  rw [if_neg c1]
  by_cases c2 : time < 0
  · rw [if_pos c2]; exact hj0 _
  rw [if_neg c2]
  by_cases c3 : time > 100
  · rw [decide_eq_true c3]; exact hj0 _
  rw [decide_eq_false c3]
  simp only [plenumlaw19_TimerDelays.j0]
  rw [if_neg (by simp), on_f l (by omega) _ (by omega), Option.bind_some, show (⟨#[111, 110, 100, 101, 108, 97, 121]⟩ : ByteArray) = ondelayB from rfl, show (⟨#[111, 102, 102, 100, 101, 108, 97, 121]⟩ : ByteArray) = offdelayB from rfl, run_on (by omega) (by omega) l (by omega) _ (by omega), Option.bind_some, Option.bind_some, run_off (by omega) (by omega) l (by omega) _ (by omega), Option.bind_some, if_pos rfl, if_pos rfl, len_range, len_range, if_pos rfl]
  simp only [plenumlaw19_TimerDelays.j1]
  rw [if_neg (by simp)]
  exact delays_l0 (by omega) (by omega) l (by omega) _ _ rfl rfl l.length 0 8999 (by omega) (by omega)
end Go.Proofs.YtjjbdgngncgikaaDoor.Pure
