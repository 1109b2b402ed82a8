/-
  TimerPulses: with steps of one second the output of pulse is on exactly if a rose in this step or in one of the time - 1 steps before it: the plain law.
-/
import Derived.Test.YtjjbdgngncgikaaDoorTm3
import Derived.Test.YtjjbdgngncgikaaDoorRx0
import Derived.Test.YtjjbdgngncgikaaDoorRx19
import Derived.Test.YtjjbdgngncgikaaDoorRx27
namespace Go.Proofs.YtjjbdgngncgikaaDoor.Pure
open Go Go.RowKit Go.Proofs.YtjjbdgngncgikaaDoor.R Go.Proofs.YtjjbdgngncgikaaDoor.Tm Go.Proofs.YtjjbdgngncgikaaDoorW.PrintWords Go.Proofs.YtjjbdgngncgikaaDoorW.PrintMore
set_option linter.unusedVariables false
set_option linter.unusedSimpArgs false

def SG (g : Nat → Bool) (lo : Int) : Nat → Bool
  | 0 => false
  | m + 1 => if (m : Int) > lo then g m || SG g lo m else false
theorem SG_fs (g : Nat → Bool) (lo : Int) : ∀ m, SG g lo m = decide (0 ≤ fs g m ∧ (m : Int) - 1 - fs g m > lo)
  | 0 => by simp only [SG, fs]; symm; apply decide_eq_false; omega
  | m + 1 => by
    have ih := SG_fs g lo m
    have w := fs_wf g m
    have w1 := fs_wf g (m + 1)
    simp only [SG]
    by_cases c : (m : Int) > lo
    · rw [if_pos c, ih]
      cases hb : g m
      · rw [fs_f hb, Bool.false_or]; apply decide_eq_decide.2; split <;> omega
      · rw [fs_t hb, Bool.true_or]; symm; apply decide_eq_true; omega
    · rw [if_neg c]; symm; apply decide_eq_false; omega
def qq (time x : Int) : Int := if 0 ≤ x ∧ x < time then x + 1 else 0
theorem pul_step {time x : Int} (h : 0 ≤ time) (hx : -1 ≤ x) (a p : Bool) (x' : Int) (hx' : x' = if (a && !p) = true then 0 else if x < 0 then -1 else x + 1) :
    pulS time 1 (bitv p) (qq time x) a = (qq time x', decide (0 ≤ x' ∧ x' < time)) := by
  have e : pulE 1 (bitv p) (qq time x) a = if (a && !p) = true then 0 else if qq time x = 0 then -1 else qq time x - 1 + 1 := by
    unfold pulE
    cases a <;> cases p <;> rfl
  unfold pulS
  rw [e]
  cases hg : (a && !p)
  · rw [hg, if_neg (by simp)] at hx'
    rw [if_neg (show ¬ (false = true) by simp)]
    by_cases c : 0 ≤ x ∧ x < time
    · have hq : qq time x = x + 1 := by unfold qq; rw [if_pos c]
      rw [hq, if_neg (show ¬ x + 1 = 0 by omega), show x + 1 - 1 + 1 = x + 1 by omega]
      rw [if_neg (by omega)] at hx'
      subst hx'
      by_cases d : x + 1 < time
      · rw [if_pos ⟨by omega, d⟩, decide_eq_true ⟨by omega, d⟩, qq, if_pos ⟨by omega, d⟩]
      · rw [if_neg (fun h => d h.2), decide_eq_false (fun h => d h.2), qq, if_neg (fun h => d h.2)]
    · have hq : qq time x = 0 := by unfold qq; rw [if_neg c]
      have hn : ¬ (0 ≤ x' ∧ x' < time) := by subst hx'; split <;> omega
      rw [hq, if_pos rfl, if_neg (by omega), decide_eq_false hn, qq, if_neg hn]
  · rw [hg, if_pos rfl] at hx'
    subst hx'
    rw [if_pos rfl]
    by_cases d : 0 < time
    · rw [if_pos ⟨by omega, d⟩, decide_eq_true ⟨by omega, d⟩, qq, if_pos ⟨by omega, d⟩]
    · rw [if_neg (fun h => d h.2), decide_eq_false (fun h => d h.2), qq, if_neg (fun h => d h.2)]
theorem qq_wf {time x : Int} (h : 0 ≤ time) : 0 ≤ qq time x ∧ qq time x ≤ time := by unfold qq; split <;> omega
section
variable {time : Int} (h1 : 0 ≤ time) (h2 : time ≤ 100) (l : List Bool) (hl : l.length ≤ 80)
def pulov (time : Int) (l : List Bool) (i : Nat) : Bool := decide (0 ≤ fs (ris l) (i + 1) ∧ fs (ris l) (i + 1) < time)
include h1 h2 hl
theorem run_pul (k : Nat) (hk : 300 ≤ k) : timer_Run.f k pulseB [time] (onR l) 1 = some ((List.range l.length).map fun i => bv (pulov time l i), 0) := by
  have := run_seq (n := 2) (K := 70) pulse_blk (fun h => absurd h nh_pul) (good_one nh_pul h1 (by omega)) (rows := onR l) (dt := 1) (by rw [onR_len]; omega) (fun i => [bitv (pv l i), qq time (fs (ris l) i)]) (fun i => bv (pulov time l i)) rfl (fun i h k hk => by
    have w := fs_wf (ris l) i
    have qw := qq_wf (x := fs (ris l) i) h1
    rw [onR_get, step_pul (by omega) (by omega) k hk h1 (by omega) (bitv_wf _) qw.1 qw.2, pul_step h1 (by omega) (l.getD i false) (pv l i) (fs (ris l) (i + 1)) rfl]
    rfl) k (by rw [onR_len]; omega)
  rw [onR_len] at this
  exact this
theorem pulses_l1 (i : Nat) (hi : i < l.length) (A E : List S32) (hE : E = (List.range l.length).map fun i => bv (ris l i)) (K : Nat) (rs : Bool)
    (hend : ∀ k, K ≤ k → plenumlaw19_TimerPulses.j4 k time l A E (i : Int) rs = some true) :
    ∀ (m k : Nat) (s : Bool), m ≤ i + 1 → (s || SG (ris l) ((i : Int) - time) m) = rs → K + m < k →
    plenumlaw19_TimerPulses.l1 k time l A E (i : Int) s ((m : Int) - 1) = some true
  | 0, k, s, hm, hs, hk => by
    obtain ⟨k, rfl⟩ : ∃ m, k = m + 1 := ⟨k - 1, by omega⟩
    simp only [plenumlaw19_TimerPulses.l1]
    rw [if_neg (by omega)]
    simp only [SG, Bool.or_false] at hs
    rw [hs]
    exact hend _ (by omega)
  | m + 1, k, s, hm, hs, hk => by
    obtain ⟨k, rfl⟩ : ∃ m, k = m + 1 := ⟨k - 1, by omega⟩
    have hm1 : (((m + 1 : Nat) : Int) - 1) = (m : Int) := by omega
    have hEl : E.length = l.length := by rw [hE, len_range]
    simp only [plenumlaw19_TimerPulses.l1]
    rw [hm1, wrap_id (x := (i : Int) - time) (by omega) (by omega), wrap_id (x := (m : Int) - 1) (by omega) (by omega), if_pos (show (m : Int) ≥ 0 by omega)]
    by_cases c : (m : Int) > (i : Int) - time
    · rw [if_pos c]
      simp only [if_pos (show (0 : Int) ≤ (m : Int) by omega), if_pos (show (m : Int) < (E.length : Int) by omega)]
      simp only [SG, if_pos c] at hs
      have ih := fun s' h' => pulses_l1 i hi A E hE K rs hend m k s' (by omega) h' (by omega)
      have hr : ((rd_T32 E (m : Int)).f1 == 1) = ris l m := by rw [hE, rd_range _ _ m (by omega)]; exact bitv_one _
      cases s
      · rw [if_neg (show ¬ (false = true) by simp), hr]
        refine ih _ ?_
        rw [← hs]; simp
      · rw [if_pos rfl]
        refine ih _ ?_
        rw [← hs]; simp
    · rw [if_neg c]
      simp only [SG, if_neg c, Bool.or_false] at hs
      rw [hs]
      exact hend _ (by omega)
theorem pulses_l0 (A E : List S32) (hA : A = (List.range l.length).map fun i => bv (pulov time l i)) (hE : E = (List.range l.length).map fun i => bv (ris l i)) : ∀ (d i k : Nat), i + d = l.length → 100 * d < k →
    plenumlaw19_TimerPulses.l0 k time l A E (i : Int) = some true
  | 0, i, k, hd, hk => by
    obtain ⟨k, rfl⟩ : ∃ m, k = m + 1 := ⟨k - 1, by omega⟩
    simp only [plenumlaw19_TimerPulses.l0]
    rw [if_neg (by omega)]
  | d + 1, i, k, hd, hk => by
    obtain ⟨k, rfl⟩ : ∃ m, k = m + 1 := ⟨k - 1, by omega⟩
    have hi : i < l.length := by omega
    have hAl : A.length = l.length := by rw [hA, len_range]
    have hEl : E.length = l.length := by rw [hE, len_range]
    simp only [plenumlaw19_TimerPulses.l0]
    rw [if_pos (by omega)]
    have := pulses_l1 h1 h2 l hl i hi A E hE (100 * d + 1 + 1) (pulov time l i) (fun k hk => by
      obtain ⟨k, rfl⟩ : ∃ m, k = m + 1 := ⟨k - 1, by omega⟩
      have go := pulses_l0 A E hA hE d (i + 1) k (by omega) (by omega)
      have hrE : rd_T32 E (i : Int) = bv (ris l i) := by rw [hE, rd_range _ _ i hi]
      have hrA : rd_T32 A (i : Int) = bv (pulov time l i) := by rw [hA, rd_range _ _ i hi]
      simp only [plenumlaw19_TimerPulses.j4]
      rw [if_pos (by omega), if_pos (by omega), lbit_f, Option.bind_some, hrA, if_neg (by rw [cmp_bv]; simp), if_pos (by omega), if_pos (by omega), hrE, rdG]
      simp only [lbit_f, Option.bind_some]
      rw [wrap_id (x := (i : Int) + 1) (by omega) (by omega), show (i : Int) + 1 = ((i + 1 : Nat) : Int) by omega, wrap_id (x := (i : Int) - 1) (by omega) (by omega)]
      cases hb : l.getD i false
      · have e : ris l i = false := by unfold ris; rw [hb]; rfl
        rw [if_neg (by simp), e, if_neg (by rw [cmp_bv]; simp)]
        exact go
      · rw [if_pos rfl]
        by_cases c : (i : Int) = 0
        · have e : ris l i = true := by
            obtain rfl : i = 0 := by omega
            unfold ris; rw [hb]; rfl
          rw [if_pos c, e, if_neg (by rw [cmp_bv]; simp)]
          exact go
        · obtain ⟨j, rfl⟩ : ∃ j, i = j + 1 := ⟨i - 1, by omega⟩
          have e : ris l (j + 1) = !(l.getD j false) := by unfold ris; rw [hb, Bool.true_and]; rfl
          rw [if_neg c, if_pos (by omega), if_pos (by omega), show (((j + 1 : Nat) : Int) - 1) = (j : Int) by omega, rdG, e, if_neg (by rw [cmp_bv]; simp)]
          exact go) (i + 1) k false (by omega) (by
        have w := fs_wf (ris l) (i + 1)
        rw [Bool.false_or, SG_fs]; unfold pulov; apply decide_eq_decide.2; omega) (by omega)
    rw [show (((i + 1 : Nat) : Int) - 1) = (i : Int) by omega] at this
    exact this
end
theorem TimerPulses (time : Int) (l : List Bool) (_ : (Lit.int .i64 time).wf = true) (_ : l.length ≤ maxLen) (_ : ∀ x ∈ l, True) : ∃ k, plenumlaw19_TimerPulses.f k time l = some true := by
  have hj0 : ∀ k, plenumlaw19_TimerPulses.j0 (k + 1) time l true = some true := by intro k; simp only [plenumlaw19_TimerPulses.j0]; rfl
  refine ⟨9001, ?_⟩
  unfold plenumlaw19_TimerPulses.f
  rw [awake_f _ (by omega), Option.bind_some, if_pos rfl]
  by_cases c1 : (l.length : Int) > 80
  · rw [if_pos c1]; exact hj0 _
  rw [if_neg c1]
  by_cases c2 : time < 0
  · rw [if_pos c2]; exact hj0 _
  rw [if_neg c2]
  by_cases c3 : time > 100
  · rw [decide_eq_true c3]; exact hj0 _
  rw [decide_eq_false c3]
  simp only [plenumlaw19_TimerPulses.j0]
  rw [if_neg (by simp), on_f l (by omega) _ (by omega), Option.bind_some, show (⟨#[112, 117, 108, 115, 101]⟩ : ByteArray) = pulseB from rfl, show (⟨#[101, 100, 103, 101]⟩ : ByteArray) = edgeB from rfl, run_pul (by omega) (by omega) l (by omega) _ (by omega), Option.bind_some, Option.bind_some, run_edg (by omega) (by omega) l (by omega) _ (by omega), Option.bind_some, if_pos rfl, if_pos rfl, len_range, len_range, if_pos rfl]
  simp only [plenumlaw19_TimerPulses.j1]
  rw [if_neg (by simp)]
  exact pulses_l0 (by omega) (by omega) l (by omega) _ _ rfl rfl l.length 0 8999 (by omega) (by omega)
end Go.Proofs.YtjjbdgngncgikaaDoor.Pure
