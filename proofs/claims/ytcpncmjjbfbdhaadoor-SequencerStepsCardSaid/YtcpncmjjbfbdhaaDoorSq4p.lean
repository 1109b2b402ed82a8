/-
  PLAIN LAWS OF THE SEQUENCER, 4: the block steps, and Step at any name: what the program and the reference answer is the same.
-/
import Derived.Test.YtcpncmjjbfbdhaaDoorSq2v
import Derived.Test.YtcpncmjjbfbdhaaDoorRx0
import Derived.Test.YtcpncmjjbfbdhaaDoorRx5
import Derived.Test.YtcpncmjjbfbdhaaDoorRx6
import Derived.Test.YtcpncmjjbfbdhaaDoorRx7
namespace Go.Proofs.YtcpncmjjbfbdhaaDoor.Sq
open Go Go.RowKit Go.Proofs.YtcpncmjjbfbdhaaDoor.R Go.Proofs.YtcpncmjjbfbdhaaDoorW.PrintWords Go.Proofs.YtcpncmjjbfbdhaaDoorW.PrintMore
set_option linter.unusedVariables false
set_option linter.unusedSimpArgs false

theorem of_toList {s t : ByteArray} (h : s.toList = t.toList) : s = t := by
  rw [ByteArray.toList_eq, ByteArray.toList_eq] at h
  exact ByteArray.ext (Array.toList_inj.1 h)
theorem w01 : wrap64 (0 + 1) = 1 := by rw [wrap_id (by omega) (by omega)]; rfl
theorem w12 : wrap64 (1 + 1) = 2 := by rw [wrap_id (by omega) (by omega)]; rfl
def stp (n ls : Int) (run next : Bool) (dt s t : Int) : Int × Int :=
  if run = true then (if s = 0 then (1, 0) else if s < n ∧ next = true ∧ min (t + dt) 6311433599 ≥ ls then (s + 1, 0) else (s, min (t + dt) 6311433599)) else (0, 0)
structure VT (n s t : Int) : Prop where
  s1 : 0 ≤ s
  s2 : s ≤ n
  t1 : 0 ≤ t
  t2 : t ≤ 6311433599
structure P2 (n ls : Int) : Prop where
  n1 : 1 ≤ n
  n2 : n ≤ 15
  a1 : 0 ≤ ls
  a2 : ls ≤ 86400
theorem stp_vt {n ls dt s t : Int} {run next : Bool} (hp : P2 n ls) (hv : VT n s t) (h1 : 1 ≤ dt) (h2 : dt ≤ 86400) : VT n (stp n ls run next dt s t).1 (stp n ls run next dt s t).2 := by
  obtain ⟨n1, n2, a1, a2⟩ := hp
  obtain ⟨s1, s2, t1, t2⟩ := hv
  unfold stp
  repeat' split
  all_goals (constructor <;> simp only <;> omega)
theorem steps_f {n ls dt s t : Int} {run next : Bool} (hp : P2 n ls) (hv : VT n s t) (h1 : 1 ≤ dt) (h2 : dt ≤ 86400) :
    sequencer_steps.f [n, ls] [s, t] run next dt = some [(stp n ls run next dt s t).1, (stp n ls run next dt s t).2] := by
  obtain ⟨n1, n2, a1, a2⟩ := hp
  obtain ⟨s1, s2, t1, t2⟩ := hv
  unfold sequencer_steps.f stp
  rw [if_pos (by simp), if_pos (by simp), show rd [n, ls] 0 = n from rfl, show rd [n, ls] 1 = ls from rfl, show rd [s, t] 0 = s from rfl, show rd [s, t] 1 = t from rfl, mn_min, wrap_id (x := t + dt) (by omega) (by omega), wrap_id (x := s + 1) (by omega) (by omega)]
  cases run
  · rw [if_neg (by simp), if_neg (by simp)]
  · rw [if_pos rfl, if_pos rfl]
    by_cases c : s = 0
    · rw [if_pos c, if_pos c]
    · rw [if_neg c, if_neg c, if_pos (by simp)]
      by_cases c1 : s < n
      · rw [if_pos c1]
        cases next
        · rw [if_neg (by simp), if_neg (by simp)]
        · rw [if_pos rfl, if_pos (by simp)]
          by_cases c2 : min (t + dt) 6311433599 ≥ ls
          · rw [if_pos c2, if_pos ⟨c1, rfl, c2⟩]
          · rw [if_neg c2, if_neg (fun h => c2 h.2.2)]
      · rw [if_neg c1, if_neg (fun h => c1 h.1)]
def vtt (n : Int) : List Int → Bool
  | [s, t] => decide (0 ≤ s ∧ s ≤ n ∧ 0 ≤ t ∧ t ≤ 6311433599)
  | _ => false
theorem vtt_ok {n : Int} {l : List Int} (h : vtt n l = true) : ∃ s t, l = [s, t] ∧ VT n s t := by
  match l, h with
  | [s, t], h =>
    have h := of_decide_eq_true (show decide (0 ≤ s ∧ s ≤ n ∧ 0 ≤ t ∧ t ≤ 6311433599) = true from h)
    exact ⟨s, t, rfl, h.1, h.2.1, h.2.2.1, h.2.2.2⟩
theorem vtt_len {n : Int} {l : List Int} (h : l.length ≠ 2) : vtt n l = false := by
  match l, h with
  | [], _ => rfl
  | [_], _ => rfl
  | [_, _], h => exact absurd rfl h
  | _ :: _ :: _ :: _, _ => rfl
theorem possible_t (n : Int) (ps l : List Int) (k : Nat) (hk : 1 ≤ k) : sequencer_possible.f k stepsB (n :: ps) l = some (vtt n l) := by
  obtain ⟨k, rfl⟩ : ∃ m, k = m + 1 := ⟨k - 1, by omega⟩
  unfold sequencer_possible.f
  by_cases hl : l.length = 2
  · match l, hl with
    | [s, t], _ =>
      rw [if_pos (by simp), if_pos (by simp), show rd [s, t] 0 = s from rfl, show rd [s, t] 1 = t from rfl, show rd (n :: ps) 0 = n from rfl]
      simp only [sequencer_possible.j0, vtt, stepsB_l, show rd [s, t] 1 = t from rfl]
      by_cases h1 : s < 0
      · rw [if_pos h1, if_pos trivial]; symm; congr 1; exact decide_eq_false (by omega)
      · rw [if_neg h1, if_pos (by simp)]
        by_cases h2 : s > n
        · rw [if_pos h2, if_pos trivial]; symm; congr 1; exact decide_eq_false (by omega)
        · rw [if_neg h2, if_pos (by simp)]
          by_cases h3 : t > 6311433599
          · rw [if_pos (by simpa using h3)]; symm; congr 1; exact decide_eq_false (by omega)
          · rw [if_neg (by simpa using h3), if_pos trivial, if_pos (by simp)]; congr 1; apply decide_eq_decide.2; omega
  · rw [if_neg (by omega), vtt_len hl]
    simp only [sequencer_possible.j0]
    rfl
/-- A value fits a kind. -/
def fitB (a b kd : Int) : Bool := if kd = 1 then decide (a = 1 ∧ -1000000000000 ≤ b ∧ b ≤ 1000000000000) else decide (a = 2 ∧ (b = 0 ∨ b = 1))
theorem fits_f (a b kd : Int) (h : kd = 1 ∨ kd = 2) : sequencer_fits.f a b kd = some (fitB a b kd) := by
  unfold sequencer_fits.f fitB
  rcases h with rfl | rfl
  · by_cases c : a = 1
    · rw [if_pos c, if_pos rfl, if_pos rfl]
      by_cases c2 : b ≥ -1000000000000
      · rw [if_pos c2]; congr 1; apply decide_eq_decide.2; omega
      · rw [if_neg c2]; symm; congr 1; exact decide_eq_false (by omega)
    · rw [if_neg c, if_pos rfl]; symm; congr 1; exact decide_eq_false (by omega)
  · by_cases c : a = 2
    · rw [if_pos c, if_neg (show ¬ (2 : Int) = 1 by decide), if_neg (show ¬ (2 : Int) = 1 by decide)]
      by_cases c2 : b = 0
      · rw [if_pos c2]; symm; congr 1; exact decide_eq_true (by omega)
      · rw [if_neg c2]
        by_cases c3 : b = 1
        · subst c3; symm; congr 1; exact decide_eq_true (by omega)
        · rw [beq_eq_false_iff_ne.2 c3]; symm; congr 1; exact decide_eq_false (by omega)
    · rw [if_neg c, if_neg (show ¬ (2 : Int) = 1 by decide)]; symm; congr 1; exact decide_eq_false (by omega)
/-- What Step of the block steps answers at right parameters. -/
def stepsOut (n ls : Int) (l : List Int) (v w : S27) (dt : Int) : List Int × Int × Int × Int :=
  if fitB v.f0 v.f1 2 = true ∧ fitB w.f0 w.f1 2 = true then
    (if vtt n l = true then
      ([(stp n ls (v.f1 == 1) (w.f1 == 1) dt (rd l 0) (rd l 1)).1, (stp n ls (v.f1 == 1) (w.f1 == 1) dt (rd l 0) (rd l 1)).2], 3, (stp n ls (v.f1 == 1) (w.f1 == 1) dt (rd l 0) (rd l 1)).1 + 1, 0)
    else (([] : List Int), 0, 0, 8))
  else (([] : List Int), 0, 0, 11)
theorem stepsB_ne : ¬ stepsB.toList = ([115, 116, 97, 103, 101] : List UInt8) := by rw [stepsB_l]; decide
theorem steps_l0 {n ls dt : Int} {l : List Int} {v w : S27} (hp : P2 n ls) (h1 : 1 ≤ dt) (h2 : dt ≤ 86400) (k : Nat) (hk : 6 ≤ k) :
    sequencer_Step.l0 k stepsB [n, ls] l [v, w] dt [2, 2] [v, w] 2 0 = some (stepsOut n ls l v w dt) := by
  obtain ⟨k, rfl⟩ : ∃ m, k = m + 3 := ⟨k - 3, by omega⟩
  unfold stepsOut
  simp only [sequencer_Step.l0]
  rw [if_pos (by decide), if_pos (by decide), if_pos (by simp), if_pos (by simp), show rd_T27 [v, w] 0 = v from rfl, show rd [2, 2] 0 = 2 from rfl, fits_f _ _ 2 (Or.inr rfl), Option.bind_some]
  by_cases c1 : fitB v.f0 v.f1 2 = true
  · rw [if_pos c1, w01, if_pos (by decide), if_pos (by decide), if_pos (by simp), if_pos (by simp), show rd_T27 [v, w] 1 = w from rfl, show rd [2, 2] 1 = 2 from rfl, fits_f _ _ 2 (Or.inr rfl), Option.bind_some]
    by_cases c2 : fitB w.f0 w.f1 2 = true
    · rw [if_pos c2, w12, if_neg (by decide), possible_t n [ls] l k (by omega), Option.bind_some, if_pos (show fitB v.f0 v.f1 2 = true ∧ fitB w.f0 w.f1 2 = true from ⟨c1, c2⟩)]
      by_cases c3 : vtt n l = true
      · obtain ⟨s, t, rfl, hv⟩ := vtt_ok c3
        have hv' := stp_vt (run := (v.f1 == 1)) (next := (w.f1 == 1)) hp hv h1 h2
        have b1 := hv'.s1
        have b2 := hv'.s2
        have n2 := hp.n2
        rw [if_pos c3, if_pos c3, if_neg stepsB_ne, if_pos (by simp), if_pos (by simp), steps_f hp hv h1 h2, Option.bind_some, if_pos (by simp), rd0, rd0, rd1, wrap_id (by omega) (by omega)]
      · rw [if_neg c3, if_neg c3]
    · rw [if_neg c2, if_neg (show ¬ (fitB v.f0 v.f1 2 = true ∧ fitB w.f0 w.f1 2 = true) from fun h => c2 h.2)]
  · rw [if_neg c1, if_neg (show ¬ (fitB v.f0 v.f1 2 = true ∧ fitB w.f0 w.f1 2 = true) from fun h => c1 h.1)]
/-- What Step of the block stage answers at right parameters. -/
def stageOut (n up dn ud dd : Int) (l : List Int) (v : S27) (dt : Int) : List Int × Int × Int × Int :=
  if fitB v.f0 v.f1 1 = true then
    (if vst n l = true then
      ([(stg n up dn ud dd v.f1 dt (rd l 0) (rd l 1)).1, (stg n up dn ud dd v.f1 dt (rd l 0) (rd l 1)).2], 3, (stg n up dn ud dd v.f1 dt (rd l 0) (rd l 1)).1 + 1, 0)
    else (([] : List Int), 0, 0, 8))
  else (([] : List Int), 0, 0, 11)
theorem stage_l0 {n up dn ud dd dt : Int} {l : List Int} {v : S27} (hp : P5 n up dn ud dd) (h1 : 1 ≤ dt) (h2 : dt ≤ 86400) (k : Nat) (hk : 8 ≤ k) :
    sequencer_Step.l0 k stageB [n, up, dn, ud, dd] l [v] dt [1] [v] 1 0 = some (stageOut n up dn ud dd l v dt) := by
  obtain ⟨k, rfl⟩ : ∃ m, k = m + 2 := ⟨k - 2, by omega⟩
  unfold stageOut
  simp only [sequencer_Step.l0]
  rw [if_pos (by decide), if_pos (by decide), if_pos (by simp), if_pos (by simp), show rd_T27 [v] 0 = v from rfl, show rd [1] 0 = 1 from rfl, fits_f _ _ 1 (Or.inl rfl), Option.bind_some]
  by_cases c1 : fitB v.f0 v.f1 1 = true
  · rw [if_pos c1, if_pos c1, w01, if_neg (by decide), possible_f n _ l k (by omega), Option.bind_some]
    by_cases c3 : vst n l = true
    · obtain ⟨s, t, rfl, hv⟩ := vst_ok c3
      have hv' := stg_vs (x := v.f1) hp hv h1 h2
      have b1 := hv'.s1
      have b2 := hv'.s2
      have n2 := hp.n2
      rw [if_pos c3, if_pos c3, if_pos stageB_l, if_pos (by simp), stage_f hp hv h1 h2 k (by omega), Option.bind_some, if_pos (by simp), rd0, rd0, rd1, wrap_id (by omega) (by omega)]
    · rw [if_neg c3, if_neg c3]
  · rw [if_neg c1, if_neg c1]
end Go.Proofs.YtcpncmjjbfbdhaaDoor.Sq
