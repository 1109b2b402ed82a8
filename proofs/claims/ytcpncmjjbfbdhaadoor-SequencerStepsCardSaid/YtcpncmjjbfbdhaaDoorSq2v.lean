/-
  PLAIN LAWS OF THE SEQUENCER, 2: possible states; what the state of the block stage and the reference's the state of the block stage come to.
-/
import Derived.Test.YtcpncmjjbfbdhaaDoorSq1
import Derived.Test.YtcpncmjjbfbdhaaDoorRx5
namespace Go.Proofs.YtcpncmjjbfbdhaaDoor.Sq
open Go Go.RowKit Go.Proofs.YtcpncmjjbfbdhaaDoor.R Go.Proofs.YtcpncmjjbfbdhaaDoorW.PrintWords Go.Proofs.YtcpncmjjbfbdhaaDoorW.PrintMore
set_option linter.unusedVariables false
set_option linter.unusedSimpArgs false

def vst (n : Int) : List Int → Bool
  | [s, t] => decide (0 ≤ s ∧ s ≤ n ∧ -6311433599 ≤ t ∧ t ≤ 6311433599)
  | _ => false
theorem vst_ok {n : Int} {l : List Int} (h : vst n l = true) : ∃ s t, l = [s, t] ∧ VS n s t := by
  match l, h with
  | [s, t], h =>
    have h := of_decide_eq_true (show decide (0 ≤ s ∧ s ≤ n ∧ -6311433599 ≤ t ∧ t ≤ 6311433599) = true from h)
    exact ⟨s, t, rfl, h.1, h.2.1, h.2.2.1, h.2.2.2⟩
theorem vst_len {n : Int} {l : List Int} (h : l.length ≠ 2) : vst n l = false := by
  match l, h with
  | [], _ => rfl
  | [_], _ => rfl
  | [_, _], h => exact absurd rfl h
  | _ :: _ :: _ :: _, _ => rfl
theorem possible_f (n : Int) (ps l : List Int) (k : Nat) (hk : 1 ≤ k) : sequencer_possible.f k stageB (n :: ps) l = some (vst n l) := by
  obtain ⟨k, rfl⟩ : ∃ m, k = m + 1 := ⟨k - 1, by omega⟩
  unfold sequencer_possible.f
  by_cases hl : l.length = 2
  · match l, hl with
    | [s, t], _ =>
      rw [if_pos (by simp), if_pos (by simp), show rd [s, t] 0 = s from rfl, show rd [s, t] 1 = t from rfl, show rd (n :: ps) 0 = n from rfl]
      simp only [sequencer_possible.j0, vst, stageB_l, show rd [s, t] 1 = t from rfl]
      by_cases h1 : s < 0
      · rw [if_pos h1, if_pos trivial]; symm; congr 1; exact decide_eq_false (by omega)
      · rw [if_neg h1, if_pos (by simp)]
        by_cases h2 : s > n
        · rw [if_pos h2, if_pos trivial]; symm; congr 1; exact decide_eq_false (by omega)
        · rw [if_neg h2, if_pos (by simp)]
          by_cases h3 : t > 6311433599
          · rw [if_pos (by simpa using h3)]; symm; congr 1; exact decide_eq_false (by omega)
          · rw [if_neg (by simpa using h3), if_neg (by decide), if_pos (by simp)]; congr 1; apply decide_eq_decide.2; omega
  · rw [if_neg (by omega), vst_len hl]
    simp only [sequencer_possible.j0]
    rfl
theorem rd0 (s t : Int) : rd [s, t] 0 = s := rfl
theorem rd1 (s t : Int) : rd [s, t] 1 = t := rfl
end Go.Proofs.YtcpncmjjbfbdhaaDoor.Sq
