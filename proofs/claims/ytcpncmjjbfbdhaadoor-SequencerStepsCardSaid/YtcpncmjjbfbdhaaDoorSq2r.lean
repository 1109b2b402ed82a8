/-
  PLAIN LAWS OF THE SEQUENCER'S REFERENCE, 2: possible states; what the state of the block stage and the reference's the state of the block stage come to.
-/
import Derived.Test.YtcpncmjjbfbdhaaDoorSq1r
import Derived.Test.YtcpncmjjbfbdhaaDoorSq2v
import Derived.Test.YtcpncmjjbfbdhaaDoorRx15
namespace Go.Proofs.YtcpncmjjbfbdhaaDoor.Sq
open Go Go.RowKit Go.Proofs.YtcpncmjjbfbdhaaDoor.R Go.Proofs.YtcpncmjjbfbdhaaDoorW.PrintWords Go.Proofs.YtcpncmjjbfbdhaaDoorW.PrintMore
set_option linter.unusedVariables false
set_option linter.unusedSimpArgs false

theorem refstate_f (n : Int) (ps l : List Int) (k : Nat) (hk : 1 ≤ k) : plenumref21_State.f k stageB (n :: ps) l = some (vst n l) := by
  obtain ⟨k, rfl⟩ : ∃ m, k = m + 1 := ⟨k - 1, by omega⟩
  unfold plenumref21_State.f
  by_cases hl : l.length = 2
  · match l, hl with
    | [s, t], _ =>
      rw [if_pos (by simp), if_pos (by simp), show rd [s, t] 0 = s from rfl, show rd [s, t] 1 = t from rfl, show rd (n :: ps) 0 = n from rfl]
      simp only [plenumref21_State.j0, vst, stageB_l, show rd [s, t] 1 = t from rfl]
      by_cases h1 : s < 0
      · rw [if_pos h1, if_pos trivial]; symm; congr 1; exact decide_eq_false (by omega)
      · rw [if_neg h1, if_pos (by simp)]
        by_cases h2 : s > n
        · rw [if_pos h2, if_pos trivial]; symm; congr 1; exact decide_eq_false (by omega)
        · rw [if_neg h2, if_pos (by simp)]
          by_cases h3 : t > 6311433599
          · rw [if_pos (by simpa using h3)]; symm; congr 1; exact decide_eq_false (by omega)
          · rw [if_neg (by simpa using h3), if_pos trivial, if_pos (by simp)]; congr 1; apply decide_eq_decide.2; omega
  · rw [if_neg (by omega), vst_len hl]
    simp only [plenumref21_State.j0]
    rfl

end Go.Proofs.YtcpncmjjbfbdhaaDoor.Sq
