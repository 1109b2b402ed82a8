/-
  TimerSteps: for all blocks, parameters, states, inputs and times Step returns the specified state and output, or the error: the plain law.
-/
import Derived.Test.YtjjbdgngncgikaaGreatDoorTm7
import Derived.Test.YtjjbdgngncgikaaGreatDoorRx16
namespace Go.Proofs.YtjjbdgngncgikaaGreatDoor.Pure
open Go Go.RowKit Go.Proofs.YtjjbdgngncgikaaGreatDoor.R Go.Proofs.YtjjbdgngncgikaaGreatDoor.Tm Go.Proofs.YtjjbdgngncgikaaGreatDoorW.PrintWords Go.Proofs.YtjjbdgngncgikaaGreatDoorW.PrintMore
set_option linter.unusedVariables false
set_option linter.unusedSimpArgs false
theorem TimerSteps (a0 : ByteArray) (l1 l2 : List Int) (l3 : List S26) (dt : Int) (_ : a0.size ≤ maxLen) (_ : l1.length ≤ maxLen) (_ : ∀ x ∈ l1, (Lit.int .i64 x).wf = true) (_ : l2.length ≤ maxLen) (_ : ∀ x ∈ l2, (Lit.int .i64 x).wf = true)
    (_ : l3.length ≤ maxLen) (_ : ∀ x ∈ l3, (Lit.int .i64 x.f0).wf = true ∧ (Lit.int .i64 x.f1).wf = true) (_ : (Lit.int .i64 dt).wf = true) : ∃ k, plenumlaw19_TimerSteps.f k a0 l1 l2 l3 dt = some true := by
  obtain ⟨s', kd, x, e, h0, h1, h2⟩ := agree a0 l1 l2 l3 dt
  have hj : ∀ b, plenumlaw19_TimerSteps.j0 101 a0 l1 l2 l3 dt b = some true := by
    intro b
    simp only [plenumlaw19_TimerSteps.j0]
    cases b
    · rw [if_neg (by simp), (h1 100 (by omega)).1, (h1 100 (by omega)).2, Option.bind_some, Option.bind_some, same_f s' (by omega) 100 (by omega), Option.bind_some, if_pos rfl, if_pos (by simp), if_pos rfl]
      by_cases c : e = 0
      · rw [if_pos c, h2 c 100 (by omega)]; rfl
      · rw [if_neg c]
    · rw [if_pos rfl]
  refine ⟨101, ?_⟩
  unfold plenumlaw19_TimerSteps.f
  rw [awake_f _ (by omega), Option.bind_some, if_pos rfl]
  split
  · exact hj _
  · split
    · exact hj _
    · split
      · exact hj _
      · exact hj _
end Go.Proofs.YtjjbdgngncgikaaGreatDoor.Pure
