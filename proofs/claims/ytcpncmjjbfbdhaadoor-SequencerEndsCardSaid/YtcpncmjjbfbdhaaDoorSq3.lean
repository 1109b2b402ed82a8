/-
  PLAIN LAWS OF THE SEQUENCER, 3: Step of the block stage at right arguments; the goal of a demand.
-/
import Derived.Test.YtcpncmjjbfbdhaaDoorSq2
import Derived.Test.YtcpncmjjbfbdhaaDoorSq3s
import Derived.Test.YtcpncmjjbfbdhaaDoorRx9
namespace Go.Proofs.YtcpncmjjbfbdhaaDoor.Sq
open Go Go.RowKit Go.Proofs.YtcpncmjjbfbdhaaDoor.R Go.Proofs.YtcpncmjjbfbdhaaDoorW.PrintWords Go.Proofs.YtcpncmjjbfbdhaaDoorW.PrintMore
set_option linter.unusedVariables false
set_option linter.unusedSimpArgs false

theorem goal_vs {n up dn ud dd x s t : Int} (hp : P5 n up dn ud dd) (hv : VS n s t) : VS n (goal n up dn x s) t := by
  unfold goal
  have := hp.n1
  obtain ⟨a, b, c, d⟩ := hv
  repeat' split
  all_goals (constructor <;> omega)
theorem goal_stay {n up dn ud dd x s : Int} (dt : Int) (hc : ¬ (x > up ∧ x < dn)) (t : Int) : stg n up dn ud dd x dt (goal n up dn x s) t = (goal n up dn x s, 0) := by
  unfold goal
  by_cases c1 : x > up
  · rw [if_pos c1]; unfold stg; rw [if_neg (show ¬ (x > up ∧ n < n) by omega), if_neg (show ¬ (x < dn ∧ n > 0) by omega)]
  · rw [if_neg c1]
    by_cases c2 : x < dn
    · rw [if_pos c2]; unfold stg; rw [if_neg (show ¬ (x > up ∧ (0 : Int) < n) by omega), if_neg (show ¬ (x < dn ∧ (0 : Int) > 0) by omega)]
    · rw [if_neg c2]; unfold stg; rw [if_neg (show ¬ (x > up ∧ s < n) by omega), if_neg (show ¬ (x < dn ∧ s > 0) by omega)]
/-- How many evaluations more until the goal. -/
def Left (p : List Int) (x dt g s t : Int) (M : Nat) : Prop := ∀ (k : Nat) (c : Int), M + 5 ≤ k → 0 ≤ c → c + M ≤ 1000000000 → sequencer_Settle.l0 k p x dt g c [s, t] = some (g, c + M, 0)
theorem left_of {p : List Int} {x dt g s t : Int} {N : Nat} (h : ∀ (k : Nat), N + 5 ≤ k → sequencer_Settle.l0 k p x dt g 0 [s, t] = some (g, (N : Int), 0)) : ∀ k, N + 5 ≤ k → sequencer_Settle.l0 k p x dt g 0 [s, t] = some (g, 0 + (N : Int), 0) := by
  intro k hk; rw [h k hk]; simp
/-- One evaluation less, at any count that stands before it. -/
theorem left_next {n up dn ud dd x dt g s t c : Int} {M : Nat} (hp : P5 n up dn ud dd) (hv : VS n s t) (h1 : 1 ≤ dt) (h2 : dt ≤ 86400) (hc0 : 0 ≤ c) (hcM : c + M ≤ 1000000000)
    (h : ∀ k, M + 5 ≤ k → sequencer_Settle.l0 k [n, up, dn, ud, dd] x dt g c [s, t] = some (g, c + M, 0)) :
    (M = 0 ↔ s = g) ∧ (0 < M → ∀ k, (M - 1) + 5 ≤ k → sequencer_Settle.l0 k [n, up, dn, ud, dd] x dt g (c + 1) [(stg n up dn ud dd x dt s t).1, (stg n up dn ud dd x dt s t).2] = some (g, (c + 1) + ((M - 1 : Nat) : Int), 0)) := by
  have key : ∀ k, M + 5 ≤ k + 1 → 2 ≤ k → (if s = g then some (g, c, 0) else sequencer_Settle.l0 k [n, up, dn, ud, dd] x dt g (c + 1) [(stg n up dn ud dd x dt s t).1, (stg n up dn ud dd x dt s t).2]) = some (g, c + (M : Int), 0) := by
    intro k hk hk2
    have := h (k + 1) hk
    simp only [sequencer_Settle.l0] at this
    rw [if_pos (by simp), stage_f hp hv h1 h2 k hk2, Option.bind_some, wrap_id (by omega) (by omega)] at this
    exact this
  constructor
  · constructor
    · intro hM
      by_cases e : s = g
      · exact e
      · exfalso
        -- the loop answers a count behind c
        have hpos : ∀ (k : Nat) (c' : Int) (l : List Int) (r : Int × Int × Int), c ≤ c' → c' + k ≤ 2000000000 → sequencer_Settle.l0 k [n, up, dn, ud, dd] x dt g c' l = some r → c' ≤ r.2.1 := by
          intro k
          induction k with
          | zero => intro c' l r _ _ hr; simp [sequencer_Settle.l0] at hr
          | succ k ih =>
            intro c' l r hc' hk hr
            simp only [sequencer_Settle.l0] at hr
            split at hr
            · split at hr
              · have := Option.some.inj hr; subst this; exact Int.le_refl _
              · obtain ⟨y, _, hy⟩ := Option.bind_eq_some_iff.1 hr
                rw [wrap_id (by omega) (by omega)] at hy
                have := ih (c' + 1) y r (by omega) (by omega) hy
                omega
            · cases hr
        have := key 5 (by omega) (by omega)
        rw [if_neg e] at this
        have := hpos 5 (c + 1) _ _ (by omega) (by omega) this
        simp only [hM] at this
        omega
    · intro e
      have := key (M + 5) (by omega) (by omega)
      rw [if_pos e] at this
      simp only [Option.some.injEq, Prod.mk.injEq, true_and, and_true] at this
      omega
  · intro hM k hk
    have e : ¬ s = g := by
      intro e
      have := key (M + 5) (by omega) (by omega)
      rw [if_pos e] at this
      simp only [Option.some.injEq, Prod.mk.injEq, true_and, and_true] at this
      omega
    have := key k (by omega) (by omega)
    rw [if_neg e] at this
    rw [this]
    congr 2
    simp only [Prod.mk.injEq, and_true]
    omega
end Go.Proofs.YtcpncmjjbfbdhaaDoor.Sq
