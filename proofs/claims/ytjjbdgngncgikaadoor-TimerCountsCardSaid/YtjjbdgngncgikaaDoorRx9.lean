-- Written by this claim's own program out of the translation; not trusted: Lean checks it.
import Derived.Test.YtjjbdgngncgikaaDoorRx0
namespace Go.Proofs.YtjjbdgngncgikaaDoor.R
open Go.RowKit Go.Proofs.YtjjbdgngncgikaaDoorW.PrintWords Go.Proofs.YtjjbdgngncgikaaDoorW.PrintLast Go.Proofs.YtjjbdgngncgikaaDoorW.PrintMore
attribute [local go_sem] max2_int min2_int max_two min_two max_three min_three max_four min_four   -- for this text's walks alone
set_option linter.unusedVariables false
set_option linter.unusedSimpArgs false

/-! ### timer_bit: function 23 -/
def timer_bit.f (a0 : Bool) : Option (Int) := if a0 = true then (some 1) else (some 0)
set_option maxHeartbeats 8000000 in
set_option maxRecDepth 100000 in
theorem timer_bit.calls (a0 : Bool) (r : Int) (w : World) (h : timer_bit.f a0 = some r) :
  Calls Tryd.prog 23 #[.bool a0] w fun e w' => e = .returned (.int .i64 r) ∧ Drawn0 w w' := by
 have H : (if a0 = true then (some 1) else (some 0)) = some r := h
 clear h
 by_cases c2 : a0 = true
 ·
  subst c2
  rw [if_pos rfl] at H
  obtain rfl := Option.some.inj H
  go_enter Tryd.func23, Tryd.ntmps23
  go_wp2
  go_ret
  exact ⟨by first | rfl | (simp; done) | (simp [*]; done), by repeat (first | exact Drawn0.refl _ | apply Drawn0.step)⟩
 ·
  replace c2 := Bool.eq_false_iff.mpr c2
  subst c2
  rw [if_neg (show ¬ (false = true) by decide)] at H
  obtain rfl := Option.some.inj H
  go_enter Tryd.func23, Tryd.ntmps23
  go_wp2
  go_ret
  exact ⟨by first | rfl | (simp; done) | (simp [*]; done), by repeat (first | exact Drawn0.refl _ | apply Drawn0.step)⟩

end Go.Proofs.YtjjbdgngncgikaaDoor.R
