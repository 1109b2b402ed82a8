/-
  FREQUENT STEPS BY THEIR NAMES: what was made since stands behind what was there, out of the fact 'HB' that stands at hand; what a fact at hand decides; two lists of arguments that are the same.
-/
import Derived.Test.YtcpncmjjbfbdhaaDoorV0
namespace Go.Proofs.YtcpncmjjbfbdhaaDoor
open Go Go.RowKit Go.Proofs.YtcpncmjjbfbdhaaDoorW.PrintWords Go.Proofs.YtcpncmjjbfbdhaaDoorW.PrintMore
theorem bl {n : Nat} {w w' : World} (h : Below n w w' := by repeat (first | (with_reducible first | exact HB.out | apply below_alloc | apply pw_below_drewN | apply below_drew1) | exact HB.out)) : Below n w w' := h
theorem ode {p : Prop} [Decidable p] (h : decide p = true := by first | (with_reducible assumption) | assumption) : p := of_decide_eq_true h
theorem aeq {p : Prop} (h : p := by (try simp only [List.map_toArray, List.map_cons, List.map_nil]); first | done | rfl | (simp only [List.length_drop, List.length_take]; rfl)) : p := h
end Go.Proofs.YtcpncmjjbfbdhaaDoor
