/-
  A FREQUENT STEP BY ITS NAME: what was made since stands behind what was there: out of the fact 'HB' that stands at hand.
-/
import Derived.Test.YtcpncmjjbfbdhaaDoorV0
namespace Go.Proofs.YtcpncmjjbfbdhaaDoor
open Go Go.RowKit Go.Proofs.YtcpncmjjbfbdhaaDoorW.PrintWords Go.Proofs.YtcpncmjjbfbdhaaDoorW.PrintMore
theorem bl {n : Nat} {w w' : World} (h : Below n w w' := by repeat (first | (with_reducible first | exact HB.out | apply below_alloc | apply pw_below_drewN | apply below_drew1) | exact HB.out)) : Below n w w' := h
end Go.Proofs.YtcpncmjjbfbdhaaDoor
