/-
  awake.
-/
import Derived.Test.YtbcpnhnalhhfoaaGreatDoorXJ
set_option autoImplicit false
set_option linter.unusedVariables false
set_option linter.unusedSimpArgs false
set_option maxRecDepth 100000
namespace Go.Proofs.YtbcpnhnalhhfoaaGreatDoor.X
open Go Go.Proofs Go.RowKit Go.Proofs.YtbcpnhnalhhfoaaGreatDoor
noncomputable section
theorem run_awake : runF C0 400 10 [] = some (.bool true, []) := by kernel_rfl
def conAwake : CON := fun l => match l with | [] => some (true, (.bool true, [])) | _ => none
theorem okAwake : OK 10 conAwake := ok_run C0_ok (by kernel_rfl) fun l r h => by
  cases l with
  | nil => exact ⟨400, run_awake.trans (congrArg some (some_pair h).2)⟩
  | cons x l => cases h
def lib2 : List (Nat × CON) := (10, conAwake) :: (22, conLib) :: (24, conFind) :: (26, conFindR) :: (16, conSamePs) :: (25, conSameDs) :: lib0
theorem lib2_ok : AllOK lib2 := .cons okAwake (.cons okLib (.cons okFind (.cons okFindR (.cons okSamePs (.cons okSameDs lib0_ok)))))
def C2 : Cfg := { cs := lib2 }
theorem C2_ok : CfgOK C2 := { con := lib2_ok }
end
end Go.Proofs.YtbcpnhnalhhfoaaGreatDoor.X
