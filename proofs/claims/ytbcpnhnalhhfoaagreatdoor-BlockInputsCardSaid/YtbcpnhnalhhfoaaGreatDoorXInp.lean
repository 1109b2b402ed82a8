/-
  BlockInputs returns true.
-/
import Derived.Test.YtbcpnhnalhhfoaaGreatDoorXO
set_option autoImplicit false
set_option linter.unusedVariables false
set_option linter.unusedSimpArgs false
set_option maxRecDepth 100000
namespace Go.Proofs.YtbcpnhnalhhfoaaGreatDoor.X
open Go Go.Proofs Go.RowKit Go.Proofs.YtbcpnhnalhhfoaaGreatDoor
noncomputable section
theorem eqB_self' (a : ByteArray) : eqB a a = true := by rw [eqB_iff]; simp
theorem eqP_self' : ∀ a : List GPort, eqP a a = true
  | [] => rfl
  | x :: a => by rw [eqP_cons, eqP_self' a]; unfold pe; rw [eqB_self', eqB_self']; rfl
theorem run_BlockInputs (n : ByteArray) (c : Int) : runF C3 60 4 [.str n, .int .i64 c] = (
  if decide ((n.size : Int) > 100) = true then some ((.bool true), [])
  else
   if (n.size + 1).blt 4611686018427387904 = true then
    if decide ((inpR (findD n libL) c).snd = (inpR (findD n libL) c).snd) = true then some ((.bool (samePs (inpR (findD n libL) c).fst (inpR (findD n libL) c).fst)), [])
    else some ((.bool false), [])
   else none : Option (Res At)) := by kernel_rfl
def conTrueSI : CON := onSI fun n c => some (true, (.bool true, []))
theorem okBlockInputs : OK 4 conTrueSI := ok_run C3_ok (by kernel_rfl) fun l r h => by
  replace h := onSI_spec h
  obtain ⟨n, c, rfl, h⟩ := h
  obtain ⟨_, rfl⟩ := some_pair h
  refine ⟨60, (run_BlockInputs n c).trans ?_⟩
  by_cases hn : (n.size : Int) > 100
  · rw [if_pos (by simpa using hn)]
  · rw [if_neg (by simpa using hn), if_pos (show Nat.blt (n.size + 1) 4611686018427387904 = true from Nat.ble_eq_true_of_le (by omega)), if_pos (decide_eq_true rfl)]
    unfold samePs
    rw [eqP_self', decide_eq_true rfl]; rfl
end
end Go.Proofs.YtbcpnhnalhhfoaaGreatDoor.X
