/-
  BlockLibrary returns true.
-/
import Derived.Test.YtbcpnhnalhhfoaaGreatDoorXK
import Derived.Test.YtbcpnhnalhhfoaaGreatDoorXW
set_option autoImplicit false
set_option linter.unusedVariables false
set_option linter.unusedSimpArgs false
set_option maxRecDepth 100000
namespace Go.Proofs.YtbcpnhnalhhfoaaGreatDoor.X
open Go Go.Proofs Go.RowKit Go.Proofs.YtbcpnhnalhhfoaaGreatDoor
noncomputable section
theorem eqB_self (a : ByteArray) : eqB a a = true := by rw [eqB_iff]; simp
theorem pe_self (a : GPort) : pe a a = true := by unfold pe; rw [eqB_self, eqB_self]; rfl
theorem eqP_self : ∀ a : List GPort, eqP a a = true
  | [] => rfl
  | x :: a => by rw [eqP_cons, pe_self, eqP_self a]; rfl
theorem be_self (a : GBound) : be a a = true := by unfold be; rw [eqB_self]; simp
theorem eqBs_self : ∀ a : List GBound, eqBs a a = true
  | [] => rfl
  | x :: a => by rw [eqBs_cons, be_self, eqBs_self a]; rfl
theorem samePs_self (a : List GPort) : samePs a a = true := by unfold samePs; rw [eqP_self]; simp
theorem sameDs_self (a : GDescriptor) : sameDs a a = true := by unfold sameDs; rw [eqB_self, samePs_self, samePs_self, eqBs_self]; simp
theorem run_BlockLibrary (n : ByteArray) : ∃ x y z, runF C2 400 9 [.str n] =
  if decide ((n.size : Int) > 100) = true then some (.bool true, []) else
    (if Nat.blt (n.size + 1) 4611686018427387904 = true then (if sameDs (orD (findD n libL)) (orD (findD n libL)) = true then
      (if (decide (erD (findD n libL) = 0) == isD (findD n libL)) = true then (if isD (findD n libL) = false then some (.bool (decide (erD (findD n libL) = 3)), []) else some (.bool true, [])) else x) else y) else z) := by
  refine ⟨none, none, none, ?_⟩
  kernel_rfl
def conTrueS : CON := onS fun n => some (true, (.bool true, []))
theorem okBlockLibrary : OK 9 conTrueS := ok_run C2_ok (by kernel_rfl) fun l r h => by
  replace h := onS_spec h
  obtain ⟨n, rfl, h⟩ := h
  obtain ⟨_, rfl⟩ := some_pair h
  refine ⟨400, ?_⟩
  obtain ⟨x, y, z, e⟩ := run_BlockLibrary n
  refine e.trans ?_
  by_cases hn : (n.size : Int) > 100
  · rw [if_pos (by simpa using hn)]
  · rw [if_neg (by simpa using hn), if_pos (show Nat.blt (n.size + 1) 4611686018427387904 = true from Nat.ble_eq_true_of_le (by omega)), if_pos (sameDs_self _)]
    cases findD n libL <;> rfl
end
end Go.Proofs.YtbcpnhnalhhfoaaGreatDoor.X
