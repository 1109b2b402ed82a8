/-
  BlockParams returns true.
-/
import Derived.Test.YtbcpnhnalhhfoaaGreatDoorXP4
set_option autoImplicit false
set_option linter.unusedVariables false
set_option linter.unusedSimpArgs false
set_option maxRecDepth 100000
namespace Go.Proofs.YtbcpnhnalhhfoaaGreatDoor.X
open Go Go.Proofs Go.RowKit Go.Proofs.YtbcpnhnalhhfoaaGreatDoor
noncomputable section
theorem run_law (n : ByteArray) (l : List GParam) : runF CP7 80 3 [.str n, .ro 63 l] = (
  if decide ((l.length : Int) > 20) = false then
   if decide ((n.size : Int) > 100) = true then some ((.bool true), [])
   else
    if andP ((n.size + 1).blt 4611686018427387904) (l.length.ble 9223372036854775807) = true then
     if l.length.ble 9223372036854775807 = true then
      if decide ((parE (findD n libL) n l).snd = (parE (findD n libL) n l).snd) = true then
       if samC (parE (findD n libL) n l).fst = true then some ((.bool (samV (parE (findD n libL) n l).fst (parE (findD n libL) n l).fst)), []) else none
      else some ((.bool false), [])
     else none
    else none
  else some ((.bool true), []) : Option (Res At)) := by kernel_rfl
theorem samC_parE (n : ByteArray) (l : List GParam) : samC (parE (findD n libL) n l).fst = true := by
  cases ho : findD n libL with
  | none => rfl
  | some d =>
    obtain ⟨_, _, _, _, h5⟩ := find_good ho
    show samC (parD n d l).fst = true
    have hs : samC (d.params.map (parV (getL [] (scanL stp2 [] l)))) = true := Nat.ble_eq_true_of_le (by rw [List.length_map]; omega)
    unfold parD
    split
    · split
      · split
        · split
          · exact hs
          · rfl
        · rfl
      · rfl
    · rfl
theorem law_true (n : ByteArray) (l : List GParam) : runF CP7 80 3 [.str n, .ro 63 l] = some (.bool true, []) := by
  rw [run_law]
  by_cases h1 : (l.length : Int) > 20
  · rw [if_neg (by simp only [decide_eq_false_iff_not]; omega)]
  rw [if_pos (by simp only [decide_eq_false_iff_not]; omega)]
  by_cases h2 : (n.size : Int) > 100
  · rw [if_pos (by simp only [decide_eq_true_eq]; omega)]
  have hL : l.length.ble 9223372036854775807 = true := Nat.ble_eq_true_of_le (by omega)
  have hN : (n.size + 1).blt 4611686018427387904 = true := Nat.ble_eq_true_of_le (by omega)
  rw [if_neg (by simp only [decide_eq_true_eq]; omega), hN, hL, if_pos (show andP true true = true from rfl), if_pos rfl, if_pos (decide_eq_true rfl), if_pos (samC_parE n l), sam_self]
def conTrueP : CON := onSL 63 fun n (l : List GParam) => some (true, (.bool true, []))
theorem okBlockParams : OK 3 conTrueP := ok_run CP7_ok (by kernel_rfl) fun l r h => by
  replace h := onSL_spec h
  obtain ⟨n, l, rfl, h⟩ := h
  obtain ⟨_, rfl⟩ := some_pair h
  exact ⟨80, law_true n l⟩
theorem hgBlockParams {Q : At 63 → Prop} (n : ByteArray) (l : List (At 63)) (hn : n.size ≤ maxLen) (h : l.length ≤ maxLen ∧ ∀ x ∈ l, Q x) : conTrueP [.str n, .ro 63 l] = some (true, (.bool true, [])) := rfl
end
end Go.Proofs.YtbcpnhnalhhfoaaGreatDoor.X
