import Derived.Test.YtjjbdgngncgikaaGreatDoorTm2
namespace Go.Proofs.YtjjbdgngncgikaaGreatDoor.Tm
open Go Go.RowKit Go.Proofs.YtjjbdgngncgikaaGreatDoor.R Go.Proofs.YtjjbdgngncgikaaGreatDoorW.PrintWords Go.Proofs.YtjjbdgngncgikaaGreatDoorW.PrintMore
set_option linter.unusedVariables false
set_option linter.unusedSimpArgs false
theorem good_one {nm : ByteArray} {time : Int} (hn : nm.toList ≠ ([104, 121, 115, 116] : List UInt8)) (h1 : 0 ≤ time) (h2 : time ≤ 86400) : goodP nm [DD] [time] := by
  refine ⟨rfl, ?_, fun h => absurd h hn⟩
  show (if time < 0 then (1 : Int) else if time > 86400 then 1 else 0) = 0
  rw [if_neg (by omega), if_neg (by omega)]
theorem good_two {nm : ByteArray} {a b : Int} (hn : nm.toList ≠ ([104, 121, 115, 116] : List UInt8)) (h1 : 0 ≤ a) (h2 : a ≤ 86400) (h3 : 0 ≤ b) (h4 : b ≤ 86400) : goodP nm [DD, DD] [a, b] := by
  refine ⟨rfl, ?_, fun h => absurd h hn⟩
  show (if a < 0 then (1 : Int) else if a > 86400 then 1 else if b < 0 then 1 else if b > 86400 then 1 else 0) = 0
  rw [if_neg (by omega), if_neg (by omega), if_neg (by omega), if_neg (by omega)]
theorem nh_on : ondelayB.toList ≠ ([104, 121, 115, 116] : List UInt8) := by rw [ondelayB_l]; decide
theorem nh_off : offdelayB.toList ≠ ([104, 121, 115, 116] : List UInt8) := by rw [offdelayB_l]; decide
theorem nh_pul : pulseB.toList ≠ ([104, 121, 115, 116] : List UInt8) := by rw [pulseB_l]; decide
theorem nh_min : minrunB.toList ≠ ([104, 121, 115, 116] : List UInt8) := by rw [minrunB_l]; decide
theorem nh_cnt : countB.toList ≠ ([104, 121, 115, 116] : List UInt8) := by rw [countB_l]; decide
theorem nh_edg : edgeB.toList ≠ ([104, 121, 115, 116] : List UInt8) := by rw [edgeB_l]; decide
theorem nh_lat : latchB.toList ≠ ([104, 121, 115, 116] : List UInt8) := by rw [latchB_l]; decide
def bv (b : Bool) : S26 := ⟨2, bitv b⟩
theorem bitv_wf (b : Bool) : 0 ≤ bitv b ∧ bitv b ≤ 1 := by cases b <;> decide
end Go.Proofs.YtjjbdgngncgikaaGreatDoor.Tm
