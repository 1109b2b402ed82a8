/-
  WHAT THE LIBRARY'S VARIABLES HOLD, AS THE WALKS ASK IT: 'GW w': internal/bytealg.MaxLen holds an int; strings.asciiSpace holds its table. And that it stays true of every world in which what was there has not turned.
-/
import Derived.Test.YtpbpebjfglfjfaaGreatDoorShelf
import Derived.Below
import Derived.Lib.LaidTab
import Derived.Lib.SmallJoins
import Derived.RowKit
import Derived.Lib.Fields
namespace Go.Proofs.YtpbpebjfglfjfaaGreatDoor
open Go Go.RowKit
def GW (w : World) : Prop := (∃ m, w.cell? ⟨2, 0, none⟩ = some (.int .i64 m)) ∧ Lib.TabIs Tryz.prog w "strings.asciiSpace" .u8 Lib.asciiSpaceTab
theorem gAscii : Tryz.prog.globalNamed "strings.asciiSpace" = some 0 := by kernel_rfl
theorem GW.below {w w' : World} (h : GW w) (hb : Below w.heap.size w w') : GW w' := by
  obtain ⟨⟨m, hm⟩, ht⟩ := h
  exact ⟨⟨m, (hb.cell (World.block_lt_of_cell? w _ hm)).trans hm⟩, Joins.tab_stays gAscii ht hb (Nat.le_refl _)⟩
theorem cntF_le : ∀ (l : List UInt8) (b : Bool), Lib.cntF b l ≤ l.length
  | [], _ => by simp [Lib.cntF]
  | c :: l, b => by
    have := cntF_le l (Lib.isSp c)
    simp only [Lib.cntF, List.length_cons]
    split <;> omega
theorem fields_length_le (l : List UInt8) : (Lib.fields l).length ≤ l.length := by rw [Lib.fields_length]; exact cntF_le l true
end Go.Proofs.YtpbpebjfglfjfaaGreatDoor
