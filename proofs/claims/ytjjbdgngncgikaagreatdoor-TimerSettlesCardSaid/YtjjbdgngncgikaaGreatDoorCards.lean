/-
  DERIVED. GIVEN WITH THE SEED: THE CARDS: each row of YtjjbdgngncgikaaGreatDoorRows.lean that lists a variable, with what it lists TIED to the program's text (the seventh form; the later family's looks); each row that meets fmt, with fmt's text TOLD by the authors' own Lean function (tested against real Go, not proved from fmt's source: count such statements apart). THE CARD IS WHAT COUNTS. Prove the row's statement (the work); the ties are given (YtjjbdgngncgikaaGreatDoorTie.lean); close each card by the builder's one call (the guide's Derived/Test/ToyasCard.lean, 'card_holds'). Laid BY PROGRAM, IN A SANDBOX (cutbox-door.mjs). By AI agents, Wed Nov 11 2026. No macro, syntax, notation, axiom, sorry.
-/
import Derived.Test.YtjjbdgngncgikaaGreatDoorRows
import GoSem.ClaimSeven
namespace Go.Proofs.YtjjbdgngncgikaaGreatDoor
namespace Rows

/-- THE TIED CARD OF 'plenumlaw19.TimerSteps'. -/
def timerStepsCard : Claim7 := { stood := { row := timerStepsRow, standIns := [], harness := (true, "94479913f4c5a0604132d4840e94ee3efca807085c4a921c800a39d3b2138d41"), looks := true }, kinds := [], alts := [], laidByText := true, laidKinds := [.data, .data, .data, .data, .sentinel, .sentinel, .listed, .data, .pinned], laidTests := true, laidLooks := .later }
def TimerStepsCardSaid : Prop := Claim7.holds Tryz.pinned (.plain (OpenSpec.ofChange timerStepsSpec)) timerStepsCard

/-- THE TIED CARD OF 'plenumlaw19.TimerSettles'. -/
def timerSettlesCard : Claim7 := { stood := { row := timerSettlesRow, standIns := [], harness := (true, "94479913f4c5a0604132d4840e94ee3efca807085c4a921c800a39d3b2138d41"), looks := true }, kinds := [], alts := [], laidByText := true, laidKinds := [.data, .data, .data, .data, .sentinel, .sentinel, .listed, .data, .pinned], laidTests := true, laidLooks := .later }
def TimerSettlesCardSaid : Prop := Claim7.holds Tryz.pinned (.plain (OpenSpec.ofChange timerSettlesSpec)) timerSettlesCard

/-- THE SECOND FORM's CARD OF 'plenumlaw19.TimerSteps'. -/
def timerStepsUptoCard : Claim7 := { stood := { row := timerStepsUptoRow, standIns := [], harness := (true, "94479913f4c5a0604132d4840e94ee3efca807085c4a921c800a39d3b2138d41"), looks := true }, kinds := [], alts := [], laidByText := true, laidKinds := [.data, .data, .data, .data, .sentinel, .sentinel, .listed, .data, .pinned], laidTests := true, laidLooks := .later }
def TimerStepsUptoCardSaid : Prop := Claim7.holds Tryz.pinned (.plain (OpenSpec.upto timerStepsSpec)) timerStepsUptoCard

/-- THE SECOND FORM's CARD OF 'plenumlaw19.TimerSettles'. -/
def timerSettlesUptoCard : Claim7 := { stood := { row := timerSettlesUptoRow, standIns := [], harness := (true, "94479913f4c5a0604132d4840e94ee3efca807085c4a921c800a39d3b2138d41"), looks := true }, kinds := [], alts := [], laidByText := true, laidKinds := [.data, .data, .data, .data, .sentinel, .sentinel, .listed, .data, .pinned], laidTests := true, laidLooks := .later }
def TimerSettlesUptoCardSaid : Prop := Claim7.holds Tryz.pinned (.plain (OpenSpec.upto timerSettlesSpec)) timerSettlesUptoCard
end Rows
end Go.Proofs.YtjjbdgngncgikaaGreatDoor
