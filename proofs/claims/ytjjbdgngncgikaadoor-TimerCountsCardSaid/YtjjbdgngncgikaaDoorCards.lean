/-
  DERIVED. GIVEN WITH THE SEED: THE CARDS: each row of YtjjbdgngncgikaaDoorRows.lean that lists a variable, with what it lists TIED to the program's text (the seventh form; the later family's looks); each row that meets fmt, with fmt's text TOLD by the authors' own Lean function (tested against real Go, not proved from fmt's source: count such statements apart). THE CARD IS WHAT COUNTS. Prove the row's statement (the work); the ties are given (YtjjbdgngncgikaaDoorTie.lean); close each card by the builder's one call (the guide's Derived/Test/ToyasCard.lean, 'card_holds'). Laid BY PROGRAM, IN A SANDBOX (cutbox-door.mjs). By AI agents, Wed Nov 11 2026. No macro, syntax, notation, axiom, sorry.
-/
import Derived.Test.YtjjbdgngncgikaaDoorRows
import GoSem.ClaimSeven
namespace Go.Proofs.YtjjbdgngncgikaaDoor
namespace Rows

/-- THE TIED CARD OF 'plenumlaw19.TimerDelays'. -/
def timerDelaysCard : Claim7 := { stood := { row := timerDelaysRow, standIns := [], harness := (true, "39eec42a08a264703517f46b0800c7c9bd0573534dc62740e246771d83bd0f63"), looks := true }, kinds := [], alts := [], laidByText := true, laidKinds := [.data, .data, .data, .data, .sentinel, .sentinel, .listed, .data, .pinned], laidTests := true, laidLooks := .later }
def TimerDelaysCardSaid : Prop := Claim7.holds Tryd.pinned (.plain (OpenSpec.ofChange timerDelaysSpec)) timerDelaysCard

/-- THE TIED CARD OF 'plenumlaw19.TimerPulses'. -/
def timerPulsesCard : Claim7 := { stood := { row := timerPulsesRow, standIns := [], harness := (true, "39eec42a08a264703517f46b0800c7c9bd0573534dc62740e246771d83bd0f63"), looks := true }, kinds := [], alts := [], laidByText := true, laidKinds := [.data, .data, .data, .data, .sentinel, .sentinel, .listed, .data, .pinned], laidTests := true, laidLooks := .later }
def TimerPulsesCardSaid : Prop := Claim7.holds Tryd.pinned (.plain (OpenSpec.ofChange timerPulsesSpec)) timerPulsesCard

/-- THE TIED CARD OF 'plenumlaw19.TimerRest'. -/
def timerRestCard : Claim7 := { stood := { row := timerRestRow, standIns := [], harness := (true, "39eec42a08a264703517f46b0800c7c9bd0573534dc62740e246771d83bd0f63"), looks := true }, kinds := [], alts := [], laidByText := true, laidKinds := [.data, .data, .data, .data, .sentinel, .sentinel, .listed, .data, .pinned], laidTests := true, laidLooks := .later }
def TimerRestCardSaid : Prop := Claim7.holds Tryd.pinned (.plain (OpenSpec.ofChange timerRestSpec)) timerRestCard

/-- THE TIED CARD OF 'plenumlaw19.TimerCounts'. -/
def timerCountsCard : Claim7 := { stood := { row := timerCountsRow, standIns := [], harness := (true, "39eec42a08a264703517f46b0800c7c9bd0573534dc62740e246771d83bd0f63"), looks := true }, kinds := [], alts := [], laidByText := true, laidKinds := [.data, .data, .data, .data, .sentinel, .sentinel, .listed, .data, .pinned], laidTests := true, laidLooks := .later }
def TimerCountsCardSaid : Prop := Claim7.holds Tryd.pinned (.plain (OpenSpec.ofChange timerCountsSpec)) timerCountsCard

/-- THE TIED CARD OF 'plenumlaw19.TimerHolds'. -/
def timerHoldsCard : Claim7 := { stood := { row := timerHoldsRow, standIns := [], harness := (true, "39eec42a08a264703517f46b0800c7c9bd0573534dc62740e246771d83bd0f63"), looks := true }, kinds := [], alts := [], laidByText := true, laidKinds := [.data, .data, .data, .data, .sentinel, .sentinel, .listed, .data, .pinned], laidTests := true, laidLooks := .later }
def TimerHoldsCardSaid : Prop := Claim7.holds Tryd.pinned (.plain (OpenSpec.ofChange timerHoldsSpec)) timerHoldsCard

/-- THE SECOND FORM's CARD OF 'plenumlaw19.TimerDelays'. -/
def timerDelaysUptoCard : Claim7 := { stood := { row := timerDelaysUptoRow, standIns := [], harness := (true, "39eec42a08a264703517f46b0800c7c9bd0573534dc62740e246771d83bd0f63"), looks := true }, kinds := [], alts := [], laidByText := true, laidKinds := [.data, .data, .data, .data, .sentinel, .sentinel, .listed, .data, .pinned], laidTests := true, laidLooks := .later }
def TimerDelaysUptoCardSaid : Prop := Claim7.holds Tryd.pinned (.plain (OpenSpec.upto timerDelaysSpec)) timerDelaysUptoCard

/-- THE SECOND FORM's CARD OF 'plenumlaw19.TimerPulses'. -/
def timerPulsesUptoCard : Claim7 := { stood := { row := timerPulsesUptoRow, standIns := [], harness := (true, "39eec42a08a264703517f46b0800c7c9bd0573534dc62740e246771d83bd0f63"), looks := true }, kinds := [], alts := [], laidByText := true, laidKinds := [.data, .data, .data, .data, .sentinel, .sentinel, .listed, .data, .pinned], laidTests := true, laidLooks := .later }
def TimerPulsesUptoCardSaid : Prop := Claim7.holds Tryd.pinned (.plain (OpenSpec.upto timerPulsesSpec)) timerPulsesUptoCard

/-- THE SECOND FORM's CARD OF 'plenumlaw19.TimerRest'. -/
def timerRestUptoCard : Claim7 := { stood := { row := timerRestUptoRow, standIns := [], harness := (true, "39eec42a08a264703517f46b0800c7c9bd0573534dc62740e246771d83bd0f63"), looks := true }, kinds := [], alts := [], laidByText := true, laidKinds := [.data, .data, .data, .data, .sentinel, .sentinel, .listed, .data, .pinned], laidTests := true, laidLooks := .later }
def TimerRestUptoCardSaid : Prop := Claim7.holds Tryd.pinned (.plain (OpenSpec.upto timerRestSpec)) timerRestUptoCard

/-- THE SECOND FORM's CARD OF 'plenumlaw19.TimerCounts'. -/
def timerCountsUptoCard : Claim7 := { stood := { row := timerCountsUptoRow, standIns := [], harness := (true, "39eec42a08a264703517f46b0800c7c9bd0573534dc62740e246771d83bd0f63"), looks := true }, kinds := [], alts := [], laidByText := true, laidKinds := [.data, .data, .data, .data, .sentinel, .sentinel, .listed, .data, .pinned], laidTests := true, laidLooks := .later }
def TimerCountsUptoCardSaid : Prop := Claim7.holds Tryd.pinned (.plain (OpenSpec.upto timerCountsSpec)) timerCountsUptoCard

/-- THE SECOND FORM's CARD OF 'plenumlaw19.TimerHolds'. -/
def timerHoldsUptoCard : Claim7 := { stood := { row := timerHoldsUptoRow, standIns := [], harness := (true, "39eec42a08a264703517f46b0800c7c9bd0573534dc62740e246771d83bd0f63"), looks := true }, kinds := [], alts := [], laidByText := true, laidKinds := [.data, .data, .data, .data, .sentinel, .sentinel, .listed, .data, .pinned], laidTests := true, laidLooks := .later }
def TimerHoldsUptoCardSaid : Prop := Claim7.holds Tryd.pinned (.plain (OpenSpec.upto timerHoldsSpec)) timerHoldsUptoCard
end Rows
end Go.Proofs.YtjjbdgngncgikaaDoor
