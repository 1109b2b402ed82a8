/-
  DERIVED. GIVEN WITH THE SEED: THE CARDS: each row of YtcpncmjjbfbdhaaDoorRows.lean that lists a variable, with what it lists TIED to the program's text (the seventh form; the later family's looks); each row that meets fmt, with fmt's text TOLD by the authors' own Lean function (tested against real Go, not proved from fmt's source: count such statements apart). THE CARD IS WHAT COUNTS. Prove the row's statement (the work); the ties are given (YtcpncmjjbfbdhaaDoorTie.lean); close each card by the builder's one call (the guide's Derived/Test/ToyasCard.lean, 'card_holds'). Laid BY PROGRAM, IN A SANDBOX (cutbox-door.mjs). By AI agents, Wed Nov 11 2026. No macro, syntax, notation, axiom, sorry.
-/
import Derived.Test.YtcpncmjjbfbdhaaDoorRows
import GoSem.ClaimSeven
namespace Go.Proofs.YtcpncmjjbfbdhaaDoor
namespace Rows

/-- THE TIED CARD OF 'plenumlaw21.SequencerSteps'. -/
def sequencerStepsCard : Claim7 := { stood := { row := sequencerStepsRow, standIns := [], harness := (true, "7514c101b593908989be8b4822ff43334643b65e13fac87ae52532c42c4bef60"), looks := true }, kinds := [], alts := [], laidByText := true, laidKinds := [.data, .data, .data, .data, .sentinel, .sentinel, .listed, .data, .pinned], laidTests := true, laidLooks := .later }
def SequencerStepsCardSaid : Prop := Claim7.holds Tryd.pinned (.plain (OpenSpec.ofChange sequencerStepsSpec)) sequencerStepsCard

/-- THE TIED CARD OF 'plenumlaw21.SequencerSettles'. -/
def sequencerSettlesCard : Claim7 := { stood := { row := sequencerSettlesRow, standIns := [], harness := (true, "7514c101b593908989be8b4822ff43334643b65e13fac87ae52532c42c4bef60"), looks := true }, kinds := [], alts := [], laidByText := true, laidKinds := [.data, .data, .data, .data, .sentinel, .sentinel, .listed, .data, .pinned], laidTests := true, laidLooks := .later }
def SequencerSettlesCardSaid : Prop := Claim7.holds Tryd.pinned (.plain (OpenSpec.ofChange sequencerSettlesSpec)) sequencerSettlesCard

/-- THE TIED CARD OF 'plenumlaw21.SequencerLasts'. -/
def sequencerLastsCard : Claim7 := { stood := { row := sequencerLastsRow, standIns := [], harness := (true, "7514c101b593908989be8b4822ff43334643b65e13fac87ae52532c42c4bef60"), looks := true }, kinds := [], alts := [], laidByText := true, laidKinds := [.data, .data, .data, .data, .sentinel, .sentinel, .listed, .data, .pinned], laidTests := true, laidLooks := .later }
def SequencerLastsCardSaid : Prop := Claim7.holds Tryd.pinned (.plain (OpenSpec.ofChange sequencerLastsSpec)) sequencerLastsCard

/-- THE TIED CARD OF 'plenumlaw21.SequencerDelays'. -/
def sequencerDelaysCard : Claim7 := { stood := { row := sequencerDelaysRow, standIns := [], harness := (true, "7514c101b593908989be8b4822ff43334643b65e13fac87ae52532c42c4bef60"), looks := true }, kinds := [], alts := [], laidByText := true, laidKinds := [.data, .data, .data, .data, .sentinel, .sentinel, .listed, .data, .pinned], laidTests := true, laidLooks := .later }
def SequencerDelaysCardSaid : Prop := Claim7.holds Tryd.pinned (.plain (OpenSpec.ofChange sequencerDelaysSpec)) sequencerDelaysCard

/-- THE TIED CARD OF 'plenumlaw21.SequencerEnds'. -/
def sequencerEndsCard : Claim7 := { stood := { row := sequencerEndsRow, standIns := [], harness := (true, "7514c101b593908989be8b4822ff43334643b65e13fac87ae52532c42c4bef60"), looks := true }, kinds := [], alts := [], laidByText := true, laidKinds := [.data, .data, .data, .data, .sentinel, .sentinel, .listed, .data, .pinned], laidTests := true, laidLooks := .later }
def SequencerEndsCardSaid : Prop := Claim7.holds Tryd.pinned (.plain (OpenSpec.ofChange sequencerEndsSpec)) sequencerEndsCard

/-- THE TIED CARD OF 'plenumlaw21.SequencerWaits'. -/
def sequencerWaitsCard : Claim7 := { stood := { row := sequencerWaitsRow, standIns := [], harness := (true, "7514c101b593908989be8b4822ff43334643b65e13fac87ae52532c42c4bef60"), looks := true }, kinds := [], alts := [], laidByText := true, laidKinds := [.data, .data, .data, .data, .sentinel, .sentinel, .listed, .data, .pinned], laidTests := true, laidLooks := .later }
def SequencerWaitsCardSaid : Prop := Claim7.holds Tryd.pinned (.plain (OpenSpec.ofChange sequencerWaitsSpec)) sequencerWaitsCard

/-- THE SECOND FORM's CARD OF 'plenumlaw21.SequencerSteps'. -/
def sequencerStepsUptoCard : Claim7 := { stood := { row := sequencerStepsUptoRow, standIns := [], harness := (true, "7514c101b593908989be8b4822ff43334643b65e13fac87ae52532c42c4bef60"), looks := true }, kinds := [], alts := [], laidByText := true, laidKinds := [.data, .data, .data, .data, .sentinel, .sentinel, .listed, .data, .pinned], laidTests := true, laidLooks := .later }
def SequencerStepsUptoCardSaid : Prop := Claim7.holds Tryd.pinned (.plain (OpenSpec.upto sequencerStepsSpec)) sequencerStepsUptoCard

/-- THE SECOND FORM's CARD OF 'plenumlaw21.SequencerSettles'. -/
def sequencerSettlesUptoCard : Claim7 := { stood := { row := sequencerSettlesUptoRow, standIns := [], harness := (true, "7514c101b593908989be8b4822ff43334643b65e13fac87ae52532c42c4bef60"), looks := true }, kinds := [], alts := [], laidByText := true, laidKinds := [.data, .data, .data, .data, .sentinel, .sentinel, .listed, .data, .pinned], laidTests := true, laidLooks := .later }
def SequencerSettlesUptoCardSaid : Prop := Claim7.holds Tryd.pinned (.plain (OpenSpec.upto sequencerSettlesSpec)) sequencerSettlesUptoCard

/-- THE SECOND FORM's CARD OF 'plenumlaw21.SequencerLasts'. -/
def sequencerLastsUptoCard : Claim7 := { stood := { row := sequencerLastsUptoRow, standIns := [], harness := (true, "7514c101b593908989be8b4822ff43334643b65e13fac87ae52532c42c4bef60"), looks := true }, kinds := [], alts := [], laidByText := true, laidKinds := [.data, .data, .data, .data, .sentinel, .sentinel, .listed, .data, .pinned], laidTests := true, laidLooks := .later }
def SequencerLastsUptoCardSaid : Prop := Claim7.holds Tryd.pinned (.plain (OpenSpec.upto sequencerLastsSpec)) sequencerLastsUptoCard

/-- THE SECOND FORM's CARD OF 'plenumlaw21.SequencerDelays'. -/
def sequencerDelaysUptoCard : Claim7 := { stood := { row := sequencerDelaysUptoRow, standIns := [], harness := (true, "7514c101b593908989be8b4822ff43334643b65e13fac87ae52532c42c4bef60"), looks := true }, kinds := [], alts := [], laidByText := true, laidKinds := [.data, .data, .data, .data, .sentinel, .sentinel, .listed, .data, .pinned], laidTests := true, laidLooks := .later }
def SequencerDelaysUptoCardSaid : Prop := Claim7.holds Tryd.pinned (.plain (OpenSpec.upto sequencerDelaysSpec)) sequencerDelaysUptoCard

/-- THE SECOND FORM's CARD OF 'plenumlaw21.SequencerEnds'. -/
def sequencerEndsUptoCard : Claim7 := { stood := { row := sequencerEndsUptoRow, standIns := [], harness := (true, "7514c101b593908989be8b4822ff43334643b65e13fac87ae52532c42c4bef60"), looks := true }, kinds := [], alts := [], laidByText := true, laidKinds := [.data, .data, .data, .data, .sentinel, .sentinel, .listed, .data, .pinned], laidTests := true, laidLooks := .later }
def SequencerEndsUptoCardSaid : Prop := Claim7.holds Tryd.pinned (.plain (OpenSpec.upto sequencerEndsSpec)) sequencerEndsUptoCard

/-- THE SECOND FORM's CARD OF 'plenumlaw21.SequencerWaits'. -/
def sequencerWaitsUptoCard : Claim7 := { stood := { row := sequencerWaitsUptoRow, standIns := [], harness := (true, "7514c101b593908989be8b4822ff43334643b65e13fac87ae52532c42c4bef60"), looks := true }, kinds := [], alts := [], laidByText := true, laidKinds := [.data, .data, .data, .data, .sentinel, .sentinel, .listed, .data, .pinned], laidTests := true, laidLooks := .later }
def SequencerWaitsUptoCardSaid : Prop := Claim7.holds Tryd.pinned (.plain (OpenSpec.upto sequencerWaitsSpec)) sequencerWaitsUptoCard
end Rows
end Go.Proofs.YtcpncmjjbfbdhaaDoor
