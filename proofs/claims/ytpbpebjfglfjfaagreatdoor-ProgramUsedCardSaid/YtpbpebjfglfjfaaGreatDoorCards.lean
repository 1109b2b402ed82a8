/-
  DERIVED. GIVEN WITH THE SEED: THE CARDS: each row of YtpbpebjfglfjfaaGreatDoorRows.lean that lists a variable, with what it lists TIED to the program's text (the seventh form; the later family's looks); each row that meets fmt, with fmt's text TOLD by the authors' own Lean function (tested against real Go, not proved from fmt's source: count such statements apart). THE CARD IS WHAT COUNTS. Prove the row's statement (the work); the ties are given (YtpbpebjfglfjfaaGreatDoorTie.lean); close each card by the builder's one call (the guide's Derived/Test/ToyasCard.lean, 'card_holds'). Laid BY PROGRAM, IN A SANDBOX (cutbox-door.mjs). By AI agents, Wed Nov 11 2026. No macro, syntax, notation, axiom, sorry.
-/
import Derived.Test.YtpbpebjfglfjfaaGreatDoorRows
import GoSem.ClaimSeven
namespace Go.Proofs.YtpbpebjfglfjfaaGreatDoor
namespace Rows

/-- THE TIED CARD OF 'plenumlaw23.ProgramLoads'. -/
def programLoadsCard : Claim7 := { stood := { row := programLoadsRow, standIns := [], harness := (true, "a098bc92a1f88c19fa28cff50bf693b873741424d0c06061f7ea4bc87b674c71"), looks := true }, kinds := [], alts := [], laidByText := true, laidKinds := [.data, .data, .data, .data, .sentinel, .sentinel, .listed, .data, .pinned], laidTests := true, laidLooks := .later }
def ProgramLoadsCardSaid : Prop := Claim7.holds Tryz.pinned (.plain (OpenSpec.ofChange programLoadsSpec)) programLoadsCard

/-- THE TIED CARD OF 'plenumlaw23.ProgramChecks'. -/
def programChecksCard : Claim7 := { stood := { row := programChecksRow, standIns := [], harness := (true, "a098bc92a1f88c19fa28cff50bf693b873741424d0c06061f7ea4bc87b674c71"), looks := true }, kinds := [], alts := [], laidByText := true, laidKinds := [.data, .data, .data, .data, .sentinel, .sentinel, .listed, .data, .pinned], laidTests := true, laidLooks := .later }
def ProgramChecksCardSaid : Prop := Claim7.holds Tryz.pinned (.plain (OpenSpec.ofChange programChecksSpec)) programChecksCard

/-- THE TIED CARD OF 'plenumlaw23.ProgramUsed'. -/
def programUsedCard : Claim7 := { stood := { row := programUsedRow, standIns := [], harness := (true, "a098bc92a1f88c19fa28cff50bf693b873741424d0c06061f7ea4bc87b674c71"), looks := true }, kinds := [], alts := [], laidByText := true, laidKinds := [.data, .data, .data, .data, .sentinel, .sentinel, .listed, .data, .pinned], laidTests := true, laidLooks := .later }
def ProgramUsedCardSaid : Prop := Claim7.holds Tryz.pinned (.plain (OpenSpec.ofChange programUsedSpec)) programUsedCard

/-- THE TIED CARD OF 'plenumlaw23.ProgramRenames'. -/
def programRenamesCard : Claim7 := { stood := { row := programRenamesRow, standIns := [], harness := (true, "a098bc92a1f88c19fa28cff50bf693b873741424d0c06061f7ea4bc87b674c71"), looks := true }, kinds := [], alts := [], laidByText := true, laidKinds := [.data, .data, .data, .data, .sentinel, .sentinel, .listed, .data, .pinned], laidTests := true, laidLooks := .later }
def ProgramRenamesCardSaid : Prop := Claim7.holds Tryz.pinned (.plain (OpenSpec.ofChange programRenamesSpec)) programRenamesCard

/-- THE TIED CARD OF 'plenumlaw23.ProgramLines'. -/
def programLinesCard : Claim7 := { stood := { row := programLinesRow, standIns := [], harness := (true, "a098bc92a1f88c19fa28cff50bf693b873741424d0c06061f7ea4bc87b674c71"), looks := true }, kinds := [], alts := [], laidByText := true, laidKinds := [.data, .data, .data, .data, .sentinel, .sentinel, .listed, .data, .pinned], laidTests := true, laidLooks := .later }
def ProgramLinesCardSaid : Prop := Claim7.holds Tryz.pinned (.plain (OpenSpec.ofChange programLinesSpec)) programLinesCard

/-- THE TIED CARD OF 'plenumlaw23.ProgramBack'. -/
def programBackCard : Claim7 := { stood := { row := programBackRow, standIns := [], harness := (true, "a098bc92a1f88c19fa28cff50bf693b873741424d0c06061f7ea4bc87b674c71"), looks := true }, kinds := [], alts := [], laidByText := true, laidKinds := [.data, .data, .data, .data, .sentinel, .sentinel, .listed, .data, .pinned], laidTests := true, laidLooks := .later }
def ProgramBackCardSaid : Prop := Claim7.holds Tryz.pinned (.plain (OpenSpec.ofChange programBackSpec)) programBackCard

/-- THE SECOND FORM's CARD OF 'plenumlaw23.ProgramLoads'. -/
def programLoadsUptoCard : Claim7 := { stood := { row := programLoadsUptoRow, standIns := [], harness := (true, "a098bc92a1f88c19fa28cff50bf693b873741424d0c06061f7ea4bc87b674c71"), looks := true }, kinds := [], alts := [], laidByText := true, laidKinds := [.data, .data, .data, .data, .sentinel, .sentinel, .listed, .data, .pinned], laidTests := true, laidLooks := .later }
def ProgramLoadsUptoCardSaid : Prop := Claim7.holds Tryz.pinned (.plain (OpenSpec.upto programLoadsSpec)) programLoadsUptoCard

/-- THE SECOND FORM's CARD OF 'plenumlaw23.ProgramChecks'. -/
def programChecksUptoCard : Claim7 := { stood := { row := programChecksUptoRow, standIns := [], harness := (true, "a098bc92a1f88c19fa28cff50bf693b873741424d0c06061f7ea4bc87b674c71"), looks := true }, kinds := [], alts := [], laidByText := true, laidKinds := [.data, .data, .data, .data, .sentinel, .sentinel, .listed, .data, .pinned], laidTests := true, laidLooks := .later }
def ProgramChecksUptoCardSaid : Prop := Claim7.holds Tryz.pinned (.plain (OpenSpec.upto programChecksSpec)) programChecksUptoCard

/-- THE SECOND FORM's CARD OF 'plenumlaw23.ProgramUsed'. -/
def programUsedUptoCard : Claim7 := { stood := { row := programUsedUptoRow, standIns := [], harness := (true, "a098bc92a1f88c19fa28cff50bf693b873741424d0c06061f7ea4bc87b674c71"), looks := true }, kinds := [], alts := [], laidByText := true, laidKinds := [.data, .data, .data, .data, .sentinel, .sentinel, .listed, .data, .pinned], laidTests := true, laidLooks := .later }
def ProgramUsedUptoCardSaid : Prop := Claim7.holds Tryz.pinned (.plain (OpenSpec.upto programUsedSpec)) programUsedUptoCard

/-- THE SECOND FORM's CARD OF 'plenumlaw23.ProgramRenames'. -/
def programRenamesUptoCard : Claim7 := { stood := { row := programRenamesUptoRow, standIns := [], harness := (true, "a098bc92a1f88c19fa28cff50bf693b873741424d0c06061f7ea4bc87b674c71"), looks := true }, kinds := [], alts := [], laidByText := true, laidKinds := [.data, .data, .data, .data, .sentinel, .sentinel, .listed, .data, .pinned], laidTests := true, laidLooks := .later }
def ProgramRenamesUptoCardSaid : Prop := Claim7.holds Tryz.pinned (.plain (OpenSpec.upto programRenamesSpec)) programRenamesUptoCard

/-- THE SECOND FORM's CARD OF 'plenumlaw23.ProgramLines'. -/
def programLinesUptoCard : Claim7 := { stood := { row := programLinesUptoRow, standIns := [], harness := (true, "a098bc92a1f88c19fa28cff50bf693b873741424d0c06061f7ea4bc87b674c71"), looks := true }, kinds := [], alts := [], laidByText := true, laidKinds := [.data, .data, .data, .data, .sentinel, .sentinel, .listed, .data, .pinned], laidTests := true, laidLooks := .later }
def ProgramLinesUptoCardSaid : Prop := Claim7.holds Tryz.pinned (.plain (OpenSpec.upto programLinesSpec)) programLinesUptoCard

/-- THE SECOND FORM's CARD OF 'plenumlaw23.ProgramBack'. -/
def programBackUptoCard : Claim7 := { stood := { row := programBackUptoRow, standIns := [], harness := (true, "a098bc92a1f88c19fa28cff50bf693b873741424d0c06061f7ea4bc87b674c71"), looks := true }, kinds := [], alts := [], laidByText := true, laidKinds := [.data, .data, .data, .data, .sentinel, .sentinel, .listed, .data, .pinned], laidTests := true, laidLooks := .later }
def ProgramBackUptoCardSaid : Prop := Claim7.holds Tryz.pinned (.plain (OpenSpec.upto programBackSpec)) programBackUptoCard
end Rows
end Go.Proofs.YtpbpebjfglfjfaaGreatDoor
