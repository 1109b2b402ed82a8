/-
  DERIVED. GIVEN WITH THE SEED: THE CARDS: each row of YtbcpnhnalhhfoaaGreatDoorRows.lean that lists a variable, with what it lists TIED to the program's text (the seventh form; the later family's looks); each row that meets fmt, with fmt's text TOLD by the authors' own Lean function (tested against real Go, not proved from fmt's source: count such statements apart). THE CARD IS WHAT COUNTS. Prove the row's statement (the work); the ties are given (YtbcpnhnalhhfoaaGreatDoorTie.lean); close each card by the builder's one call (the guide's Derived/Test/ToyasCard.lean, 'card_holds'). Laid BY PROGRAM, IN A SANDBOX (cutbox-door.mjs). By AI agents, Wed Nov 11 2026. No macro, syntax, notation, axiom, sorry.
-/
import Derived.Test.YtbcpnhnalhhfoaaGreatDoorRows
import GoSem.ClaimSeven
namespace Go.Proofs.YtbcpnhnalhhfoaaGreatDoor
namespace Rows

/-- THE TIED CARD OF 'plenumlaw18.BlockParams'. -/
def blockParamsCard : Claim7 := { stood := { row := blockParamsRow, standIns := [], harness := (true, "6d40d3c04c1acb4b360511c8bd9ca8d216de3ccdd2d1a71f78472f579ed4bec5"), looks := true }, kinds := [], alts := [], laidByText := true, laidKinds := [.data, .data, .data, .data, .sentinel, .sentinel, .listed, .data, .pinned], laidTests := true, laidLooks := .later }
def BlockParamsCardSaid : Prop := Claim7.holds Tryz.pinned (.plain (OpenSpec.ofChange blockParamsSpec)) blockParamsCard

/-- THE TIED CARD OF 'plenumlaw18.BlockInputs'. -/
def blockInputsCard : Claim7 := { stood := { row := blockInputsRow, standIns := [], harness := (true, "6d40d3c04c1acb4b360511c8bd9ca8d216de3ccdd2d1a71f78472f579ed4bec5"), looks := true }, kinds := [], alts := [], laidByText := true, laidKinds := [.data, .data, .data, .data, .sentinel, .sentinel, .listed, .data, .pinned], laidTests := true, laidLooks := .later }
def BlockInputsCardSaid : Prop := Claim7.holds Tryz.pinned (.plain (OpenSpec.ofChange blockInputsSpec)) blockInputsCard

/-- THE TIED CARD OF 'plenumlaw18.BlockLogic'. -/
def blockLogicCard : Claim7 := { stood := { row := blockLogicRow, standIns := [], harness := (true, "6d40d3c04c1acb4b360511c8bd9ca8d216de3ccdd2d1a71f78472f579ed4bec5"), looks := true }, kinds := [], alts := [], laidByText := true, laidKinds := [.data, .data, .data, .data, .sentinel, .sentinel, .listed, .data, .pinned], laidTests := true, laidLooks := .later }
def BlockLogicCardSaid : Prop := Claim7.holds Tryz.pinned (.plain (OpenSpec.ofChange blockLogicSpec)) blockLogicCard

/-- THE TIED CARD OF 'plenumlaw18.BlockBounds'. -/
def blockBoundsCard : Claim7 := { stood := { row := blockBoundsRow, standIns := [], harness := (true, "6d40d3c04c1acb4b360511c8bd9ca8d216de3ccdd2d1a71f78472f579ed4bec5"), looks := true }, kinds := [], alts := [], laidByText := true, laidKinds := [.data, .data, .data, .data, .sentinel, .sentinel, .listed, .data, .pinned], laidTests := true, laidLooks := .later }
def BlockBoundsCardSaid : Prop := Claim7.holds Tryz.pinned (.plain (OpenSpec.ofChange blockBoundsSpec)) blockBoundsCard

/-- THE TIED CARD OF 'plenumlaw18.BlockMonotone'. -/
def blockMonotoneCard : Claim7 := { stood := { row := blockMonotoneRow, standIns := [], harness := (true, "6d40d3c04c1acb4b360511c8bd9ca8d216de3ccdd2d1a71f78472f579ed4bec5"), looks := true }, kinds := [], alts := [], laidByText := true, laidKinds := [.data, .data, .data, .data, .sentinel, .sentinel, .listed, .data, .pinned], laidTests := true, laidLooks := .later }
def BlockMonotoneCardSaid : Prop := Claim7.holds Tryz.pinned (.plain (OpenSpec.ofChange blockMonotoneSpec)) blockMonotoneCard

/-- THE TIED CARD OF 'plenumlaw18.BlockChoice'. -/
def blockChoiceCard : Claim7 := { stood := { row := blockChoiceRow, standIns := [], harness := (true, "6d40d3c04c1acb4b360511c8bd9ca8d216de3ccdd2d1a71f78472f579ed4bec5"), looks := true }, kinds := [], alts := [], laidByText := true, laidKinds := [.data, .data, .data, .data, .sentinel, .sentinel, .listed, .data, .pinned], laidTests := true, laidLooks := .later }
def BlockChoiceCardSaid : Prop := Claim7.holds Tryz.pinned (.plain (OpenSpec.ofChange blockChoiceSpec)) blockChoiceCard

/-- THE TIED CARD OF 'plenumlaw18.BlockLibrary'. -/
def blockLibraryCard : Claim7 := { stood := { row := blockLibraryRow, standIns := [], harness := (true, "6d40d3c04c1acb4b360511c8bd9ca8d216de3ccdd2d1a71f78472f579ed4bec5"), looks := true }, kinds := [], alts := [], laidByText := true, laidKinds := [.data, .data, .data, .data, .sentinel, .sentinel, .listed, .data, .pinned], laidTests := true, laidLooks := .later }
def BlockLibraryCardSaid : Prop := Claim7.holds Tryz.pinned (.plain (OpenSpec.ofChange blockLibrarySpec)) blockLibraryCard

/-- THE SECOND FORM's CARD OF 'plenumlaw18.BlockParams'. -/
def blockParamsUptoCard : Claim7 := { stood := { row := blockParamsUptoRow, standIns := [], harness := (true, "6d40d3c04c1acb4b360511c8bd9ca8d216de3ccdd2d1a71f78472f579ed4bec5"), looks := true }, kinds := [], alts := [], laidByText := true, laidKinds := [.data, .data, .data, .data, .sentinel, .sentinel, .listed, .data, .pinned], laidTests := true, laidLooks := .later }
def BlockParamsUptoCardSaid : Prop := Claim7.holds Tryz.pinned (.plain (OpenSpec.upto blockParamsSpec)) blockParamsUptoCard

/-- THE SECOND FORM's CARD OF 'plenumlaw18.BlockInputs'. -/
def blockInputsUptoCard : Claim7 := { stood := { row := blockInputsUptoRow, standIns := [], harness := (true, "6d40d3c04c1acb4b360511c8bd9ca8d216de3ccdd2d1a71f78472f579ed4bec5"), looks := true }, kinds := [], alts := [], laidByText := true, laidKinds := [.data, .data, .data, .data, .sentinel, .sentinel, .listed, .data, .pinned], laidTests := true, laidLooks := .later }
def BlockInputsUptoCardSaid : Prop := Claim7.holds Tryz.pinned (.plain (OpenSpec.upto blockInputsSpec)) blockInputsUptoCard

/-- THE SECOND FORM's CARD OF 'plenumlaw18.BlockLogic'. -/
def blockLogicUptoCard : Claim7 := { stood := { row := blockLogicUptoRow, standIns := [], harness := (true, "6d40d3c04c1acb4b360511c8bd9ca8d216de3ccdd2d1a71f78472f579ed4bec5"), looks := true }, kinds := [], alts := [], laidByText := true, laidKinds := [.data, .data, .data, .data, .sentinel, .sentinel, .listed, .data, .pinned], laidTests := true, laidLooks := .later }
def BlockLogicUptoCardSaid : Prop := Claim7.holds Tryz.pinned (.plain (OpenSpec.upto blockLogicSpec)) blockLogicUptoCard

/-- THE SECOND FORM's CARD OF 'plenumlaw18.BlockBounds'. -/
def blockBoundsUptoCard : Claim7 := { stood := { row := blockBoundsUptoRow, standIns := [], harness := (true, "6d40d3c04c1acb4b360511c8bd9ca8d216de3ccdd2d1a71f78472f579ed4bec5"), looks := true }, kinds := [], alts := [], laidByText := true, laidKinds := [.data, .data, .data, .data, .sentinel, .sentinel, .listed, .data, .pinned], laidTests := true, laidLooks := .later }
def BlockBoundsUptoCardSaid : Prop := Claim7.holds Tryz.pinned (.plain (OpenSpec.upto blockBoundsSpec)) blockBoundsUptoCard

/-- THE SECOND FORM's CARD OF 'plenumlaw18.BlockMonotone'. -/
def blockMonotoneUptoCard : Claim7 := { stood := { row := blockMonotoneUptoRow, standIns := [], harness := (true, "6d40d3c04c1acb4b360511c8bd9ca8d216de3ccdd2d1a71f78472f579ed4bec5"), looks := true }, kinds := [], alts := [], laidByText := true, laidKinds := [.data, .data, .data, .data, .sentinel, .sentinel, .listed, .data, .pinned], laidTests := true, laidLooks := .later }
def BlockMonotoneUptoCardSaid : Prop := Claim7.holds Tryz.pinned (.plain (OpenSpec.upto blockMonotoneSpec)) blockMonotoneUptoCard

/-- THE SECOND FORM's CARD OF 'plenumlaw18.BlockChoice'. -/
def blockChoiceUptoCard : Claim7 := { stood := { row := blockChoiceUptoRow, standIns := [], harness := (true, "6d40d3c04c1acb4b360511c8bd9ca8d216de3ccdd2d1a71f78472f579ed4bec5"), looks := true }, kinds := [], alts := [], laidByText := true, laidKinds := [.data, .data, .data, .data, .sentinel, .sentinel, .listed, .data, .pinned], laidTests := true, laidLooks := .later }
def BlockChoiceUptoCardSaid : Prop := Claim7.holds Tryz.pinned (.plain (OpenSpec.upto blockChoiceSpec)) blockChoiceUptoCard

/-- THE SECOND FORM's CARD OF 'plenumlaw18.BlockLibrary'. -/
def blockLibraryUptoCard : Claim7 := { stood := { row := blockLibraryUptoRow, standIns := [], harness := (true, "6d40d3c04c1acb4b360511c8bd9ca8d216de3ccdd2d1a71f78472f579ed4bec5"), looks := true }, kinds := [], alts := [], laidByText := true, laidKinds := [.data, .data, .data, .data, .sentinel, .sentinel, .listed, .data, .pinned], laidTests := true, laidLooks := .later }
def BlockLibraryUptoCardSaid : Prop := Claim7.holds Tryz.pinned (.plain (OpenSpec.upto blockLibrarySpec)) blockLibraryUptoCard
end Rows
end Go.Proofs.YtbcpnhnalhhfoaaGreatDoor
