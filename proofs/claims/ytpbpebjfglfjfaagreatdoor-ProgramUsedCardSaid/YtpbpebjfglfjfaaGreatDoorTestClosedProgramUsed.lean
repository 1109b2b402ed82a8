/-
  The statement 'ProgramUsed' holds, as its given card says it: called with whatever arguments the card lets in, the law returns true and its arguments read as they did.
  Conditions: those that the card itself states, and no others.
-/
import Derived.Test.YtpbpebjfglfjfaaGreatDoorRows
import Derived.Test.YtpbpebjfglfjfaaGreatDoorXSB
import Derived.Test.YtpbpebjfglfjfaaGreatDoorXV
import Derived.ChangeMaps5
import Derived.ChangeShapes
import Derived.Test.YtpbpebjfglfjfaaGreatDoorCards
import Derived.Test.YtpbpebjfglfjfaaGreatDoorTie
import Derived.Deep.DeepHandedRow
import Derived.Deep.DeepWitnessRowRef
import Derived.Lay
import Derived.SevenTiedAt
import Derived.Lib.LaidTab
import Derived.Stop.LaidErr
import Derived.LaidMore
import Derived.Shelf.LaysM
import Derived.Test.YtpbpebjfglfjfaaGreatDoorOwn0
import Derived.WalkKit
import Derived.ProofKit
import Derived.OpenShut
import Derived.ShutString
import Derived.ChangeOld
import Derived.Below
import Derived.SizedLaws
import Derived.ChangeMaps5
import Derived.ChangeSlices
import Derived.RowKit
namespace Go.Proofs.YtpbpebjfglfjfaaGreatDoor.programUsed
open Go.ChangeShapes Go.WideShapes
open Go.ChangeMaps (open_string shut_string)
open Go.RowKit Go.Proofs.YtpbpebjfglfjfaaGreatDoor
set_option linter.unusedVariables false
theorem andT {a b : Bool} (h : a = true) (k : b = true) : (a && b) = true := by rw [h, k]; rfl
theorem named5 : Tryz.pinned.checked.prog.funcNamed Rows.programUsedRow.func = some 5 := by kernel_rfl
theorem k0 : (Rows.programUsedRow.wf (OpenSpec.ofChange (OpenSpec.ofChange Rows.programUsedSpec).bare)) = true := by kernel_rfl
theorem k1 : (laidOutB Tryz.pinned.checked.prog) = true := by kernel_rfl
theorem k2 : (mapsRowed Tryz.pinned.checked.prog) = true := by kernel_rfl
theorem k3 : (Tryz.f5.params.all (Tryz.pinned.checked.prog.readableRec ·)) = true := by kernel_rfl
theorem k4 : (namedTie Tryz.pinned.checked.prog Rows.programUsedRow.named (OpenSpec.ofChange Rows.programUsedSpec).bare.vars) = true := by kernel_rfl
theorem k5 : ((Rows.programUsedRow.stops == [])) = true := by kernel_rfl
theorem k6 : ((Tryz.pinned.checked.prog.stops == [])) = true := by kernel_rfl
theorem k7 : ((Rows.programUsedRow.knobs == [])) = true := by kernel_rfl
theorem k8 : ((Tryz.pinned.checked.prog.stopKnobs == [])) = true := by kernel_rfl
theorem k9 : ((Rows.programUsedRow.inPlace == Tryz.pinned.checked.prog.inPlace 5)) = true := by kernel_rfl
theorem k10 : ((Rows.programUsedRow.unfollowed == Tryz.pinned.checked.prog.unfollowed 5)) = true := by kernel_rfl
theorem k11 : ((Rows.programUsedRow.recurses == Tryz.pinned.checked.prog.recurses 5)) = true := by kernel_rfl
theorem k12 : ((Rows.programUsedRow.named == Tryz.pinned.checked.prog.varsNamed 5)) = true := by kernel_rfl
theorem k13 : ((Rows.programUsedRow.maps == (Tryz.f5.params.toList ++ (OpenSpec.ofChange Rows.programUsedSpec).bare.plain.varTypes Tryz.pinned.checked.prog).any (Tryz.pinned.checked.prog.mapsRec ·))) = true := by kernel_rfl
theorem k14 : ((Rows.programUsedRow.ifaces == (Tryz.f5.params.toList ++ (OpenSpec.ofChange Rows.programUsedSpec).bare.plain.varTypes Tryz.pinned.checked.prog).any (Tryz.pinned.checked.prog.ifacesRec ·))) = true := by kernel_rfl
theorem k15 : ((Rows.programUsedRow.mapsOut == Tryz.pinned.checked.prog.mapsAmong Tryz.f5.resultTypes.toList)) = true := by kernel_rfl
theorem k16 : ((Rows.programUsedRow.loops == (Tryz.f5.params.toList ++ (OpenSpec.ofChange Rows.programUsedSpec).bare.plain.varTypes Tryz.pinned.checked.prog).any (Tryz.pinned.checked.prog.loopsFrom ·))) = true := by kernel_rfl
theorem k17 : ((Rows.programUsedRow.wideKeys == (Tryz.f5.params.toList ++ (OpenSpec.ofChange Rows.programUsedSpec).bare.plain.varTypes Tryz.pinned.checked.prog ++ Tryz.f5.resultTypes.toList).any (Tryz.pinned.checked.prog.wideKeysFrom ·))) = true := by kernel_rfl
theorem k18 : ((OpenSpec.ofChange Rows.programUsedSpec).bare.vars.all (Tryz.pinned.checked.prog.varReadable ·)) = true := by kernel_rfl
theorem k19 : (Tryz.f5.resultTypes.all (fun t => Tryz.pinned.checked.prog.readableRec t && decide (t < Tryz.pinned.checked.prog.types.size))) = true := by kernel_rfl
theorem k20 : ((Rows.programUsedRow.ifacesOut == Tryz.f5.resultTypes.toList.any (Tryz.pinned.checked.prog.ifacesRec ·))) = true := by kernel_rfl
theorem k21 : ((Rows.programUsedRow.loopsOut == Tryz.f5.resultTypes.toList.any (Tryz.pinned.checked.prog.loopsFrom ·))) = true := by kernel_rfl
theorem k22 : ((Rows.programUsedRow.plainKeys == Tryz.pinned.checked.prog.plainKeys)) = true := by kernel_rfl
theorem k23 : (Rows.programUsedRow.shortTexts.isNone) = true := by kernel_rfl
theorem k24 : (Tryz.pinned.checked.prog.stopsHeard) = true := by kernel_rfl
theorem k25 : (Tryz.pinned.checked.prog.mayEnter) = true := by kernel_rfl
theorem k26 : ((Rows.programUsedRow.lifted == Tryz.pinned.checked.prog.liftsFinal)) = true := by kernel_rfl
theorem k27 : ((Tryz.pinned.checked.prog.make == some Rows.programUsedRow.make)) = true := by kernel_rfl
theorem k28 : ((Rows.programUsedRow.kinds == (if Rows.programUsedRow.domain.isEmpty then [] else Tryz.f5.params.toList.map fun t => match Tryz.pinned.checked.prog.underlying t with | some (.int k) => some k | _ => none))) = true := by kernel_rfl
theorem k29 : ((Rows.programUsedRow.pinned == Rows.programUsedRow.pinnedBy)) = true := by kernel_rfl
theorem k30 : ((Rows.programUsedRow.veiled == (Tryz.f5.params.toList ++ (OpenSpec.ofChange Rows.programUsedSpec).bare.plain.varTypes Tryz.pinned.checked.prog ++ Tryz.f5.resultTypes.toList).any (Tryz.pinned.checked.prog.veiledRec ·))) = true := by kernel_rfl
theorem k31 : (Rows.programUsedRow.veiledFits Tryz.pinned.checked.prog Tryz.f5.params.toList (Tryz.f5.params.toList ++ (OpenSpec.ofChange Rows.programUsedSpec).bare.plain.varTypes Tryz.pinned.checked.prog ++ Tryz.f5.resultTypes.toList)) = true := by kernel_rfl
set_option maxRecDepth 100000 in
theorem closed : joinedFacts Tryz.pinned.checked.prog 5 Tryz.f5 (OpenSpec.ofChange Rows.programUsedSpec).bare Rows.programUsedRow = true := (andT (andT (andT (andT (andT (andT (andT (andT (andT (andT (andT (andT (andT (andT (andT (andT (andT (andT (andT (andT (andT (andT (andT (andT (andT (andT (andT (andT (andT (andT (andT k0 k1) k2) k3) k4) k5) k6) k7) k8) k9) k10) k11) k12) k13) k14) k15) k16) k17) k18) k19) k20) k21) k22) k23) k24) k25) k26) k27) k28) k29) k30) k31)
theorem instOf : Tryz.f5.isInstance Tryz.pinned.checked.prog Rows.programUsedRow.origin Rows.programUsedRow.targs := of_decide_eq_true (by kernel_rfl)
theorem wrapOf : Tryz.f5.isWrapper Tryz.pinned.checked.prog Rows.programUsedRow.wrapper Rows.programUsedRow.mainSum := by unfold Func.isWrapper; first | (rw [if_pos (by decide +kernel)]; kernel_rfl) | (rw [if_neg (by decide +kernel)]; exact ⟨rfl, rfl⟩)
end Go.Proofs.YtpbpebjfglfjfaaGreatDoor.programUsed
