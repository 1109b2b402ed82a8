/-
  The statement 'BlockParams' holds, as its given card says it: called with whatever arguments the card lets in, the law returns true and its arguments read as they did.
  Conditions: those that the card itself states, and no others.
-/
import Derived.Test.YtbcpnhnalhhfoaaGreatDoorRows
import Derived.Test.YtbcpnhnalhhfoaaGreatDoorXPar
import Derived.Test.YtbcpnhnalhhfoaaGreatDoorXV
import Derived.ChangeMaps5
import Derived.ChangeShapes
import Derived.Test.YtbcpnhnalhhfoaaGreatDoorCards
import Derived.Test.YtbcpnhnalhhfoaaGreatDoorTie
import Derived.Deep.DeepHandedRow
import Derived.Deep.DeepWitnessRowRef
import Derived.Lay
import Derived.SevenTiedAt
import Derived.Lib.LaidTab
import Derived.Stop.LaidErr
import Derived.LaidMore
import Derived.Shelf.LaysM
import Derived.Test.YtbcpnhnalhhfoaaGreatDoorOwn0
import Derived.WalkKit
import Derived.ProofKit
import Derived.OpenShut
import Derived.ShutString
import Derived.ChangeOld
import Derived.Below
import Derived.SizedLaws
import Derived.ChangeMaps5
import Derived.ChangeSlices
import Derived.RowKit
namespace Go.Proofs.YtbcpnhnalhhfoaaGreatDoor.blockParams
open Go.ChangeShapes Go.WideShapes
open Go.ChangeMaps (open_string shut_string)
open Go.RowKit Go.Proofs.YtbcpnhnalhhfoaaGreatDoor
set_option linter.unusedVariables false
theorem own : ownKnob Tryz.prog.godebug = none := by kernel_rfl
theorem laidOut : laidOutB Tryz.prog = true := by kernel_rfl
/-- What the row's list and the world's shape give: 'GW'. -/
theorem laidGW {W : World} (h : laidMetH Tryz.prog Rows.blockParamsRow.laid W) (hs : W.ShapedOpen Tryz.prog) : GW W := by
  rw [MakeChecks.laidMetH_plain _ _ _ (by kernel_rfl)] at h
  refine ⟨Go.Proofs.cell_of_shapedOpen_int (zero := #[.int .i64 0]) (t := 3) hs (of_decide_eq_true (by kernel_rfl)) (by kernel_rfl) rfl (by kernel_rfl) (by kernel_rfl) Tryz.underlying3, ?_⟩
  have h2 := h.tail.tail.tail.tail.tail.tail.tail
  have e : (Rows.blockParamsRow.laid.drop 7) = ("strings.asciiSpace", Lib.tabData .u8 Lib.asciiSpaceTab) :: Rows.blockParamsRow.laid.drop 8 := by kernel_rfl
  have h3 : laidMet Tryz.prog (Rows.blockParamsRow.laid.drop 7) W := h2
  rw [e] at h3
  exact Lib.tabIs_of_head gAscii (by kernel_rfl) Tryz.underlying112 Tryz.underlying5 (by kernel_rfl) (by kernel_rfl) h3
set_option maxRecDepth 100000 in
theorem lifted (os : Os) (started : os.Started) (H : Type) (enc : TypeId × Value → H) (F : Stop.Interp) :
    ReturnsInHanded {} Tryz.checked os 3 .any ((OpenSpec.ofChange Rows.blockParamsSpec).preRow enc Tryz.prog Tryz.f3 Rows.blockParamsRow.domain false Rows.blockParamsRow.laid) (((OpenSpec.ofChange Rows.blockParamsSpec).at F).post enc Tryz.prog Tryz.f3 false true false false) := by
  refine returnsInHanded_of_row (C := Tryz.checked) (s := OpenSpec.ofChange Rows.blockParamsSpec) own started (by kernel_rfl) Tryz.func3
    (ChangeSpec.witness_shaped (enc := enc) (C := Tryz.checked) (os := os) (s := Rows.blockParamsSpec) (conds := Rows.blockParamsRow.domain) (X := fun w _ => laidMetH Tryz.prog Rows.blockParamsRow.laid w) false (World.laidAll Tryz.prog os Rows.blockParamsRow.laid) #[.string (⟨#[]⟩ : ByteArray), .slice none 0 0] 8 (World.laidAll_os _ _ _)
      (World.shaped_of_ZipB (by kernel_rfl) (by kernel_rfl)) (by kernel_rfl) (by kernel_rfl) (by kernel_rfl)
      (by rw [MakeChecks.laidMetH_plain _ _ _ (by kernel_rfl)]; exact laidMet_laidAll _ (by kernel_rfl) (by kernel_rfl))) ?_
  intro W base args ds gs before hval0 hW hcnd _ hsz0 hL hshape _
  have hval : ∀ (j : Nat) t v, Tryz.f3.params[j]? = some t → args[j]? = some v → Value.okWide Tryz.prog W .any base t v := hval0
  have hW' := hW
  obtain ⟨p, q, hA0, hV, rfl, hfz, hnd⟩ := hW
  have hA : DataW.TrodAll enc Tryz.prog W 0 (fun _ => true) true Tryz.f3.params.toList args.toList ds p := hA0
  rw [Tryz.params3] at hA hval
  obtain ⟨v0, vs0, d0, ds0, p0, q0, hargs, rfl, rfl, h0, r0⟩ := trodAll_cons hA
  obtain ⟨v1, vs1, d1, ds1, p1, q1, rfl, rfl, rfl, h1, r1⟩ := trodAll_cons r0
  obtain ⟨rfl, rfl, rfl⟩ := trodAll_nil r1
  obtain rfl : args = #[v0, v1] := by cases args; simp_all
  obtain ⟨rfl, rfl⟩ := trodVars_none hV
  obtain ⟨a0, rfl, rfl, rfl, hs0⟩ := open_string Tryz.underlying9 (hval 0 9 v0 rfl rfl) h0
  obtain ⟨a1, len1, cap1, rfl⟩ := okWide_slice Tryz.underlying22 (hval 1 22 v1 rfl rfl)
  have k1 := h1
  have lt1 : ∀ x ∈ p1, x.block < W.heap.size := by obtain ⟨m, hm⟩ := k1; exact DataW.trod_lt m _ _ _ hm
  obtain ⟨l1, hr1, hq1⟩ := X.arg_x (X.opx_slice 63 Tryz.underlying22 (by kernel_rfl) (X.opx_iso (f := (fun v : (ByteArray) × (Int) => (fun s : ByteArray => [X.V.str s]) v.1 ++ (fun n : Int => [X.V.int .i64 n]) v.2)) (f2 := X.encT 63) (X.opx_struct (f := (fun v : (ByteArray) × (Int) => (fun s : ByteArray => [X.V.str s]) v.1 ++ (fun n : Int => [X.V.int .i64 n]) v.2)) (n := 2) Tryz.underlying63 (by kernel_rfl) (X.opxF_cons (f := (fun s : ByteArray => [X.V.str s])) (f2 := (fun n : Int => [X.V.int .i64 n])) (off := 0) (n := 1) (m := 1) rfl (by kernel_rfl) (X.opx_string Tryz.underlying9) (X.opxF_one (f := (fun n : Int => [X.V.int .i64 n])) (off := 1) (n := 1) rfl (by kernel_rfl) (X.opx_int Tryz.underlying2)))) (fun p : (ByteArray) × (Int) => (⟨p.1, p.2⟩ : X.GParam)) (fun x : X.GParam => (x.name, x.value)) (fun _ => rfl) (fun _ => rfl))) h1
  clear hA0 hval0 hsz0
  refine (X.law_calls X.okBlockParams (xs := [X.V.str a0, X.V.ro 63 l1]) (vs := #[Value.string a0, Value.slice a1 len1 cap1]) (laidGW hL hshape) rfl (.cons (.str _) (.cons (hr1.get0) .nil)) (X.hgBlockParams a0 l1 hs0 hq1)).mono fun e W' ⟨he, bel⟩ => ?_
  subst he
  exact ⟨_, rfl, _, _, _, [], _, [], hW', trodAll_mk1 (shut_bool Tryz.underlying4 _), (trodAll_cons_mk (shut_string Tryz.underlying9 hs0) (trodAll_cons_mk (Below.trod laidOut (by kernel_rfl) (of_decide_eq_true (by kernel_rfl)) k1 bel lt1) trodAll_mk0)), rfl, bel.frame _, fun h => by cases h⟩
theorem proved : Rows.BlockParamsSaid :=
  OpenClaim.holds_of_cond 3 Tryz.f3 rfl rfl rfl rfl rfl rfl rfl ⟨rfl, rfl, rfl, rfl, rfl⟩ rfl rfl rfl rfl rfl (by kernel_rfl) Tryz.func3 (by kernel_rfl)
    (of_decide_eq_true (by kernel_rfl)) (by unfold Func.isWrapper; first | (rw [if_pos (by decide +kernel)]; kernel_rfl) | (rw [if_neg (by decide +kernel)]; exact ⟨rfl, rfl⟩))
    (fun os started H enc _ F => by rw [OpenClaim.pre_eq_preRow]; exact lifted os started H enc F)
/-- No parameter wants a stand-in; the program's looks are as the card says. -/
theorem plain (f : FuncId) (fn : Func) (hf : Tryz.pinned.checked.prog.funcNamed "plenum/plenumlaw18.BlockParams" = some f) (hfn : Tryz.pinned.checked.prog.funcs[f]? = some fn) :
    true = Tryz.pinned.checked.prog.looks [] ∧ ∀ (j : Nat) t, fn.params[j]? = some t → Tryz.pinned.checked.prog.wantsStandIn t = false := by
  obtain rfl : f = 3 := Option.some.inj ((show Tryz.prog.funcNamed "plenum/plenumlaw18.BlockParams" = some 3 by kernel_rfl).symm.trans hf) |>.symm
  obtain rfl : fn = Tryz.f3 := (Option.some.inj (Tryz.func3.symm.trans hfn)).symm
  refine ⟨by kernel_rfl, fun j t ht => ?_⟩
  rw [Tryz.params3] at ht
  have hm := Array.mem_of_getElem? ht
  have hall : ((Tryz.f3.params.toList).all fun u => !Tryz.prog.wantsStandIn u) = true := by kernel_rfl
  rw [Tryz.params3] at hall
  have h2 := List.all_eq_true.1 hall t (by simpa using hm)
  exact (show Tryz.prog.wantsStandIn t = false by simpa using h2)
/-- THE CARD. -/
theorem card : Rows.BlockParamsCardSaid :=
  Claim7.holds_tied_plain_at .later [] _ _ _ _ proved (fun _ h => by cases h) (by kernel_rfl) (fun _ h => by cases h) blockParams_row_tie rfl ⟨rfl, rfl⟩ (by kernel_rfl) rfl plain (by kernel_rfl)
#print axioms card
end Go.Proofs.YtbcpnhnalhhfoaaGreatDoor.blockParams
namespace Go.Proofs.YtbcpnhnalhhfoaaGreatDoor
/-- The card, under a short name, for the claim. -/
theorem blockParams_card_holds : Rows.BlockParamsCardSaid := blockParams.card
end Go.Proofs.YtbcpnhnalhhfoaaGreatDoor
