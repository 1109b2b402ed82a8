/-
  The statement 'BlockChoice' holds, as its given card says it: called with whatever arguments the card lets in, the law returns true and its arguments read as they did.
  Conditions: those that the card itself states, and no others.
-/
import Derived.Test.YtbcpnhnalhhfoaaGreatDoorRows
import Derived.Test.YtbcpnhnalhhfoaaGreatDoorXB3
import Derived.Test.YtbcpnhnalhhfoaaGreatDoorXV
import Derived.ChangeMaps5
import Derived.ChangeShapes
import Derived.Test.YtbcpnhnalhhfoaaGreatDoorCards
import Derived.Test.YtbcpnhnalhhfoaaGreatDoorTie
import Derived.Deep.DeepHandedRow
import Derived.Deep.DeepWitnessRowRef
import Derived.Lay
import Derived.SevenTiedAt
import Derived.Lib.LaidTab
import Derived.Stop.LaidErr
import Derived.LaidMore
import Derived.Shelf.LaysM
import Derived.Test.YtbcpnhnalhhfoaaGreatDoorOwn0
import Derived.WalkKit
import Derived.ProofKit
import Derived.OpenShut
import Derived.ShutString
import Derived.ChangeOld
import Derived.Below
import Derived.SizedLaws
import Derived.ChangeMaps5
import Derived.ChangeSlices
import Derived.RowKit
namespace Go.Proofs.YtbcpnhnalhhfoaaGreatDoor.blockChoice
open Go.ChangeShapes Go.WideShapes
open Go.ChangeMaps (open_string shut_string)
open Go.RowKit Go.Proofs.YtbcpnhnalhhfoaaGreatDoor
set_option linter.unusedVariables false
theorem own : ownKnob Tryz.prog.godebug = none := by kernel_rfl
theorem laidOut : laidOutB Tryz.prog = true := by kernel_rfl
/-- What the row's list and the world's shape give: 'GW'. -/
theorem laidGW {W : World} (h : laidMetH Tryz.prog Rows.blockChoiceRow.laid W) (hs : W.ShapedOpen Tryz.prog) : GW W := by
  rw [MakeChecks.laidMetH_plain _ _ _ (by kernel_rfl)] at h
  refine ⟨Go.Proofs.cell_of_shapedOpen_int (zero := #[.int .i64 0]) (t := 3) hs (of_decide_eq_true (by kernel_rfl)) (by kernel_rfl) rfl (by kernel_rfl) (by kernel_rfl) Tryz.underlying3, ?_⟩
  have h2 := h.tail.tail.tail.tail.tail.tail.tail
  have e : (Rows.blockChoiceRow.laid.drop 7) = ("strings.asciiSpace", Lib.tabData .u8 Lib.asciiSpaceTab) :: Rows.blockChoiceRow.laid.drop 8 := by kernel_rfl
  have h3 : laidMet Tryz.prog (Rows.blockChoiceRow.laid.drop 7) W := h2
  rw [e] at h3
  exact Lib.tabIs_of_head gAscii (by kernel_rfl) Tryz.underlying112 Tryz.underlying5 (by kernel_rfl) (by kernel_rfl) h3
set_option maxRecDepth 100000 in
theorem lifted (os : Os) (started : os.Started) (H : Type) (enc : TypeId × Value → H) (F : Stop.Interp) :
    ReturnsInHanded {} Tryz.checked os 8 .any ((OpenSpec.ofChange Rows.blockChoiceSpec).preRow enc Tryz.prog Tryz.f8 Rows.blockChoiceRow.domain false Rows.blockChoiceRow.laid) (((OpenSpec.ofChange Rows.blockChoiceSpec).at F).post enc Tryz.prog Tryz.f8 false true false false) := by
  refine returnsInHanded_of_row (C := Tryz.checked) (s := OpenSpec.ofChange Rows.blockChoiceSpec) own started (by kernel_rfl) Tryz.func8
    (ChangeSpec.witness_shaped (enc := enc) (C := Tryz.checked) (os := os) (s := Rows.blockChoiceSpec) (conds := Rows.blockChoiceRow.domain) (X := fun w _ => laidMetH Tryz.prog Rows.blockChoiceRow.laid w) false (World.laidAll Tryz.prog os Rows.blockChoiceRow.laid) #[.bool false, .int .i64 0, .slice none 0 0] 8 (World.laidAll_os _ _ _)
      (World.shaped_of_ZipB (by kernel_rfl) (by kernel_rfl)) (by kernel_rfl) (by kernel_rfl) (by kernel_rfl)
      (by rw [MakeChecks.laidMetH_plain _ _ _ (by kernel_rfl)]; exact laidMet_laidAll _ (by kernel_rfl) (by kernel_rfl))) ?_
  intro W base args ds gs before hval0 hW hcnd _ hsz0 hL hshape _
  have hval : ∀ (j : Nat) t v, Tryz.f8.params[j]? = some t → args[j]? = some v → Value.okWide Tryz.prog W .any base t v := hval0
  have hW' := hW
  obtain ⟨p, q, hA0, hV, rfl, hfz, hnd⟩ := hW
  have hA : DataW.TrodAll enc Tryz.prog W 0 (fun _ => true) true Tryz.f8.params.toList args.toList ds p := hA0
  rw [Tryz.params8] at hA hval
  obtain ⟨v0, vs0, d0, ds0, p0, q0, hargs, rfl, rfl, h0, r0⟩ := trodAll_cons hA
  obtain ⟨v1, vs1, d1, ds1, p1, q1, rfl, rfl, rfl, h1, r1⟩ := trodAll_cons r0
  obtain ⟨v2, vs2, d2, ds2, p2, q2, rfl, rfl, rfl, h2, r2⟩ := trodAll_cons r1
  obtain ⟨rfl, rfl, rfl⟩ := trodAll_nil r2
  obtain rfl : args = #[v0, v1, v2] := by cases args; simp_all
  obtain ⟨rfl, rfl⟩ := trodVars_none hV
  obtain ⟨a0, rfl, rfl, rfl⟩ := open_bool Tryz.underlying4 (hval 0 4 v0 rfl rfl) h0
  obtain ⟨a1, rfl, rfl, rfl, w1⟩ := open_int Tryz.underlying2 (hval 1 2 v1 rfl rfl) h1
  obtain ⟨a2, len2, cap2, rfl⟩ := okWide_slice Tryz.underlying36 (hval 2 36 v2 rfl rfl)
  have k2 := h2
  have lt2 : ∀ x ∈ p2, x.block < W.heap.size := by obtain ⟨m, hm⟩ := k2; exact DataW.trod_lt m _ _ _ hm
  obtain ⟨l2, hr2, hq2⟩ := X.arg_x (X.opx_slice 38 Tryz.underlying36 (by kernel_rfl) (X.opx_iso (f := (fun v : (Int) × (Int) => (fun n : Int => [X.V.int .i64 n]) v.1 ++ (fun n : Int => [X.V.int .i64 n]) v.2)) (f2 := X.encT 38) (X.opx_struct (f := (fun v : (Int) × (Int) => (fun n : Int => [X.V.int .i64 n]) v.1 ++ (fun n : Int => [X.V.int .i64 n]) v.2)) (n := 2) Tryz.underlying38 (by kernel_rfl) (X.opxF_cons (f := (fun n : Int => [X.V.int .i64 n])) (f2 := (fun n : Int => [X.V.int .i64 n])) (off := 0) (n := 1) (m := 1) rfl (by kernel_rfl) (X.opx_int Tryz.underlying3) (X.opxF_one (f := (fun n : Int => [X.V.int .i64 n])) (off := 1) (n := 1) rfl (by kernel_rfl) (X.opx_int Tryz.underlying2)))) (fun p : (Int) × (Int) => (⟨p.1, p.2⟩ : X.GValue)) (fun x : X.GValue => (x.kind, x.n)) (fun _ => rfl) (fun _ => rfl))) h2
  clear hA0 hval0 hsz0
  refine (X.law_calls X.okBlockChoice (xs := [X.V.bool a0, X.V.int .i64 a1, X.V.ro 38 l2]) (vs := #[Value.bool a0, Value.int .i64 a1, Value.slice a2 len2 cap2]) (laidGW hL hshape) rfl (.cons (.bool _) (.cons (.int _ _) (.cons (hr2.get0) .nil))) (X.hgBlockChoice a0 a1 l2 w1 hq2)).mono fun e W' ⟨he, bel⟩ => ?_
  subst he
  exact ⟨_, rfl, _, _, _, [], _, [], hW', trodAll_mk1 (shut_bool Tryz.underlying4 _), (trodAll_cons_mk (shut_bool Tryz.underlying4 _) (trodAll_cons_mk (shut_int Tryz.underlying2 w1) (trodAll_cons_mk (Below.trod laidOut (by kernel_rfl) (of_decide_eq_true (by kernel_rfl)) k2 bel lt2) trodAll_mk0))), rfl, bel.frame _, fun h => by cases h⟩
theorem proved : Rows.BlockChoiceSaid :=
  OpenClaim.holds_of_cond 8 Tryz.f8 rfl rfl rfl rfl rfl rfl rfl ⟨rfl, rfl, rfl, rfl, rfl⟩ rfl rfl rfl rfl rfl (by kernel_rfl) Tryz.func8 (by kernel_rfl)
    (of_decide_eq_true (by kernel_rfl)) (by unfold Func.isWrapper; first | (rw [if_pos (by decide +kernel)]; kernel_rfl) | (rw [if_neg (by decide +kernel)]; exact ⟨rfl, rfl⟩))
    (fun os started H enc _ F => by rw [OpenClaim.pre_eq_preRow]; exact lifted os started H enc F)
/-- No parameter wants a stand-in; the program's looks are as the card says. -/
theorem plain (f : FuncId) (fn : Func) (hf : Tryz.pinned.checked.prog.funcNamed "plenum/plenumlaw18.BlockChoice" = some f) (hfn : Tryz.pinned.checked.prog.funcs[f]? = some fn) :
    true = Tryz.pinned.checked.prog.looks [] ∧ ∀ (j : Nat) t, fn.params[j]? = some t → Tryz.pinned.checked.prog.wantsStandIn t = false := by
  obtain rfl : f = 8 := Option.some.inj ((show Tryz.prog.funcNamed "plenum/plenumlaw18.BlockChoice" = some 8 by kernel_rfl).symm.trans hf) |>.symm
  obtain rfl : fn = Tryz.f8 := (Option.some.inj (Tryz.func8.symm.trans hfn)).symm
  refine ⟨by kernel_rfl, fun j t ht => ?_⟩
  rw [Tryz.params8] at ht
  have hm := Array.mem_of_getElem? ht
  have hall : ((Tryz.f8.params.toList).all fun u => !Tryz.prog.wantsStandIn u) = true := by kernel_rfl
  rw [Tryz.params8] at hall
  have h2 := List.all_eq_true.1 hall t (by simpa using hm)
  exact (show Tryz.prog.wantsStandIn t = false by simpa using h2)
/-- THE CARD. -/
theorem card : Rows.BlockChoiceCardSaid :=
  Claim7.holds_tied_plain_at .later [] _ _ _ _ proved (fun _ h => by cases h) (by kernel_rfl) (fun _ h => by cases h) blockChoice_row_tie rfl ⟨rfl, rfl⟩ (by kernel_rfl) rfl plain (by kernel_rfl)
#print axioms card
end Go.Proofs.YtbcpnhnalhhfoaaGreatDoor.blockChoice
namespace Go.Proofs.YtbcpnhnalhhfoaaGreatDoor
/-- The card, under a short name, for the claim. -/
theorem blockChoice_card_holds : Rows.BlockChoiceCardSaid := blockChoice.card
end Go.Proofs.YtbcpnhnalhhfoaaGreatDoor
