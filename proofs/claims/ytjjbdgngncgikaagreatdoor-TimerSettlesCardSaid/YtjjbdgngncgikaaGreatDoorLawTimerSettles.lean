/-
  The statement 'TimerSettles' holds, as its given card says it: called with whatever arguments the card lets in, the law returns true and its arguments read as they did.
  Conditions: those that the card itself states, and no others.
-/
import Derived.Test.YtjjbdgngncgikaaGreatDoorRows
import Derived.Test.YtjjbdgngncgikaaGreatDoorRx20
import Derived.Test.YtjjbdgngncgikaaGreatDoorPureTimerSettles
import Derived.Test.YtjjbdgngncgikaaGreatDoorOpen
import Derived.Test.YtjjbdgngncgikaaGreatDoorCards
import Derived.Test.YtjjbdgngncgikaaGreatDoorTie
import Derived.Deep.DeepHandedRow
import Derived.Deep.DeepWitnessRowRef
import Derived.Lay
import Derived.SevenTiedAt
import Derived.Lib.LaidTab
import Derived.Stop.LaidErr
import Derived.LaidMore
import Derived.Shelf.LaysM
import Derived.Test.YtjjbdgngncgikaaGreatDoorOwn0
import Derived.WalkKit
import Derived.ProofKit
import Derived.OpenShut
import Derived.ShutString
import Derived.ChangeOld
import Derived.Below
import Derived.SizedLaws
import Derived.ChangeMaps5
import Derived.ChangeSlices
import Derived.RowKit
namespace Go.Proofs.YtjjbdgngncgikaaGreatDoor.timerSettles
open Go.ChangeShapes Go.WideShapes
open Go.ChangeMaps (open_string shut_string)
open Go.RowKit Go.Proofs.YtjjbdgngncgikaaGreatDoor.R Go.Proofs.YtjjbdgngncgikaaGreatDoorW.PrintWords Go.Proofs.YtjjbdgngncgikaaGreatDoorW.PrintMore
set_option linter.unusedVariables false
set_option linter.unusedSimpArgs false
theorem own : ownKnob Tryz.prog.godebug = none := by kernel_rfl
theorem laidOut : laidOutB Tryz.prog = true := by kernel_rfl
/-- What the row's list and the world's shape give: 'GW'. -/
theorem laidGW {W : World} (h : laidMetH Tryz.prog Rows.timerSettlesRow.laid W) (hs : W.ShapedOpen Tryz.prog) : GW W := by
  rw [MakeChecks.laidMetH_plain _ _ _ (by kernel_rfl)] at h
  refine ⟨Go.Proofs.cell_of_shapedOpen_int (zero := #[.int .i64 0]) (t := 3) hs (of_decide_eq_true (by kernel_rfl)) (by kernel_rfl) rfl (by kernel_rfl) (by kernel_rfl) Tryz.underlying3, ?_⟩
  have h2 := h.tail.tail.tail.tail.tail.tail.tail
  have e : (Rows.timerSettlesRow.laid.drop 7) = ("strings.asciiSpace", Lib.tabData .u8 Lib.asciiSpaceTab) :: Rows.timerSettlesRow.laid.drop 8 := by kernel_rfl
  have h3 : laidMet Tryz.prog (Rows.timerSettlesRow.laid.drop 7) W := h2
  rw [e] at h3
  exact Lib.tabIs_of_head gAscii (by kernel_rfl) Tryz.underlying90 Tryz.underlying5 (by kernel_rfl) (by kernel_rfl) h3
set_option maxRecDepth 100000 in
theorem lifted (os : Os) (started : os.Started) (H : Type) (enc : TypeId × Value → H) (F : Stop.Interp) :
    ReturnsInHanded {} Tryz.checked os 4 .any ((OpenSpec.ofChange Rows.timerSettlesSpec).preRow enc Tryz.prog Tryz.f4 Rows.timerSettlesRow.domain false Rows.timerSettlesRow.laid) (((OpenSpec.ofChange Rows.timerSettlesSpec).at F).post enc Tryz.prog Tryz.f4 false true false false) := by
  refine returnsInHanded_of_row (C := Tryz.checked) (s := OpenSpec.ofChange Rows.timerSettlesSpec) own started (by kernel_rfl) Tryz.func4
    (ChangeSpec.witness_shaped (enc := enc) (C := Tryz.checked) (os := os) (s := Rows.timerSettlesSpec) (conds := Rows.timerSettlesRow.domain) (X := fun w _ => laidMetH Tryz.prog Rows.timerSettlesRow.laid w) false (World.laidAll Tryz.prog os Rows.timerSettlesRow.laid) #[.string (⟨#[]⟩ : ByteArray), .slice none 0 0, .slice none 0 0, .slice none 0 0] 8 (World.laidAll_os _ _ _)
      (World.shaped_of_ZipB (by kernel_rfl) (by kernel_rfl)) (by kernel_rfl) (by kernel_rfl) (by kernel_rfl)
      (by rw [MakeChecks.laidMetH_plain _ _ _ (by kernel_rfl)]; exact laidMet_laidAll _ (by kernel_rfl) (by kernel_rfl))) ?_
  intro W base args ds gs before hval0 hW hcnd _ hsz0 hL hshape _
  have hval : ∀ (j : Nat) t v, Tryz.f4.params[j]? = some t → args[j]? = some v → Value.okWide Tryz.prog W .any base t v := hval0
  have hW' := hW
  obtain ⟨p, q, hA0, hV, rfl, hfz, hnd⟩ := hW
  have hA : DataW.TrodAll enc Tryz.prog W 0 (fun _ => true) true Tryz.f4.params.toList args.toList ds p := hA0
  rw [Tryz.params4] at hA hval
  obtain ⟨v0, vs0, d0, ds0, p0, q0, hargs, rfl, rfl, h0, r0⟩ := trodAll_cons hA
  obtain ⟨v1, vs1, d1, ds1, p1, q1, rfl, rfl, rfl, h1, r1⟩ := trodAll_cons r0
  obtain ⟨v2, vs2, d2, ds2, p2, q2, rfl, rfl, rfl, h2, r2⟩ := trodAll_cons r1
  obtain ⟨v3, vs3, d3, ds3, p3, q3, rfl, rfl, rfl, h3, r3⟩ := trodAll_cons r2
  obtain ⟨rfl, rfl, rfl⟩ := trodAll_nil r3
  obtain rfl : args = #[v0, v1, v2, v3] := by cases args; simp_all
  obtain ⟨rfl, rfl⟩ := trodVars_none hV
  obtain ⟨a0, rfl, rfl, rfl, hs0⟩ := open_string Tryz.underlying9 (hval 0 9 v0 rfl rfl) h0
  obtain ⟨a1, len1, cap1, rfl⟩ := okWide_slice Tryz.underlying22 (hval 1 22 v1 rfl rfl)
  have k1 := h1
  have lt1 : ∀ x ∈ p1, x.block < W.heap.size := by obtain ⟨m, hm⟩ := k1; exact DataW.trod_lt m _ _ _ hm
  obtain ⟨l1, hl1, hc1, hm1, hr1, hq1⟩ := arg_slice (d := (Kd.int .i64)) Tryz.underlying22 (by kernel_rfl) (opens_int Tryz.underlying2) h1
  subst hl1
  obtain ⟨a2, len2, cap2, rfl⟩ := okWide_slice Tryz.underlying22 (hval 2 22 v2 rfl rfl)
  have k2 := h2
  have lt2 : ∀ x ∈ p2, x.block < W.heap.size := by obtain ⟨m, hm⟩ := k2; exact DataW.trod_lt m _ _ _ hm
  obtain ⟨l2, hl2, hc2, hm2, hr2, hq2⟩ := arg_slice (d := (Kd.int .i64)) Tryz.underlying22 (by kernel_rfl) (opens_int Tryz.underlying2) h2
  subst hl2
  obtain ⟨a3, len3, cap3, rfl⟩ := okWide_slice Tryz.underlying23 (hval 3 23 v3 rfl rfl)
  have k3 := h3
  have lt3 : ∀ x ∈ p3, x.block < W.heap.size := by obtain ⟨m, hm⟩ := k3; exact DataW.trod_lt m _ _ _ hm
  obtain ⟨l3, hl3, hc3, hm3, hr3, hq3⟩ := arg_slice (d := k26) Tryz.underlying23 (by kernel_rfl) (opens_iso (fun p => ⟨p.1, p.2⟩) (fun _ => rfl) (opens_struct Tryz.underlying26 (by kernel_rfl) (opensF_cons rfl (by kernel_rfl) (opens_int Tryz.underlying3) (opensF_one rfl (by kernel_rfl) (opens_int Tryz.underlying2))))) h3
  subst hl3
  obtain ⟨k, hk⟩ := Pure.TimerSettles a0 l1 l2 l3 hs0 (Nat.le_trans hc1 hm1) hq1 (Nat.le_trans hc2 hm2) hq2 (Nat.le_trans hc3 hm3) hq3
  clear hA0 hval0 hsz0
  refine (R.plenumlaw19_TimerSettles.calls k a0 _ _ l1 _ _ l2 _ _ l3 true W hr1 hc1 hr2 hc2 hr3 hc3 (laidGW hL hshape) hk).mono fun e W' ⟨he, bel⟩ => ?_
  subst he
  exact ⟨_, rfl, _, _, _, [], _, [], hW', trodAll_mk1 (shut_bool Tryz.underlying4 _), (trodAll_cons_mk (shut_string Tryz.underlying9 hs0) (trodAll_cons_mk (Below.trod laidOut (by kernel_rfl) (of_decide_eq_true (by kernel_rfl)) k1 bel lt1) (trodAll_cons_mk (Below.trod laidOut (by kernel_rfl) (of_decide_eq_true (by kernel_rfl)) k2 bel lt2) (trodAll_cons_mk (Below.trod laidOut (by kernel_rfl) (of_decide_eq_true (by kernel_rfl)) k3 bel lt3) trodAll_mk0)))), rfl, bel.frame _, fun h => by cases h⟩
theorem proved : Rows.TimerSettlesSaid :=
  OpenClaim.holds_of_cond 4 Tryz.f4 rfl rfl rfl rfl rfl rfl rfl ⟨rfl, rfl, rfl, rfl, rfl⟩ rfl rfl rfl rfl rfl (by kernel_rfl) Tryz.func4 (by kernel_rfl)
    (of_decide_eq_true (by kernel_rfl)) (by unfold Func.isWrapper; first | (rw [if_pos (by decide +kernel)]; kernel_rfl) | (rw [if_neg (by decide +kernel)]; exact ⟨rfl, rfl⟩))
    (fun os started H enc _ F => by rw [OpenClaim.pre_eq_preRow]; exact lifted os started H enc F)
/-- No parameter wants a stand-in; the program's looks are as the card says. -/
theorem plain (f : FuncId) (fn : Func) (hf : Tryz.pinned.checked.prog.funcNamed "plenum/plenumlaw19.TimerSettles" = some f) (hfn : Tryz.pinned.checked.prog.funcs[f]? = some fn) :
    true = Tryz.pinned.checked.prog.looks [] ∧ ∀ (j : Nat) t, fn.params[j]? = some t → Tryz.pinned.checked.prog.wantsStandIn t = false := by
  obtain rfl : f = 4 := Option.some.inj ((show Tryz.prog.funcNamed "plenum/plenumlaw19.TimerSettles" = some 4 by kernel_rfl).symm.trans hf) |>.symm
  obtain rfl : fn = Tryz.f4 := (Option.some.inj (Tryz.func4.symm.trans hfn)).symm
  refine ⟨by kernel_rfl, fun j t ht => ?_⟩
  rw [Tryz.params4] at ht
  have hm := Array.mem_of_getElem? ht
  have hall : ((Tryz.f4.params.toList).all fun u => !Tryz.prog.wantsStandIn u) = true := by kernel_rfl
  rw [Tryz.params4] at hall
  have h2 := List.all_eq_true.1 hall t (by simpa using hm)
  exact (show Tryz.prog.wantsStandIn t = false by simpa using h2)
/-- THE CARD. -/
theorem card : Rows.TimerSettlesCardSaid :=
  Claim7.holds_tied_plain_at .later [] _ _ _ _ proved (fun _ h => by cases h) (by kernel_rfl) (fun _ h => by cases h) timerSettles_row_tie rfl ⟨rfl, rfl⟩ (by kernel_rfl) rfl plain (by kernel_rfl)
#print axioms card
end Go.Proofs.YtjjbdgngncgikaaGreatDoor.timerSettles
namespace Go.Proofs.YtjjbdgngncgikaaGreatDoor
/-- The card, under a short name, for the claim. -/
theorem timerSettles_card_holds : Rows.TimerSettlesCardSaid := timerSettles.card
end Go.Proofs.YtjjbdgngncgikaaGreatDoor
