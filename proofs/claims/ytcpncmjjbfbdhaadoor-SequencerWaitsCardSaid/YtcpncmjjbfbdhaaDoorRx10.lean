-- Written by this claim's own program out of the translation; not trusted: Lean checks it.
import Derived.Test.YtcpncmjjbfbdhaaDoorRx0
import Derived.Test.YtcpncmjjbfbdhaaDoorRx1
import Derived.Test.YtcpncmjjbfbdhaaDoorRx5
import Derived.Test.YtcpncmjjbfbdhaaDoorRx7
import Derived.Test.YtcpncmjjbfbdhaaDoorRx8
import Derived.Test.YtcpncmjjbfbdhaaDoorRx9
namespace Go.Proofs.YtcpncmjjbfbdhaaDoor.R
open Go.RowKit Go.Proofs.YtcpncmjjbfbdhaaDoorW.PrintWords Go.Proofs.YtcpncmjjbfbdhaaDoorW.PrintLast Go.Proofs.YtcpncmjjbfbdhaaDoorW.PrintMore
attribute [local go_sem] max2_int min2_int max_two min_two max_three min_three max_four min_four   -- for this text's walks alone
set_option linter.unusedVariables false
set_option linter.unusedSimpArgs false

attribute [local go_sem high] eqA27
/-! ### sequencer_Duration: function 20 -/
def sequencer_Duration.f (k : Nat) (l0 : List Int) (a1 : Int) : Option (Int × Int) := (sequencer_Check.f k (⟨#[115, 116, 101, 112, 115]⟩ : ByteArray) l0).bind fun t281 => (if t281 = 0 then ((sequencer_seconds.f a1).bind fun t282 => (if t282 = true then (if 1 < (l0.length : Int) then (if a1 = 0 then (none) else (if 0 < (l0.length : Int) then (some (wrap64 (1 + (wrap64 ((wrap64 ((rd l0 0) - 1)) * (mx 1 (wrap64 (Int.tdiv (wrap64 ((wrap64 ((rd l0 1) + a1)) - 1)) a1)))))), 0)) else (none))) else (none)) else (some (0, 1)))) else (some (0, t281)))
theorem sequencer_Duration.mono : ∀ a0 a1 k, LeO (sequencer_Duration.f k a0 a1) (sequencer_Duration.f (k + 1) a0 a1) := by
 intro a0 a1 k
 unfold sequencer_Duration.f
 repeat' first
   | (with_reducible exact sequencer_Check.mono _ _ _)
   | (with_reducible exact LeO.refl _)
   | (with_reducible exact LeO.none _)
   | (with_reducible refine LeO.ite ?_ ?_)
   | (with_reducible refine LeO.bind ?_ (fun _ => ?_))
   | exact sequencer_Check.mono _ _ _
   | exact LeO.none _
   | refine LeO.ite ?_ ?_
   | refine LeO.bind ?_ (fun _ => ?_)
set_option maxHeartbeats 8000000 in
set_option maxRecDepth 100000 in
theorem sequencer_Duration.calls (k : Nat) (A0 : Option Addr) (c0 : Nat) (l0 : List Int) (a1 : Int) (r1 : Int) (r2 : Int) (w : World) (hr0 : Kd.C (Kd.int .i64) w A0 l0.length l0) (hc0 : l0.length ≤ c0) (hG : GW w) (h : sequencer_Duration.f k l0 a1 = some (r1, r2)) :
  Calls Tryd.prog 20 #[.slice A0 l0.length c0, .int .i64 a1] w fun e w' => e = .returned (.tuple #[.int .i64 r1, .int .i64 r2]) ∧ Below w.heap.size w w' := by
 have HG := Aside0.mk hG
 clear hG
 have HR0 := Aside0.mk hr0
 have HC0 := Aside0.mk hc0
 clear hr0 hc0
 have HB := Aside0.mk (Below.refl w.heap.size w)
 have H : ((sequencer_Check.f k (⟨#[115, 116, 101, 112, 115]⟩ : ByteArray) l0).bind fun t281 => (if t281 = 0 then ((sequencer_seconds.f a1).bind fun t282 => (if t282 = true then (if 1 < (l0.length : Int) then (if a1 = 0 then (none) else (if 0 < (l0.length : Int) then (some (wrap64 (1 + (wrap64 ((wrap64 ((rd l0 0) - 1)) * (mx 1 (wrap64 (Int.tdiv (wrap64 ((wrap64 ((rd l0 1) + a1)) - 1)) a1)))))), 0)) else (none))) else (none)) else (some (0, 1)))) else (some (0, t281)))) = some (r1, r2) := h
 clear h
 replace H := Option.bind_eq_some_iff.mp H
 obtain ⟨t281, A30, H⟩ := H
 replace H : (if t281 = 0 then ((sequencer_seconds.f a1).bind fun t282 => (if t282 = true then (if 1 < (l0.length : Int) then (if a1 = 0 then (none) else (if 0 < (l0.length : Int) then (some (wrap64 (1 + (wrap64 ((wrap64 ((rd l0 0) - 1)) * (mx 1 (wrap64 (Int.tdiv (wrap64 ((wrap64 ((rd l0 1) + a1)) - 1)) a1)))))), 0)) else (none))) else (none)) else (some (0, 1)))) else (some (0, t281))) = some (r1, r2) := H
 have A3 := Aside0.mk A30
 clear A30
 by_cases c4 : t281 = 0
 ·
  rw [if_pos c4] at H
  have c4b0 : (t281 == 0) = true := beq_iff_eq.mpr c4
  have c4b1 : (t281 != 0) = false := bne_eq_false_iff_eq.mpr c4
  clear c4
  replace H := Option.bind_eq_some_iff.mp H
  obtain ⟨t282, A50, H⟩ := H
  replace H : (if t282 = true then (if 1 < (l0.length : Int) then (if a1 = 0 then (none) else (if 0 < (l0.length : Int) then (some (wrap64 (1 + (wrap64 ((wrap64 ((rd l0 0) - 1)) * (mx 1 (wrap64 (Int.tdiv (wrap64 ((wrap64 ((rd l0 1) + a1)) - 1)) a1)))))), 0)) else (none))) else (none)) else (some (0, 1))) = some (r1, r2) := H
  have A5 := Aside0.mk A50
  clear A50
  by_cases c6 : t282 = true
  ·
   subst c6
   have H1 : (if 1 < (l0.length : Int) then (if a1 = 0 then (none) else (if 0 < (l0.length : Int) then (some (wrap64 (1 + (wrap64 ((wrap64 ((rd l0 0) - 1)) * (mx 1 (wrap64 (Int.tdiv (wrap64 ((wrap64 ((rd l0 1) + a1)) - 1)) a1)))))), 0)) else (none))) else (none)) = some (r1, r2) := by rw [if_pos rfl] at H; exact H
   clear H
   have H := H1
   clear H1
   by_cases c7 : 1 < (l0.length : Int)
   ·
    rw [if_pos c7] at H
    have c7b0 : decide (1 < (l0.length : Int)) = true := decide_eq_true c7
    have c7b1 : decide (1 < l0.length) = true := decide_eq_true (by omega)
    clear c7
    by_cases c8 : a1 = 0
    ·
     rw [if_pos c8] at H
     exact absurd H (by simp)
    ·
     rw [if_neg c8] at H
     have c8b0 : (a1 == 0) = false := beq_eq_false_iff_ne.mpr c8
     have c8b1 : (a1 != 0) = true := bne_iff_ne.mpr c8
     obtain ⟨ji9, hji9⟩ : ∃ j_ : Int, (mx 1 (wrap64 (Int.tdiv (wrap64 ((wrap64 ((rd l0 1) + a1)) - 1)) a1))) = j_ := ⟨_, rfl⟩
     replace H : (if 0 < (l0.length : Int) then (some (wrap64 (1 + (wrap64 ((wrap64 ((rd l0 0) - 1)) * (ji9)))), 0)) else (none)) = some (r1, r2) := by first | (rw [hji9] at H; exact H) | (simp only [hji9] at H ⊢; exact H)
     (try rw [hji9] at A3)
     (try rw [hji9] at A5)
     (try (have hji9l : 1 ≤ ji9 := by (rw [← hji9]; unfold mx; (repeat' split) <;> omega)))
     (try (have hji9m : 0 ≤ ji9 := by omega))
     have hji9_ : (if 1 < (wrap64 (Int.tdiv (wrap64 ((wrap64 ((rd l0 1) + a1)) - 1)) a1)) then (wrap64 (Int.tdiv (wrap64 ((wrap64 ((rd l0 1) + a1)) - 1)) a1)) else 1) = ji9 := hji9
     by_cases c10 : 0 < (l0.length : Int)
     ·
      rw [if_pos c10] at H
      have c10b0 : decide (0 < (l0.length : Int)) = true := decide_eq_true c10
      have c10b1 : decide (0 < l0.length) = true := decide_eq_true (by omega)
      clear c10
      simp only [Option.some.injEq, Prod.mk.injEq] at H
      obtain ⟨rfl, rfl⟩ := H
      go_enter Tryd.func20, Tryd.ntmps20
      go_wp2_with (first | ((with_reducible refine gate_callee (f := 14) rfl ?_); refine goesL_ (some 9) rfl rfl Tryd.func14 (by kernel_rfl) rfl #[.string (⟨#[115, 116, 101, 112, 115]⟩ : ByteArray), .slice A0 l0.length c0] rfl (by (try simp only [List.map_toArray, List.map_cons, List.map_nil]); first | done | rfl | (simp only [List.length_drop, List.length_take]; rfl)) ?_; (with_reducible refine (sequencer_Check.calls k (⟨#[115, 116, 101, 112, 115]⟩ : ByteArray) _ _ l0 t281 _ ?side1 ?side2 ?side3 A3.out).mono ?_); (case side1 => repeat (first | exact HR0.out | (with_reducible refine Kd.C_alloc ?_ _) | (with_reducible refine Kd.C_drewN ?_ _) | (with_reducible refine Kd.C_drew ?_))); (case side2 => exact HC0.out); (case side3 => exact GW.below HG.out bl); rintro e w11 ⟨rfl, hb⟩; refine ⟨_, rfl, ?_⟩; have n0_ := Aside0.mk (below_step bl hb); clear HB; have HB := n0_; clear n0_; (try clear hb); (try clear hb2); (try clear hk); (try clear hi)) | ((with_reducible refine gate_callee (f := 23) rfl ?_); refine goesL_ (some 14) rfl rfl Tryd.func23 (by kernel_rfl) rfl #[.int .i64 a1] rfl (by (try simp only [List.map_toArray, List.map_cons, List.map_nil]); first | done | rfl | (simp only [List.length_drop, List.length_take]; rfl)) ?_; (with_reducible refine (sequencer_seconds.calls a1 true _ A5.out).mono ?_); rintro e w' ⟨rfl, ⟨nd, rfl⟩⟩; refine ⟨_, rfl, ?_⟩; have p283 : 0 ≤ (1 : Int) := (by omega); have q283 : 1 < (l0.length : Int) := of_decide_eq_true (by first | (with_reducible assumption) | assumption); obtain ⟨ad283, e283, hx283_0⟩ := Kd.at_int HR0.out 1 p283 q283; cases e283; (try simp only [show (1 : Int).toNat = 1 from rfl, Nat.reduceMul, Nat.reduceEqDiff, Go.Addr.add, ↓reduceIte] at hx283_0); have qi283 : (1 < l0.length) = True := eq_true (by omega); (try rw [show ((1 : Int)).toNat = 1 from rfl] at hx283_0); replace hx283_0 := (HB.out.cell (World.block_lt_of_cell? w _ hx283_0)).trans hx283_0; replace p283 := eq_true p283; replace q283 := eq_true q283; have p284 : 0 ≤ (0 : Int) := (by omega); have q284 : 0 < (l0.length : Int) := of_decide_eq_true (by first | (with_reducible assumption) | assumption); obtain ⟨ad284, e284, hx284_0⟩ := Kd.at_int HR0.out 0 p284 q284; obtain rfl : ad283 = ad284 := (by injection e284); have qi284 : (0 < l0.length) = True := eq_true (by omega); (try rw [show ((0 : Int)).toNat = 0 from rfl] at hx284_0); (try rw [Addr.add_zero'] at hx284_0); replace hx284_0 := (HB.out.cell (World.block_lt_of_cell? w _ hx284_0)).trans hx284_0; replace p284 := eq_true p284; replace q284 := eq_true q284))
      go_ret2
      exact ⟨by first | rfl | (simp [errW_none, errW_some] <;> rfl) | (simp only [← hji9]; first | rfl | (simp [errW_none, errW_some] <;> rfl)) | (simp [*, errW_none, errW_some] <;> rfl), bl⟩
     ·
      rw [if_neg c10] at H
      exact absurd H (by simp)
   ·
    rw [if_neg c7] at H
    exact absurd H (by simp)
  ·
   replace c6 := Bool.eq_false_iff.mpr c6
   subst c6
   have H1 : (some (0, 1)) = some (r1, r2) := by rw [if_neg (show ¬ (false = true) by decide)] at H; exact H
   clear H
   have H := H1
   clear H1
   simp only [Option.some.injEq, Prod.mk.injEq] at H
   obtain ⟨rfl, rfl⟩ := H
   go_enter Tryd.func20, Tryd.ntmps20
   go_wp2_with (first | ((with_reducible refine gate_callee (f := 14) rfl ?_); refine goesL_ (some 9) rfl rfl Tryd.func14 (by kernel_rfl) rfl #[.string (⟨#[115, 116, 101, 112, 115]⟩ : ByteArray), .slice A0 l0.length c0] rfl (by (try simp only [List.map_toArray, List.map_cons, List.map_nil]); first | done | rfl | (simp only [List.length_drop, List.length_take]; rfl)) ?_; (with_reducible refine (sequencer_Check.calls k (⟨#[115, 116, 101, 112, 115]⟩ : ByteArray) _ _ l0 t281 _ ?side1 ?side2 ?side3 A3.out).mono ?_); (case side1 => repeat (first | exact HR0.out | (with_reducible refine Kd.C_alloc ?_ _) | (with_reducible refine Kd.C_drewN ?_ _) | (with_reducible refine Kd.C_drew ?_))); (case side2 => exact HC0.out); (case side3 => exact GW.below HG.out bl); rintro e w12 ⟨rfl, hb⟩; refine ⟨_, rfl, ?_⟩; have n0_ := Aside0.mk (below_step bl hb); clear HB; have HB := n0_; clear n0_; (try clear hb); (try clear hb2); (try clear hk); (try clear hi)) | ((with_reducible refine gate_callee (f := 23) rfl ?_); refine goesL_ (some 14) rfl rfl Tryd.func23 (by kernel_rfl) rfl #[.int .i64 a1] rfl (by (try simp only [List.map_toArray, List.map_cons, List.map_nil]); first | done | rfl | (simp only [List.length_drop, List.length_take]; rfl)) ?_; (with_reducible refine (sequencer_seconds.calls a1 false _ A5.out).mono ?_); rintro e w' ⟨rfl, ⟨nd, rfl⟩⟩; refine ⟨_, rfl, ?_⟩))
   go_ret2
   exact ⟨by first | rfl | (simp [errW_none, errW_some] <;> rfl) | (simp [*, errW_none, errW_some] <;> rfl), bl⟩
 ·
  rw [if_neg c4] at H
  have c4b0 : (t281 == 0) = false := beq_eq_false_iff_ne.mpr c4
  have c4b1 : (t281 != 0) = true := bne_iff_ne.mpr c4
  simp only [Option.some.injEq, Prod.mk.injEq] at H
  obtain ⟨rfl, rfl⟩ := H
  go_enter Tryd.func20, Tryd.ntmps20
  go_wp2_with (first | ((with_reducible refine gate_callee (f := 14) rfl ?_); refine goesL_ (some 9) rfl rfl Tryd.func14 (by kernel_rfl) rfl #[.string (⟨#[115, 116, 101, 112, 115]⟩ : ByteArray), .slice A0 l0.length c0] rfl (by (try simp only [List.map_toArray, List.map_cons, List.map_nil]); first | done | rfl | (simp only [List.length_drop, List.length_take]; rfl)) ?_; (with_reducible refine (sequencer_Check.calls k (⟨#[115, 116, 101, 112, 115]⟩ : ByteArray) _ _ l0 t281 _ ?side1 ?side2 ?side3 A3.out).mono ?_); (case side1 => repeat (first | exact HR0.out | (with_reducible refine Kd.C_alloc ?_ _) | (with_reducible refine Kd.C_drewN ?_ _) | (with_reducible refine Kd.C_drew ?_))); (case side2 => exact HC0.out); (case side3 => exact GW.below HG.out bl); rintro e w13 ⟨rfl, hb⟩; refine ⟨_, rfl, ?_⟩; have n0_ := Aside0.mk (below_step bl hb); clear HB; have HB := n0_; clear n0_; (try clear hb); (try clear hb2); (try clear hk); (try clear hi)))
  go_ret2
  exact ⟨by first | rfl | (simp [errW_none, errW_some] <;> rfl) | (simp [*, errW_none, errW_some] <;> rfl), bl⟩

/-! ### plenumlaw21_awake: function 9 -/
def plenumlaw21_awake.f (k : Nat)  : Option (Bool) := (some (([2, 80000, 30000, 60, 30] : List Int) : List Int)).bind fun y285 => ((sequencer_Step.f k (⟨#[115, 116, 97, 103, 101]⟩ : ByteArray) y285 (([0, 40] : List Int)) (([(⟨1, 90000⟩ : S27)] : List (S27))) 20).bind fun bt294 => ((sequencer_Settle.f k y285 (([0, 40] : List Int)) 90000 20).bind fun bt304 => ((sequencer_Duration.f k (([3, 30] : List Int)) 20).bind fun bt310 => (if bt294.2.2.2 = 0 then ((plenumref21_Same.f k bt294.1 (([1, 0] : List Int))).bind fun t315 => (if t315 = true then (if (bt294.2.1 == 3 && (bt294.2.2.1 == 2)) = true then (if bt304.2.2 = 0 then (if bt304.1 = 2 then (if bt304.2.1 = 4 then (if bt310.2 = 0 then (if bt310.1 = 5 then ((sequencer_Check.f k (⟨#[115, 116, 97, 103, 101]⟩ : ByteArray) y285).bind fun t316 => (if t316 = 0 then ((sequencer_Check.f k (⟨#[115, 116, 97, 103, 101]⟩ : ByteArray) ([] : List Int)).bind fun t317 => (some (t317 == 1))) else (none))) else (none)) else (none)) else (none)) else (none)) else (none)) else (none)) else (none))) else (none)))))
theorem plenumlaw21_awake.mono : ∀ k, LeO (plenumlaw21_awake.f k ) (plenumlaw21_awake.f (k + 1) ) := by
 intro  k
 unfold plenumlaw21_awake.f
 repeat' first
   | (with_reducible exact plenumref21_Same.mono _ _ _)
   | (with_reducible exact sequencer_Check.mono _ _ _)
   | (with_reducible exact sequencer_Duration.mono _ _ _)
   | (with_reducible exact sequencer_Settle.mono _ _ _ _ _)
   | (with_reducible exact sequencer_Step.mono _ _ _ _ _ _)
   | (with_reducible exact LeO.refl _)
   | (with_reducible exact LeO.none _)
   | (with_reducible refine LeO.ite ?_ ?_)
   | (with_reducible refine LeO.bind ?_ (fun _ => ?_))
   | exact plenumref21_Same.mono _ _ _
   | exact sequencer_Check.mono _ _ _
   | exact sequencer_Duration.mono _ _ _
   | exact sequencer_Settle.mono _ _ _ _ _
   | exact sequencer_Step.mono _ _ _ _ _ _
   | exact LeO.none _
   | refine LeO.ite ?_ ?_
   | refine LeO.bind ?_ (fun _ => ?_)
set_option maxHeartbeats 8000000 in
set_option maxRecDepth 100000 in
theorem plenumlaw21_awake.calls (k : Nat)  (r : Bool) (w : World) (hG : GW w) (h : plenumlaw21_awake.f k  = some r) :
  Calls Tryd.prog 9 #[] w fun e w' => e = .returned (.bool r) ∧ Below w.heap.size w w' := by
 have hu27 := Tryd.underlying27
 have HG := Aside0.mk hG
 clear hG
 have HB := Aside0.mk (Below.refl w.heap.size w)
 have H : ((some (([2, 80000, 30000, 60, 30] : List Int) : List Int)).bind fun y285 => ((sequencer_Step.f k (⟨#[115, 116, 97, 103, 101]⟩ : ByteArray) y285 (([0, 40] : List Int)) (([(⟨1, 90000⟩ : S27)] : List (S27))) 20).bind fun bt294 => ((sequencer_Settle.f k y285 (([0, 40] : List Int)) 90000 20).bind fun bt304 => ((sequencer_Duration.f k (([3, 30] : List Int)) 20).bind fun bt310 => (if bt294.2.2.2 = 0 then ((plenumref21_Same.f k bt294.1 (([1, 0] : List Int))).bind fun t315 => (if t315 = true then (if (bt294.2.1 == 3 && (bt294.2.2.1 == 2)) = true then (if bt304.2.2 = 0 then (if bt304.1 = 2 then (if bt304.2.1 = 4 then (if bt310.2 = 0 then (if bt310.1 = 5 then ((sequencer_Check.f k (⟨#[115, 116, 97, 103, 101]⟩ : ByteArray) y285).bind fun t316 => (if t316 = 0 then ((sequencer_Check.f k (⟨#[115, 116, 97, 103, 101]⟩ : ByteArray) ([] : List Int)).bind fun t317 => (some (t317 == 1))) else (none))) else (none)) else (none)) else (none)) else (none)) else (none)) else (none)) else (none))) else (none)))))) = some r := h
 clear h
 obtain ⟨y285, hy285⟩ : ∃ y_ : List Int, y_ = (([2, 80000, 30000, 60, 30] : List Int)) := ⟨_, rfl⟩
 replace H : ((sequencer_Step.f k (⟨#[115, 116, 97, 103, 101]⟩ : ByteArray) y285 (([0, 40] : List Int)) (([(⟨1, 90000⟩ : S27)] : List (S27))) 20).bind fun bt294 => ((sequencer_Settle.f k y285 (([0, 40] : List Int)) 90000 20).bind fun bt304 => ((sequencer_Duration.f k (([3, 30] : List Int)) 20).bind fun bt310 => (if bt294.2.2.2 = 0 then ((plenumref21_Same.f k bt294.1 (([1, 0] : List Int))).bind fun t315 => (if t315 = true then (if (bt294.2.1 == 3 && (bt294.2.2.1 == 2)) = true then (if bt304.2.2 = 0 then (if bt304.1 = 2 then (if bt304.2.1 = 4 then (if bt310.2 = 0 then (if bt310.1 = 5 then ((sequencer_Check.f k (⟨#[115, 116, 97, 103, 101]⟩ : ByteArray) y285).bind fun t316 => (if t316 = 0 then ((sequencer_Check.f k (⟨#[115, 116, 97, 103, 101]⟩ : ByteArray) ([] : List Int)).bind fun t317 => (some (t317 == 1))) else (none))) else (none)) else (none)) else (none)) else (none)) else (none)) else (none)) else (none))) else (none))))) = some r := by first | (rw [hy285]; with_reducible exact H) | (have H2_ := (Option.bind_some _ _).symm.trans H; rw [hy285]; with_reducible exact H2_) | (have H2_ := (Option.bind_some _ _).symm.trans H; with_reducible exact H2_) | with_reducible exact H | (rw [hy285]; exact H) | exact H
 have Ny285 := Aside0.mk hy285
 clear hy285
 obtain ⟨y288, hy288⟩ : ∃ y_ : List Int, y_ = (([0, 40] : List Int)) := ⟨_, rfl⟩
 replace H : ((sequencer_Step.f k (⟨#[115, 116, 97, 103, 101]⟩ : ByteArray) y285 y288 (([(⟨1, 90000⟩ : S27)] : List (S27))) 20).bind fun bt294 => ((sequencer_Settle.f k y285 (([0, 40] : List Int)) 90000 20).bind fun bt304 => ((sequencer_Duration.f k (([3, 30] : List Int)) 20).bind fun bt310 => (if bt294.2.2.2 = 0 then ((plenumref21_Same.f k bt294.1 (([1, 0] : List Int))).bind fun t315 => (if t315 = true then (if (bt294.2.1 == 3 && (bt294.2.2.1 == 2)) = true then (if bt304.2.2 = 0 then (if bt304.1 = 2 then (if bt304.2.1 = 4 then (if bt310.2 = 0 then (if bt310.1 = 5 then ((sequencer_Check.f k (⟨#[115, 116, 97, 103, 101]⟩ : ByteArray) y285).bind fun t316 => (if t316 = 0 then ((sequencer_Check.f k (⟨#[115, 116, 97, 103, 101]⟩ : ByteArray) ([] : List Int)).bind fun t317 => (some (t317 == 1))) else (none))) else (none)) else (none)) else (none)) else (none)) else (none)) else (none)) else (none))) else (none))))) = some r := by first | (rw [hy288]; with_reducible exact H) | (have H2_ := (Option.bind_some _ _).symm.trans H; rw [hy288]; with_reducible exact H2_) | (have H2_ := (Option.bind_some _ _).symm.trans H; with_reducible exact H2_) | with_reducible exact H | (rw [hy288]; exact H) | exact H
 have Ny288 := Aside0.mk hy288
 clear hy288
 obtain ⟨y291, hy291⟩ : ∃ y_ : List (S27), y_ = (([(⟨1, 90000⟩ : S27)] : List (S27))) := ⟨_, rfl⟩
 replace H : ((sequencer_Step.f k (⟨#[115, 116, 97, 103, 101]⟩ : ByteArray) y285 y288 y291 20).bind fun bt294 => ((sequencer_Settle.f k y285 (([0, 40] : List Int)) 90000 20).bind fun bt304 => ((sequencer_Duration.f k (([3, 30] : List Int)) 20).bind fun bt310 => (if bt294.2.2.2 = 0 then ((plenumref21_Same.f k bt294.1 (([1, 0] : List Int))).bind fun t315 => (if t315 = true then (if (bt294.2.1 == 3 && (bt294.2.2.1 == 2)) = true then (if bt304.2.2 = 0 then (if bt304.1 = 2 then (if bt304.2.1 = 4 then (if bt310.2 = 0 then (if bt310.1 = 5 then ((sequencer_Check.f k (⟨#[115, 116, 97, 103, 101]⟩ : ByteArray) y285).bind fun t316 => (if t316 = 0 then ((sequencer_Check.f k (⟨#[115, 116, 97, 103, 101]⟩ : ByteArray) ([] : List Int)).bind fun t317 => (some (t317 == 1))) else (none))) else (none)) else (none)) else (none)) else (none)) else (none)) else (none)) else (none))) else (none))))) = some r := by first | (rw [hy291]; with_reducible exact H) | (have H2_ := (Option.bind_some _ _).symm.trans H; rw [hy291]; with_reducible exact H2_) | (have H2_ := (Option.bind_some _ _).symm.trans H; with_reducible exact H2_) | with_reducible exact H | (rw [hy291]; exact H) | exact H
 have Ny291 := Aside0.mk hy291
 clear hy291
 replace H := Option.bind_eq_some_iff.mp H
 obtain ⟨⟨t294, t297, t298, t299⟩, A10, H⟩ := H
 replace H : ((sequencer_Settle.f k y285 (([0, 40] : List Int)) 90000 20).bind fun bt304 => ((sequencer_Duration.f k (([3, 30] : List Int)) 20).bind fun bt310 => (if t299 = 0 then ((plenumref21_Same.f k t294 (([1, 0] : List Int))).bind fun t315 => (if t315 = true then (if (t297 == 3 && (t298 == 2)) = true then (if bt304.2.2 = 0 then (if bt304.1 = 2 then (if bt304.2.1 = 4 then (if bt310.2 = 0 then (if bt310.1 = 5 then ((sequencer_Check.f k (⟨#[115, 116, 97, 103, 101]⟩ : ByteArray) y285).bind fun t316 => (if t316 = 0 then ((sequencer_Check.f k (⟨#[115, 116, 97, 103, 101]⟩ : ByteArray) ([] : List Int)).bind fun t317 => (some (t317 == 1))) else (none))) else (none)) else (none)) else (none)) else (none)) else (none)) else (none)) else (none))) else (none)))) = some r := H
 have A1 := Aside0.mk A10
 clear A10
 obtain ⟨y301, hy301⟩ : ∃ y_ : List Int, y_ = (([0, 40] : List Int)) := ⟨_, rfl⟩
 replace H : ((sequencer_Settle.f k y285 y301 90000 20).bind fun bt304 => ((sequencer_Duration.f k (([3, 30] : List Int)) 20).bind fun bt310 => (if t299 = 0 then ((plenumref21_Same.f k t294 (([1, 0] : List Int))).bind fun t315 => (if t315 = true then (if (t297 == 3 && (t298 == 2)) = true then (if bt304.2.2 = 0 then (if bt304.1 = 2 then (if bt304.2.1 = 4 then (if bt310.2 = 0 then (if bt310.1 = 5 then ((sequencer_Check.f k (⟨#[115, 116, 97, 103, 101]⟩ : ByteArray) y285).bind fun t316 => (if t316 = 0 then ((sequencer_Check.f k (⟨#[115, 116, 97, 103, 101]⟩ : ByteArray) ([] : List Int)).bind fun t317 => (some (t317 == 1))) else (none))) else (none)) else (none)) else (none)) else (none)) else (none)) else (none)) else (none))) else (none)))) = some r := by first | (rw [hy301]; with_reducible exact H) | (have H2_ := (Option.bind_some _ _).symm.trans H; rw [hy301]; with_reducible exact H2_) | (have H2_ := (Option.bind_some _ _).symm.trans H; with_reducible exact H2_) | with_reducible exact H | (rw [hy301]; exact H) | exact H
 have Ny301 := Aside0.mk hy301
 clear hy301
 replace H := Option.bind_eq_some_iff.mp H
 obtain ⟨⟨t304, t305, t306⟩, A20, H⟩ := H
 replace H : ((sequencer_Duration.f k (([3, 30] : List Int)) 20).bind fun bt310 => (if t299 = 0 then ((plenumref21_Same.f k t294 (([1, 0] : List Int))).bind fun t315 => (if t315 = true then (if (t297 == 3 && (t298 == 2)) = true then (if t306 = 0 then (if t304 = 2 then (if t305 = 4 then (if bt310.2 = 0 then (if bt310.1 = 5 then ((sequencer_Check.f k (⟨#[115, 116, 97, 103, 101]⟩ : ByteArray) y285).bind fun t316 => (if t316 = 0 then ((sequencer_Check.f k (⟨#[115, 116, 97, 103, 101]⟩ : ByteArray) ([] : List Int)).bind fun t317 => (some (t317 == 1))) else (none))) else (none)) else (none)) else (none)) else (none)) else (none)) else (none)) else (none))) else (none))) = some r := H
 have A2 := Aside0.mk A20
 clear A20
 obtain ⟨y307, hy307⟩ : ∃ y_ : List Int, y_ = (([3, 30] : List Int)) := ⟨_, rfl⟩
 replace H : ((sequencer_Duration.f k y307 20).bind fun bt310 => (if t299 = 0 then ((plenumref21_Same.f k t294 (([1, 0] : List Int))).bind fun t315 => (if t315 = true then (if (t297 == 3 && (t298 == 2)) = true then (if t306 = 0 then (if t304 = 2 then (if t305 = 4 then (if bt310.2 = 0 then (if bt310.1 = 5 then ((sequencer_Check.f k (⟨#[115, 116, 97, 103, 101]⟩ : ByteArray) y285).bind fun t316 => (if t316 = 0 then ((sequencer_Check.f k (⟨#[115, 116, 97, 103, 101]⟩ : ByteArray) ([] : List Int)).bind fun t317 => (some (t317 == 1))) else (none))) else (none)) else (none)) else (none)) else (none)) else (none)) else (none)) else (none))) else (none))) = some r := by first | (rw [hy307]; with_reducible exact H) | (have H2_ := (Option.bind_some _ _).symm.trans H; rw [hy307]; with_reducible exact H2_) | (have H2_ := (Option.bind_some _ _).symm.trans H; with_reducible exact H2_) | with_reducible exact H | (rw [hy307]; exact H) | exact H
 have Ny307 := Aside0.mk hy307
 clear hy307
 replace H := Option.bind_eq_some_iff.mp H
 obtain ⟨⟨t310, t311⟩, A30, H⟩ := H
 replace H : (if t299 = 0 then ((plenumref21_Same.f k t294 (([1, 0] : List Int))).bind fun t315 => (if t315 = true then (if (t297 == 3 && (t298 == 2)) = true then (if t306 = 0 then (if t304 = 2 then (if t305 = 4 then (if t311 = 0 then (if t310 = 5 then ((sequencer_Check.f k (⟨#[115, 116, 97, 103, 101]⟩ : ByteArray) y285).bind fun t316 => (if t316 = 0 then ((sequencer_Check.f k (⟨#[115, 116, 97, 103, 101]⟩ : ByteArray) ([] : List Int)).bind fun t317 => (some (t317 == 1))) else (none))) else (none)) else (none)) else (none)) else (none)) else (none)) else (none)) else (none))) else (none)) = some r := H
 have A3 := Aside0.mk A30
 clear A30
 by_cases c4 : t299 = 0
 ·
  rw [if_pos c4] at H
  have c4b0 : (t299 == 0) = true := beq_iff_eq.mpr c4
  have c4b1 : (t299 != 0) = false := bne_eq_false_iff_eq.mpr c4
  clear c4
  obtain ⟨y312, hy312⟩ : ∃ y_ : List Int, y_ = (([1, 0] : List Int)) := ⟨_, rfl⟩
  replace H : ((plenumref21_Same.f k t294 y312).bind fun t315 => (if t315 = true then (if (t297 == 3 && (t298 == 2)) = true then (if t306 = 0 then (if t304 = 2 then (if t305 = 4 then (if t311 = 0 then (if t310 = 5 then ((sequencer_Check.f k (⟨#[115, 116, 97, 103, 101]⟩ : ByteArray) y285).bind fun t316 => (if t316 = 0 then ((sequencer_Check.f k (⟨#[115, 116, 97, 103, 101]⟩ : ByteArray) ([] : List Int)).bind fun t317 => (some (t317 == 1))) else (none))) else (none)) else (none)) else (none)) else (none)) else (none)) else (none)) else (none))) = some r := by first | (rw [hy312]; with_reducible exact H) | (have H2_ := (Option.bind_some _ _).symm.trans H; rw [hy312]; with_reducible exact H2_) | (have H2_ := (Option.bind_some _ _).symm.trans H; with_reducible exact H2_) | with_reducible exact H | (rw [hy312]; exact H) | exact H
  have Ny312 := Aside0.mk hy312
  clear hy312
  replace H := Option.bind_eq_some_iff.mp H
  obtain ⟨t315, A50, H⟩ := H
  replace H : (if t315 = true then (if (t297 == 3 && (t298 == 2)) = true then (if t306 = 0 then (if t304 = 2 then (if t305 = 4 then (if t311 = 0 then (if t310 = 5 then ((sequencer_Check.f k (⟨#[115, 116, 97, 103, 101]⟩ : ByteArray) y285).bind fun t316 => (if t316 = 0 then ((sequencer_Check.f k (⟨#[115, 116, 97, 103, 101]⟩ : ByteArray) ([] : List Int)).bind fun t317 => (some (t317 == 1))) else (none))) else (none)) else (none)) else (none)) else (none)) else (none)) else (none)) else (none)) = some r := H
  have A5 := Aside0.mk A50
  clear A50
  by_cases c6 : t315 = true
  ·
   subst c6
   have H1 : (if (t297 == 3 && (t298 == 2)) = true then (if t306 = 0 then (if t304 = 2 then (if t305 = 4 then (if t311 = 0 then (if t310 = 5 then ((sequencer_Check.f k (⟨#[115, 116, 97, 103, 101]⟩ : ByteArray) y285).bind fun t316 => (if t316 = 0 then ((sequencer_Check.f k (⟨#[115, 116, 97, 103, 101]⟩ : ByteArray) ([] : List Int)).bind fun t317 => (some (t317 == 1))) else (none))) else (none)) else (none)) else (none)) else (none)) else (none)) else (none)) = some r := by rw [if_pos rfl] at H; exact H
   clear H
   have H := H1
   clear H1
   by_cases c7 : (t297 == 3 && (t298 == 2)) = true
   ·
    rw [if_pos c7] at H
    have c7b0 : (t297 == 3 && (t298 == 2)) = true := c7
    (try (have c7b1 : decide (t297 = 3 && (t298 == 2)) = true := by simpa using c7))
    (try (have c7b2 : (t297 == 3 && (t298 == 2)) = true := by simpa using c7))
    clear c7
    by_cases c8 : t306 = 0
    ·
     rw [if_pos c8] at H
     have c8b0 : (t306 == 0) = true := beq_iff_eq.mpr c8
     have c8b1 : (t306 != 0) = false := bne_eq_false_iff_eq.mpr c8
     clear c8
     by_cases c9 : t304 = 2
     ·
      rw [if_pos c9] at H
      have c9b0 : (t304 == 2) = true := beq_iff_eq.mpr c9
      have c9b1 : (t304 != 2) = false := bne_eq_false_iff_eq.mpr c9
      clear c9
      by_cases c10 : t305 = 4
      ·
       rw [if_pos c10] at H
       have c10b0 : (t305 == 4) = true := beq_iff_eq.mpr c10
       have c10b1 : (t305 != 4) = false := bne_eq_false_iff_eq.mpr c10
       clear c10
       by_cases c11 : t311 = 0
       ·
        rw [if_pos c11] at H
        have c11b0 : (t311 == 0) = true := beq_iff_eq.mpr c11
        have c11b1 : (t311 != 0) = false := bne_eq_false_iff_eq.mpr c11
        clear c11
        by_cases c12 : t310 = 5
        ·
         rw [if_pos c12] at H
         have c12b0 : (t310 == 5) = true := beq_iff_eq.mpr c12
         have c12b1 : (t310 != 5) = false := bne_eq_false_iff_eq.mpr c12
         clear c12
         replace H := Option.bind_eq_some_iff.mp H
         obtain ⟨t316, A130, H⟩ := H
         replace H : (if t316 = 0 then ((sequencer_Check.f k (⟨#[115, 116, 97, 103, 101]⟩ : ByteArray) ([] : List Int)).bind fun t317 => (some (t317 == 1))) else (none)) = some r := H
         have A13 := Aside0.mk A130
         clear A130
         by_cases c14 : t316 = 0
         ·
          rw [if_pos c14] at H
          have c14b0 : (t316 == 0) = true := beq_iff_eq.mpr c14
          have c14b1 : (t316 != 0) = false := bne_eq_false_iff_eq.mpr c14
          clear c14
          replace H := Option.bind_eq_some_iff.mp H
          obtain ⟨t317, A150, H⟩ := H
          replace H : (some (t317 == 1)) = some r := H
          have A15 := Aside0.mk A150
          clear A150
          obtain rfl := Option.some.inj H
          go_enter Tryd.func9, Tryd.ntmps9
          go_wp2_with (first | ((with_reducible refine gate_dst (N := 10) rfl ?_); (try (refine gate_guard (by rfl) ?_; dsimp only)); refine Kd.R_lit (Kd.int .i64) _ 2 ?hg (N := 10) ?hd (xs := ([2, 80000, 30000, 60, 30] : List Int)) (inner := [.int .i64 2, .int .i64 80000, .int .i64 30000, .int .i64 60, .int .i64 30]) (ok := fun _ => True) (okp := fun _ => True) ?hr ?hp (fun _ hk => hk) trivial (Below.refl _ _) (Nat.le_refl _) (by simp) ?_; (case hd => rfl); (case hg => rfl); (case hr => first | (go_simp; done) | (go_simp; rfl)); (case hp => exact (Reps.one (show Kd.M (Kd.int .i64) _ _ _ 2 [.int .i64 2] from rfl) (Reps.one (show Kd.M (Kd.int .i64) _ _ _ 80000 [.int .i64 80000] from rfl) (Reps.one (show Kd.M (Kd.int .i64) _ _ _ 30000 [.int .i64 30000] from rfl) (Reps.one (show Kd.M (Kd.int .i64) _ _ _ 60 [.int .i64 60] from rfl) (Reps.one (show Kd.M (Kd.int .i64) _ _ _ 30 [.int .i64 30] from rfl) (Reps.none _ _))))))); intro v286 w16 ho17 hb hg_ hnew_; clear hg_ hnew_; (first | rw [← Ny285.out] at ho17 | (simp only [Int.reduceToNat] at ho17; rw [← Ny285.out] at ho17)); have n0_ := Aside0.mk (Kd.R_lower ho17 (below_size bl)); have n1_ := Aside0.mk (below_step bl hb); clear HB; have HO287 := n0_; have HB := n1_; clear n0_ n1_; clear hb ho17) | ((with_reducible refine gate_dst (N := 13) rfl ?_); (try (refine gate_guard (by rfl) ?_; dsimp only)); refine Kd.R_lit (Kd.int .i64) _ 2 ?hg (N := 13) ?hd (xs := ([0, 40] : List Int)) (inner := [.int .i64 0, .int .i64 40]) (ok := fun _ => True) (okp := fun _ => True) ?hr ?hp (fun _ hk => hk) trivial (Below.refl _ _) (Nat.le_refl _) (by simp) ?_; (case hd => rfl); (case hg => rfl); (case hr => first | (go_simp; done) | (go_simp; rfl)); (case hp => exact (Reps.one (show Kd.M (Kd.int .i64) _ _ _ 0 [.int .i64 0] from rfl) (Reps.one (show Kd.M (Kd.int .i64) _ _ _ 40 [.int .i64 40] from rfl) (Reps.none _ _)))); intro v289 w18 ho19 hb hg_ hnew_; clear hg_ hnew_; (first | rw [← Ny288.out] at ho19 | (simp only [Int.reduceToNat] at ho19; rw [← Ny288.out] at ho19)); have n0_ := Aside0.mk (Kd.R_elder' (by (with_reducible repeat (first | apply Kd.R_alloc | apply Kd.R_drewN | apply Kd.R_drew)); exact HO287.out) (Kd.R_base ho19) hb); have n1_ := Aside0.mk (Kd.R_lower (Kd.R_new' ho19 (Kd.R_lt (by (with_reducible repeat (first | apply Kd.R_alloc | apply Kd.R_drewN | apply Kd.R_drew)); exact HO287.out))) (below_size bl)); have n2_ := Aside0.mk (below_step bl hb); clear HO287; clear HB; have HO287 := n0_; have HO290 := n1_; have HB := n2_; clear n0_ n1_ n2_; clear hb ho19) | ((with_reducible refine gate_dst (N := 15) rfl ?_); (try (refine gate_guard (by rfl) ?_; dsimp only)); refine Kd.R_lit k27 _ 27 ?hg (N := 15) ?hd (xs := ([(⟨1, 90000⟩ : S27)] : List (S27))) (inner := [.int .i64 1, .int .i64 90000]) (ok := fun _ => True) (okp := fun _ => True) ?hr ?hp (fun _ hk => hk) trivial (Below.refl _ _) (Nat.le_refl _) (by simp) ?_; (case hd => rfl); (case hg => rfl); (case hr => first | (go_simp; done) | (go_simp; rfl)); (case hp => exact (Reps.c2 (show Kd.M k27 _ _ _ (⟨1, 90000⟩ : S27) [.int .i64 1, .int .i64 90000] from (k27_mkM _ _ _ (⟨1, 90000⟩ : S27) )) (Reps.none _ _))); intro v292 w20 ho21 hb hg_ hnew_; clear hg_ hnew_; (first | rw [← Ny291.out] at ho21 | (simp only [Int.reduceToNat] at ho21; rw [← Ny291.out] at ho21)); have n0_ := Aside0.mk (Kd.R_below (by (with_reducible repeat (first | apply Kd.R_alloc | apply Kd.R_drewN | apply Kd.R_drew)); exact HO287.out) hb); have n1_ := Aside0.mk (Kd.R_below (by (with_reducible repeat (first | apply Kd.R_alloc | apply Kd.R_drewN | apply Kd.R_drew)); exact HO290.out) hb); have n2_ := Aside0.mk (Kd.R_lower ho21 (below_size bl)); have n3_ := Aside0.mk (below_step bl hb); clear HO287; clear HO290; clear HB; have HO287 := n0_; have HO290 := n1_; have HO293 := n2_; have HB := n3_; clear n0_ n1_ n2_ n3_; clear hb ho21; obtain ⟨Ao22, co22, eo22⟩ := Kd.R_slice HO287.out; subst eo22; obtain ⟨Ao23, co23, eo23⟩ := Kd.R_slice HO290.out; subst eo23; obtain ⟨Ao24, co24, eo24⟩ := Kd.R_slice HO293.out; subst eo24) | ((with_reducible refine gate_callee (f := 11) rfl ?_); refine goesL_ (some 16) rfl rfl Tryd.func11 (by kernel_rfl) rfl #[.string (⟨#[115, 116, 97, 103, 101]⟩ : ByteArray), .slice Ao22 y285.length co22, .slice Ao23 y288.length co23, .slice Ao24 y291.length co24, .int .i64 20] rfl (by (try simp only [List.map_toArray, List.map_cons, List.map_nil]); first | done | rfl | (simp only [List.length_drop, List.length_take]; rfl)) ?_; (with_reducible refine (sequencer_Step.calls k (⟨#[115, 116, 97, 103, 101]⟩ : ByteArray) _ _ y285 _ _ y288 _ _ y291 20 t294 t297 t298 t299 _ ?side1 ?side2 ?side3 ?side4 ?side5 ?side6 ?side7 A1.out).mono ?_); (case side1 => repeat (first | exact (Kd.R_reads' HO287.out).2.2 | (with_reducible refine Kd.C_alloc ?_ _) | (with_reducible refine Kd.C_drewN ?_ _) | (with_reducible refine Kd.C_drew ?_))); (case side2 => exact (Kd.R_reads' HO287.out).2.1); (case side3 => repeat (first | exact (Kd.R_reads' HO290.out).2.2 | (with_reducible refine Kd.C_alloc ?_ _) | (with_reducible refine Kd.C_drewN ?_ _) | (with_reducible refine Kd.C_drew ?_))); (case side4 => exact (Kd.R_reads' HO290.out).2.1); (case side5 => repeat (first | exact (Kd.R_reads' HO293.out).2.2 | (with_reducible refine Kd.C_alloc ?_ _) | (with_reducible refine Kd.C_drewN ?_ _) | (with_reducible refine Kd.C_drew ?_))); (case side6 => exact (Kd.R_reads' HO293.out).2.1); (case side7 => exact GW.below HG.out bl); rintro e w25 ⟨v295, rfl, ho0, hb⟩; refine ⟨_, rfl, ?_⟩; have n0_ := Aside0.mk (Kd.R_elder' (by (with_reducible repeat (first | apply Kd.R_alloc | apply Kd.R_drewN | apply Kd.R_drew)); exact HO287.out) (Kd.R_base ho0) hb); have n1_ := Aside0.mk (Kd.R_elder' (by (with_reducible repeat (first | apply Kd.R_alloc | apply Kd.R_drewN | apply Kd.R_drew)); exact HO290.out) (Kd.R_base ho0) hb); have n2_ := Aside0.mk (Kd.R_below (by (with_reducible repeat (first | apply Kd.R_alloc | apply Kd.R_drewN | apply Kd.R_drew)); exact HO293.out) hb); have n3_ := Aside0.mk (Kd.R_lower (Kd.R_new' (Kd.R_new' ho0 (Kd.R_lt (by (with_reducible repeat (first | apply Kd.R_alloc | apply Kd.R_drewN | apply Kd.R_drew)); exact HO287.out))) (Kd.R_lt (by (with_reducible repeat (first | apply Kd.R_alloc | apply Kd.R_drewN | apply Kd.R_drew)); exact HO290.out))) (below_size bl)); have n4_ := Aside0.mk (below_step bl hb); clear HO287; clear HO290; clear HO293; clear HB; have HO287 := n0_; have HO290 := n1_; have HO293 := n2_; have HO296 := n3_; have HB := n4_; clear n0_ n1_ n2_ n3_ n4_; (try clear hb); (try clear hb2); (try clear hk); (try clear hi); (try clear ho0)) | ((with_reducible refine gate_dst (N := 3) rfl ?_); (try (refine gate_guard (by rfl) ?_; dsimp only)); refine box_event ?hg (N := 3) ?hd (cs := #[.int .i64 0, .int .i64 0]) (t := 27) ?hr ?_; (case hd => rfl); (case hg => rfl); (case hr => first | (go_simp; done) | (go_simp; rfl)); intro gb300 hg w26 hbox hb; have n0_ := Aside0.mk (Kd.R_below (by (with_reducible repeat (first | apply Kd.R_alloc | apply Kd.R_drewN | apply Kd.R_drew)); exact HO287.out) hb); have n1_ := Aside0.mk (Kd.R_below (by (with_reducible repeat (first | apply Kd.R_alloc | apply Kd.R_drewN | apply Kd.R_drew)); exact HO290.out) hb); have n2_ := Aside0.mk (Kd.R_below (Kd.R_elderB (by (with_reducible repeat (first | apply Kd.R_alloc | apply Kd.R_drewN | apply Kd.R_drew)); exact HO293.out) gb300 (Nat.le_of_eq hg.symm)) hb); have n3_ := Aside0.mk (Kd.R_below (by (with_reducible repeat (first | apply Kd.R_alloc | apply Kd.R_drewN | apply Kd.R_drew)); exact HO296.out) hb); have n4_ := Aside0.mk (below_step bl hb); have n5_ := Aside0.mk (hbox); have n6_ := Aside0.mk ((by rw [hg]; exact (below_size bl) : w.heap.size ≤ gb300)); have n7_ := Aside0.mk ((by rw [hg]; exact (below_size bl) : w.heap.size ≤ gb300)); clear HO287; clear HO290; clear HO293; clear HO296; clear HB; have HO287 := n0_; have HO290 := n1_; have HO293 := n2_; have HO296 := n3_; have HB := n4_; have BK300 := n5_; have GW300 := n6_; have GE300 := n7_; clear n0_ n1_ n2_ n3_ n4_ n5_ n6_ n7_; clear hb hbox hg; have hcz27_0 : w26.cell? ⟨gb300, 0, none⟩ = some (.int .i64 0) := (blk_cell BK300.out 0).trans rfl; have hcz27_1 : w26.cell? ⟨gb300, 1, none⟩ = some (.int .i64 0) := (blk_cell BK300.out 1).trans rfl; have hfz27_0 := blk_frozen BK300.out 0; have hfz27_1 := blk_frozen BK300.out 1) | ((with_reducible refine gate_dst (N := 22) rfl ?_); (try (refine gate_guard (by rfl) ?_; dsimp only)); refine Kd.R_lit (Kd.int .i64) _ 2 ?hg (N := 22) ?hd (xs := ([0, 40] : List Int)) (inner := [.int .i64 0, .int .i64 40]) (ok := fun _ => True) (okp := fun _ => True) ?hr ?hp (fun _ hk => hk) trivial (Below.refl _ _) (Nat.le_refl _) (by simp) ?_; (case hd => rfl); (case hg => rfl); (case hr => first | (go_simp; done) | (go_simp; rfl)); (case hp => exact (Reps.one (show Kd.M (Kd.int .i64) _ _ _ 0 [.int .i64 0] from rfl) (Reps.one (show Kd.M (Kd.int .i64) _ _ _ 40 [.int .i64 40] from rfl) (Reps.none _ _)))); intro v302 w28 ho29 hb hg_ hnew_; clear hg_ hnew_; (first | rw [← Ny301.out] at ho29 | (simp only [Int.reduceToNat] at ho29; rw [← Ny301.out] at ho29)); have n0_ := Aside0.mk (Kd.R_elder' (by (with_reducible repeat (first | apply Kd.R_alloc | apply Kd.R_drewN | apply Kd.R_drew)); exact (Kd.R_mono (Kd.R_far (p := ⟨gb300, 1, none⟩) (Kd.R_far (p := ⟨gb300, 0, none⟩) (Kd.R_types HO287.out BK300.out (by decide)) (fun _ hk => hk.2) (.int .i64 t297)) (fun _ hk => hk.2) (.int .i64 t298)) (fun _ h_ => h_.1))) (Kd.R_base ho29) hb); have n1_ := Aside0.mk (Kd.R_elder' (by (with_reducible repeat (first | apply Kd.R_alloc | apply Kd.R_drewN | apply Kd.R_drew)); exact (Kd.R_mono (Kd.R_far (p := ⟨gb300, 1, none⟩) (Kd.R_far (p := ⟨gb300, 0, none⟩) (Kd.R_types HO290.out BK300.out (by decide)) (fun _ hk => hk.2) (.int .i64 t297)) (fun _ hk => hk.2) (.int .i64 t298)) (fun _ h_ => h_.1))) (Kd.R_base ho29) hb); have n2_ := Aside0.mk (Kd.R_below (by (with_reducible repeat (first | apply Kd.R_alloc | apply Kd.R_drewN | apply Kd.R_drew)); exact (Kd.R_mono (Kd.R_far (p := ⟨gb300, 1, none⟩) (Kd.R_far (p := ⟨gb300, 0, none⟩) (Kd.R_mono HO293.out (fun k_ hk => (⟨hk, hk.2⟩ : _ ∧ k_ ≠ gb300))) (fun _ hk => hk.2) (.int .i64 t297)) (fun _ hk => hk.2) (.int .i64 t298)) (fun _ h_ => h_.1))) hb); have n3_ := Aside0.mk (Kd.R_elder' (by (with_reducible repeat (first | apply Kd.R_alloc | apply Kd.R_drewN | apply Kd.R_drew)); exact (Kd.R_mono (Kd.R_far (p := ⟨gb300, 1, none⟩) (Kd.R_far (p := ⟨gb300, 0, none⟩) (Kd.R_types HO296.out BK300.out (by decide)) (fun _ hk => hk.2) (.int .i64 t297)) (fun _ hk => hk.2) (.int .i64 t298)) (fun _ h_ => h_.1))) (Kd.R_base ho29) hb); have n4_ := Aside0.mk (Kd.R_lower (Kd.R_new' (Kd.R_new' (Kd.R_new' ho29 (Kd.R_lt (by (with_reducible repeat (first | apply Kd.R_alloc | apply Kd.R_drewN | apply Kd.R_drew)); exact (Kd.R_mono (Kd.R_far (p := ⟨gb300, 1, none⟩) (Kd.R_far (p := ⟨gb300, 0, none⟩) (Kd.R_types HO287.out BK300.out (by decide)) (fun _ hk => hk.2) (.int .i64 t297)) (fun _ hk => hk.2) (.int .i64 t298)) (fun _ h_ => h_.1))))) (Kd.R_lt (by (with_reducible repeat (first | apply Kd.R_alloc | apply Kd.R_drewN | apply Kd.R_drew)); exact (Kd.R_mono (Kd.R_far (p := ⟨gb300, 1, none⟩) (Kd.R_far (p := ⟨gb300, 0, none⟩) (Kd.R_types HO290.out BK300.out (by decide)) (fun _ hk => hk.2) (.int .i64 t297)) (fun _ hk => hk.2) (.int .i64 t298)) (fun _ h_ => h_.1))))) (Kd.R_lt (by (with_reducible repeat (first | apply Kd.R_alloc | apply Kd.R_drewN | apply Kd.R_drew)); exact (Kd.R_mono (Kd.R_far (p := ⟨gb300, 1, none⟩) (Kd.R_far (p := ⟨gb300, 0, none⟩) (Kd.R_types HO296.out BK300.out (by decide)) (fun _ hk => hk.2) (.int .i64 t297)) (fun _ hk => hk.2) (.int .i64 t298)) (fun _ h_ => h_.1))))) (below_size (by repeat (first | (with_reducible first | exact HB.out | apply below_alloc | apply pw_below_drewN | apply below_drew1 | refine below_set ?_ GE300.out) | exact HB.out)))); have n5_ := Aside0.mk (blk_below (g := gb300) (o := .cells #[.int .i64 t297, .int .i64 t298] 27 (0, 0)) (by (with_reducible repeat (first | refine blk_drewN ?_ _ | refine blk_drew ?_ | refine blk_alloc ?_ _)); refine blk_put (cs := #[.int .i64 t297, .int .i64 0]) ?_ 1 _ rfl; (with_reducible repeat (first | refine blk_drewN ?_ _ | refine blk_drew ?_ | refine blk_alloc ?_ _)); refine blk_put (cs := #[.int .i64 0, .int .i64 0]) ?_ 0 _ rfl; (with_reducible repeat (first | refine blk_drewN ?_ _ | refine blk_drew ?_ | refine blk_alloc ?_ _)); exact BK300.out) hb); have n6_ := Aside0.mk (below_step (by repeat (first | (with_reducible first | exact HB.out | apply below_alloc | apply pw_below_drewN | apply below_drew1 | refine below_set ?_ GE300.out) | exact HB.out)) hb); clear HO287; clear HO290; clear HO293; clear HO296; clear BK300; clear HB; have HO287 := n0_; have HO290 := n1_; have HO293 := n2_; have HO296 := n3_; have HO303 := n4_; have BK300 := n5_; have HB := n6_; clear n0_ n1_ n2_ n3_ n4_ n5_ n6_; clear hb ho29; obtain ⟨Ao30, co30, eo30⟩ := Kd.R_slice HO303.out; subst eo30) | ((with_reducible refine gate_callee (f := 16) rfl ?_); refine goesL_ (some 23) rfl rfl Tryd.func16 (by kernel_rfl) rfl #[.slice Ao22 y285.length co22, .slice Ao30 y301.length co30, .int .i64 90000, .int .i64 20] rfl (by (try simp only [List.map_toArray, List.map_cons, List.map_nil]); first | done | rfl | (simp only [List.length_drop, List.length_take]; rfl)) ?_; (with_reducible refine (sequencer_Settle.calls k _ _ y285 (fun k_ => some k_ = (.slice Ao30 y301.length co30 : Value).ownBlock) _ _ y301 90000 20 t304 t305 t306 _ ?side1 ?side2 ?side3 ?side4 A2.out).mono ?_); (case side1 => repeat (first | exact (Kd.R_reads' HO287.out).2.2 | (with_reducible refine Kd.C_alloc ?_ _) | (with_reducible refine Kd.C_drewN ?_ _) | (with_reducible refine Kd.C_drew ?_))); (case side2 => exact (Kd.R_reads' HO287.out).2.1); (case side3 => exact Kd.R_V (Kd.R_tight rfl (Kd.R_types (Kd.R_apart' (HO303.out) (Kd.R_typed HO293.out) (by decide)) BK300.out (by decide)))); (case side4 => exact GW.below HG.out (by repeat (first | (with_reducible first | exact HB.out | apply below_alloc | apply pw_below_drewN | apply below_drew1 | refine below_set ?_ GE300.out) | exact HB.out))); rintro e w31 ⟨rfl, hb⟩; refine ⟨_, rfl, ?_⟩; have n0_ := Aside0.mk (Kd.R_below (by (with_reducible repeat (first | apply Kd.R_alloc | apply Kd.R_drewN | apply Kd.R_drew)); exact HO287.out) hb); have n1_ := Aside0.mk (Kd.R_below (by (with_reducible repeat (first | apply Kd.R_alloc | apply Kd.R_drewN | apply Kd.R_drew)); exact HO290.out) hb); have n2_ := Aside0.mk (Kd.R_below (by (with_reducible repeat (first | apply Kd.R_alloc | apply Kd.R_drewN | apply Kd.R_drew)); exact HO293.out) hb); have n3_ := Aside0.mk (Kd.R_below (by (with_reducible repeat (first | apply Kd.R_alloc | apply Kd.R_drewN | apply Kd.R_drew)); exact HO296.out) hb); have n4_ := Aside0.mk (Kd.R_below (by (with_reducible repeat (first | apply Kd.R_alloc | apply Kd.R_drewN | apply Kd.R_drew)); exact HO303.out) hb); have n5_ := Aside0.mk (blk_below (g := gb300) (o := .cells #[.int .i64 t297, .int .i64 t298] 27 (0, 0)) (by (with_reducible repeat (first | refine blk_drewN ?_ _ | refine blk_drew ?_ | refine blk_alloc ?_ _)); exact BK300.out) hb); have n6_ := Aside0.mk (below_step (by repeat (first | (with_reducible first | exact HB.out | apply below_alloc | apply pw_below_drewN | apply below_drew1 | refine below_set ?_ GE300.out) | exact HB.out)) hb); clear HO287; clear HO290; clear HO293; clear HO296; clear HO303; clear BK300; clear HB; have HO287 := n0_; have HO290 := n1_; have HO293 := n2_; have HO296 := n3_; have HO303 := n4_; have BK300 := n5_; have HB := n6_; clear n0_ n1_ n2_ n3_ n4_ n5_ n6_; (try clear hb); (try clear hb2); (try clear hk); (try clear hi)) | ((with_reducible refine gate_dst (N := 28) rfl ?_); (try (refine gate_guard (by rfl) ?_; dsimp only)); refine Kd.R_lit (Kd.int .i64) _ 2 ?hg (N := 28) ?hd (xs := ([3, 30] : List Int)) (inner := [.int .i64 3, .int .i64 30]) (ok := fun _ => True) (okp := fun _ => True) ?hr ?hp (fun _ hk => hk) trivial (Below.refl _ _) (Nat.le_refl _) (by simp) ?_; (case hd => rfl); (case hg => rfl); (case hr => first | (go_simp; done) | (go_simp; rfl)); (case hp => exact (Reps.one (show Kd.M (Kd.int .i64) _ _ _ 3 [.int .i64 3] from rfl) (Reps.one (show Kd.M (Kd.int .i64) _ _ _ 30 [.int .i64 30] from rfl) (Reps.none _ _)))); intro v308 w32 ho33 hb hg_ hnew_; clear hg_ hnew_; (first | rw [← Ny307.out] at ho33 | (simp only [Int.reduceToNat] at ho33; rw [← Ny307.out] at ho33)); have n0_ := Aside0.mk (Kd.R_elder' (by (with_reducible repeat (first | apply Kd.R_alloc | apply Kd.R_drewN | apply Kd.R_drew)); exact HO287.out) (Kd.R_base ho33) hb); have n1_ := Aside0.mk (Kd.R_elder' (by (with_reducible repeat (first | apply Kd.R_alloc | apply Kd.R_drewN | apply Kd.R_drew)); exact HO290.out) (Kd.R_base ho33) hb); have n2_ := Aside0.mk (Kd.R_below (by (with_reducible repeat (first | apply Kd.R_alloc | apply Kd.R_drewN | apply Kd.R_drew)); exact HO293.out) hb); have n3_ := Aside0.mk (Kd.R_elder' (by (with_reducible repeat (first | apply Kd.R_alloc | apply Kd.R_drewN | apply Kd.R_drew)); exact HO296.out) (Kd.R_base ho33) hb); have n4_ := Aside0.mk (Kd.R_elder' (by (with_reducible repeat (first | apply Kd.R_alloc | apply Kd.R_drewN | apply Kd.R_drew)); exact HO303.out) (Kd.R_base ho33) hb); have n5_ := Aside0.mk (Kd.R_lower (Kd.R_new' (Kd.R_new' (Kd.R_new' (Kd.R_new' ho33 (Kd.R_lt (by (with_reducible repeat (first | apply Kd.R_alloc | apply Kd.R_drewN | apply Kd.R_drew)); exact HO287.out))) (Kd.R_lt (by (with_reducible repeat (first | apply Kd.R_alloc | apply Kd.R_drewN | apply Kd.R_drew)); exact HO290.out))) (Kd.R_lt (by (with_reducible repeat (first | apply Kd.R_alloc | apply Kd.R_drewN | apply Kd.R_drew)); exact HO296.out))) (Kd.R_lt (by (with_reducible repeat (first | apply Kd.R_alloc | apply Kd.R_drewN | apply Kd.R_drew)); exact HO303.out))) (below_size (by repeat (first | (with_reducible first | exact HB.out | apply below_alloc | apply pw_below_drewN | apply below_drew1 | refine below_set ?_ GE300.out) | exact HB.out)))); have n6_ := Aside0.mk (blk_below (g := gb300) (o := .cells #[.int .i64 t297, .int .i64 t298] 27 (0, 0)) (by (with_reducible repeat (first | refine blk_drewN ?_ _ | refine blk_drew ?_ | refine blk_alloc ?_ _)); exact BK300.out) hb); have n7_ := Aside0.mk (below_step (by repeat (first | (with_reducible first | exact HB.out | apply below_alloc | apply pw_below_drewN | apply below_drew1 | refine below_set ?_ GE300.out) | exact HB.out)) hb); clear HO287; clear HO290; clear HO293; clear HO296; clear HO303; clear BK300; clear HB; have HO287 := n0_; have HO290 := n1_; have HO293 := n2_; have HO296 := n3_; have HO303 := n4_; have HO309 := n5_; have BK300 := n6_; have HB := n7_; clear n0_ n1_ n2_ n3_ n4_ n5_ n6_ n7_; clear hb ho33; obtain ⟨Ao34, co34, eo34⟩ := Kd.R_slice HO309.out; subst eo34) | ((with_reducible refine gate_callee (f := 20) rfl ?_); refine goesL_ (some 29) rfl rfl Tryd.func20 (by kernel_rfl) rfl #[.slice Ao34 y307.length co34, .int .i64 20] rfl (by (try simp only [List.map_toArray, List.map_cons, List.map_nil]); first | done | rfl | (simp only [List.length_drop, List.length_take]; rfl)) ?_; (with_reducible refine (sequencer_Duration.calls k _ _ y307 20 t310 t311 _ ?side1 ?side2 ?side3 A3.out).mono ?_); (case side1 => repeat (first | exact (Kd.R_reads' HO309.out).2.2 | (with_reducible refine Kd.C_alloc ?_ _) | (with_reducible refine Kd.C_drewN ?_ _) | (with_reducible refine Kd.C_drew ?_))); (case side2 => exact (Kd.R_reads' HO309.out).2.1); (case side3 => exact GW.below HG.out (by repeat (first | (with_reducible first | exact HB.out | apply below_alloc | apply pw_below_drewN | apply below_drew1 | refine below_set ?_ GE300.out) | exact HB.out))); rintro e w35 ⟨rfl, hb⟩; refine ⟨_, rfl, ?_⟩; have n0_ := Aside0.mk (Kd.R_below (by (with_reducible repeat (first | apply Kd.R_alloc | apply Kd.R_drewN | apply Kd.R_drew)); exact HO287.out) hb); have n1_ := Aside0.mk (Kd.R_below (by (with_reducible repeat (first | apply Kd.R_alloc | apply Kd.R_drewN | apply Kd.R_drew)); exact HO290.out) hb); have n2_ := Aside0.mk (Kd.R_below (by (with_reducible repeat (first | apply Kd.R_alloc | apply Kd.R_drewN | apply Kd.R_drew)); exact HO293.out) hb); have n3_ := Aside0.mk (Kd.R_below (by (with_reducible repeat (first | apply Kd.R_alloc | apply Kd.R_drewN | apply Kd.R_drew)); exact HO296.out) hb); have n4_ := Aside0.mk (Kd.R_below (by (with_reducible repeat (first | apply Kd.R_alloc | apply Kd.R_drewN | apply Kd.R_drew)); exact HO303.out) hb); have n5_ := Aside0.mk (Kd.R_below (by (with_reducible repeat (first | apply Kd.R_alloc | apply Kd.R_drewN | apply Kd.R_drew)); exact HO309.out) hb); have n6_ := Aside0.mk (blk_below (g := gb300) (o := .cells #[.int .i64 t297, .int .i64 t298] 27 (0, 0)) (by (with_reducible repeat (first | refine blk_drewN ?_ _ | refine blk_drew ?_ | refine blk_alloc ?_ _)); exact BK300.out) hb); have n7_ := Aside0.mk (below_step (by repeat (first | (with_reducible first | exact HB.out | apply below_alloc | apply pw_below_drewN | apply below_drew1 | refine below_set ?_ GE300.out) | exact HB.out)) hb); clear HO287; clear HO290; clear HO293; clear HO296; clear HO303; clear HO309; clear BK300; clear HB; have HO287 := n0_; have HO290 := n1_; have HO293 := n2_; have HO296 := n3_; have HO303 := n4_; have HO309 := n5_; have BK300 := n6_; have HB := n7_; clear n0_ n1_ n2_ n3_ n4_ n5_ n6_ n7_; (try clear hb); (try clear hb2); (try clear hk); (try clear hi)) | ((with_reducible refine gate_dst (N := 36) rfl ?_); (try (refine gate_guard (by rfl) ?_; dsimp only)); refine Kd.R_lit (Kd.int .i64) _ 2 ?hg (N := 36) ?hd (xs := ([1, 0] : List Int)) (inner := [.int .i64 1, .int .i64 0]) (ok := fun _ => True) (okp := fun _ => True) ?hr ?hp (fun _ hk => hk) trivial (Below.refl _ _) (Nat.le_refl _) (by simp) ?_; (case hd => rfl); (case hg => rfl); (case hr => first | (go_simp; done) | (go_simp; rfl)); (case hp => exact (Reps.one (show Kd.M (Kd.int .i64) _ _ _ 1 [.int .i64 1] from rfl) (Reps.one (show Kd.M (Kd.int .i64) _ _ _ 0 [.int .i64 0] from rfl) (Reps.none _ _)))); intro v313 w36 ho37 hb hg_ hnew_; clear hg_ hnew_; (first | rw [← Ny312.out] at ho37 | (simp only [Int.reduceToNat] at ho37; rw [← Ny312.out] at ho37)); have n0_ := Aside0.mk (Kd.R_elder' (by (with_reducible repeat (first | apply Kd.R_alloc | apply Kd.R_drewN | apply Kd.R_drew)); exact HO287.out) (Kd.R_base ho37) hb); have n1_ := Aside0.mk (Kd.R_elder' (by (with_reducible repeat (first | apply Kd.R_alloc | apply Kd.R_drewN | apply Kd.R_drew)); exact HO290.out) (Kd.R_base ho37) hb); have n2_ := Aside0.mk (Kd.R_below (by (with_reducible repeat (first | apply Kd.R_alloc | apply Kd.R_drewN | apply Kd.R_drew)); exact HO293.out) hb); have n3_ := Aside0.mk (Kd.R_elder' (by (with_reducible repeat (first | apply Kd.R_alloc | apply Kd.R_drewN | apply Kd.R_drew)); exact HO296.out) (Kd.R_base ho37) hb); have n4_ := Aside0.mk (Kd.R_elder' (by (with_reducible repeat (first | apply Kd.R_alloc | apply Kd.R_drewN | apply Kd.R_drew)); exact HO303.out) (Kd.R_base ho37) hb); have n5_ := Aside0.mk (Kd.R_elder' (by (with_reducible repeat (first | apply Kd.R_alloc | apply Kd.R_drewN | apply Kd.R_drew)); exact HO309.out) (Kd.R_base ho37) hb); have n6_ := Aside0.mk (Kd.R_lower (Kd.R_new' (Kd.R_new' (Kd.R_new' (Kd.R_new' (Kd.R_new' ho37 (Kd.R_lt (by (with_reducible repeat (first | apply Kd.R_alloc | apply Kd.R_drewN | apply Kd.R_drew)); exact HO287.out))) (Kd.R_lt (by (with_reducible repeat (first | apply Kd.R_alloc | apply Kd.R_drewN | apply Kd.R_drew)); exact HO290.out))) (Kd.R_lt (by (with_reducible repeat (first | apply Kd.R_alloc | apply Kd.R_drewN | apply Kd.R_drew)); exact HO296.out))) (Kd.R_lt (by (with_reducible repeat (first | apply Kd.R_alloc | apply Kd.R_drewN | apply Kd.R_drew)); exact HO303.out))) (Kd.R_lt (by (with_reducible repeat (first | apply Kd.R_alloc | apply Kd.R_drewN | apply Kd.R_drew)); exact HO309.out))) (below_size (by repeat (first | (with_reducible first | exact HB.out | apply below_alloc | apply pw_below_drewN | apply below_drew1 | refine below_set ?_ GE300.out) | exact HB.out)))); have n7_ := Aside0.mk (blk_below (g := gb300) (o := .cells #[.int .i64 t297, .int .i64 t298] 27 (0, 0)) (by (with_reducible repeat (first | refine blk_drewN ?_ _ | refine blk_drew ?_ | refine blk_alloc ?_ _)); exact BK300.out) hb); have n8_ := Aside0.mk (below_step (by repeat (first | (with_reducible first | exact HB.out | apply below_alloc | apply pw_below_drewN | apply below_drew1 | refine below_set ?_ GE300.out) | exact HB.out)) hb); clear HO287; clear HO290; clear HO293; clear HO296; clear HO303; clear HO309; clear BK300; clear HB; have HO287 := n0_; have HO290 := n1_; have HO293 := n2_; have HO296 := n3_; have HO303 := n4_; have HO309 := n5_; have HO314 := n6_; have BK300 := n7_; have HB := n8_; clear n0_ n1_ n2_ n3_ n4_ n5_ n6_ n7_ n8_; clear hb ho37; obtain ⟨Ao38, co38, eo38⟩ := Kd.R_slice HO296.out; subst eo38; obtain ⟨Ao39, co39, eo39⟩ := Kd.R_slice HO314.out; subst eo39) | (go_at_call 13; (with_reducible refine (plenumref21_Same.calls k _ _ t294 _ _ y312 true _ ?side1 ?side2 ?side3 ?side4 A5.out).mono ?_); (case side1 => repeat (first | exact (Kd.R_reads' HO296.out).2.2 | (with_reducible refine Kd.C_alloc ?_ _) | (with_reducible refine Kd.C_drewN ?_ _) | (with_reducible refine Kd.C_drew ?_))); (case side2 => exact (Kd.R_reads' HO296.out).2.1); (case side3 => repeat (first | exact (Kd.R_reads' HO314.out).2.2 | (with_reducible refine Kd.C_alloc ?_ _) | (with_reducible refine Kd.C_drewN ?_ _) | (with_reducible refine Kd.C_drew ?_))); (case side4 => exact (Kd.R_reads' HO314.out).2.1); rintro e w' ⟨rfl, ⟨nd, rfl⟩⟩; have hcz40_0 : w36.cell? ⟨gb300, 0, none⟩ = some (.int .i64 t297) := (blk_cell BK300.out 0).trans rfl; have hcz40_1 : w36.cell? ⟨gb300, 1, none⟩ = some (.int .i64 t298) := (blk_cell BK300.out 1).trans rfl; have hfz40_0 := blk_frozen BK300.out 0; have hfz40_1 := blk_frozen BK300.out 1) | (go_at_call 14; (with_reducible refine (sequencer_Check.calls k (⟨#[115, 116, 97, 103, 101]⟩ : ByteArray) _ _ y285 t316 _ ?side1 ?side2 ?side3 A13.out).mono ?_); (case side1 => repeat (first | exact (Kd.R_reads' HO287.out).2.2 | (with_reducible refine Kd.C_alloc ?_ _) | (with_reducible refine Kd.C_drewN ?_ _) | (with_reducible refine Kd.C_drew ?_))); (case side2 => exact (Kd.R_reads' HO287.out).2.1); (case side3 => exact GW.below HG.out (by repeat (first | (with_reducible first | exact HB.out | apply below_alloc | apply pw_below_drewN | apply below_drew1 | refine below_set ?_ GE300.out) | exact HB.out))); rintro e w41 ⟨rfl, hb⟩; have n0_ := Aside0.mk (Kd.R_below (by (with_reducible repeat (first | apply Kd.R_alloc | apply Kd.R_drewN | apply Kd.R_drew)); exact HO287.out) hb); have n1_ := Aside0.mk (Kd.R_below (by (with_reducible repeat (first | apply Kd.R_alloc | apply Kd.R_drewN | apply Kd.R_drew)); exact HO290.out) hb); have n2_ := Aside0.mk (Kd.R_below (by (with_reducible repeat (first | apply Kd.R_alloc | apply Kd.R_drewN | apply Kd.R_drew)); exact HO293.out) hb); have n3_ := Aside0.mk (Kd.R_below (by (with_reducible repeat (first | apply Kd.R_alloc | apply Kd.R_drewN | apply Kd.R_drew)); exact HO296.out) hb); have n4_ := Aside0.mk (Kd.R_below (by (with_reducible repeat (first | apply Kd.R_alloc | apply Kd.R_drewN | apply Kd.R_drew)); exact HO303.out) hb); have n5_ := Aside0.mk (Kd.R_below (by (with_reducible repeat (first | apply Kd.R_alloc | apply Kd.R_drewN | apply Kd.R_drew)); exact HO309.out) hb); have n6_ := Aside0.mk (Kd.R_below (by (with_reducible repeat (first | apply Kd.R_alloc | apply Kd.R_drewN | apply Kd.R_drew)); exact HO314.out) hb); have n7_ := Aside0.mk (blk_below (g := gb300) (o := .cells #[.int .i64 t297, .int .i64 t298] 27 (0, 0)) (by (with_reducible repeat (first | refine blk_drewN ?_ _ | refine blk_drew ?_ | refine blk_alloc ?_ _)); exact BK300.out) hb); have n8_ := Aside0.mk (below_step (by repeat (first | (with_reducible first | exact HB.out | apply below_alloc | apply pw_below_drewN | apply below_drew1 | refine below_set ?_ GE300.out) | exact HB.out)) hb); clear HO287; clear HO290; clear HO293; clear HO296; clear HO303; clear HO309; clear HO314; clear BK300; clear HB; have HO287 := n0_; have HO290 := n1_; have HO293 := n2_; have HO296 := n3_; have HO303 := n4_; have HO309 := n5_; have HO314 := n6_; have BK300 := n7_; have HB := n8_; clear n0_ n1_ n2_ n3_ n4_ n5_ n6_ n7_ n8_; (try clear hb); (try clear hb2); (try clear hk); (try clear hi)) | (go_at_call 14; (refine (sequencer_Check.calls k (⟨#[115, 116, 97, 103, 101]⟩ : ByteArray) _ _ ([] : List Int) t317 _ ?side1 ?side2 ?side3 A15.out).mono ?_); (case side1 => exact Kd.C_nil _ _); (case side2 => exact Nat.le_refl _); (case side3 => exact GW.below HG.out (by repeat (first | (with_reducible first | exact HB.out | apply below_alloc | apply pw_below_drewN | apply below_drew1 | refine below_set ?_ GE300.out) | exact HB.out))); rintro e w42 ⟨rfl, hb⟩; have n0_ := Aside0.mk (Kd.R_below (by (with_reducible repeat (first | apply Kd.R_alloc | apply Kd.R_drewN | apply Kd.R_drew)); exact HO287.out) hb); have n1_ := Aside0.mk (Kd.R_below (by (with_reducible repeat (first | apply Kd.R_alloc | apply Kd.R_drewN | apply Kd.R_drew)); exact HO290.out) hb); have n2_ := Aside0.mk (Kd.R_below (by (with_reducible repeat (first | apply Kd.R_alloc | apply Kd.R_drewN | apply Kd.R_drew)); exact HO293.out) hb); have n3_ := Aside0.mk (Kd.R_below (by (with_reducible repeat (first | apply Kd.R_alloc | apply Kd.R_drewN | apply Kd.R_drew)); exact HO296.out) hb); have n4_ := Aside0.mk (Kd.R_below (by (with_reducible repeat (first | apply Kd.R_alloc | apply Kd.R_drewN | apply Kd.R_drew)); exact HO303.out) hb); have n5_ := Aside0.mk (Kd.R_below (by (with_reducible repeat (first | apply Kd.R_alloc | apply Kd.R_drewN | apply Kd.R_drew)); exact HO309.out) hb); have n6_ := Aside0.mk (Kd.R_below (by (with_reducible repeat (first | apply Kd.R_alloc | apply Kd.R_drewN | apply Kd.R_drew)); exact HO314.out) hb); have n7_ := Aside0.mk (blk_below (g := gb300) (o := .cells #[.int .i64 t297, .int .i64 t298] 27 (0, 0)) (by (with_reducible repeat (first | refine blk_drewN ?_ _ | refine blk_drew ?_ | refine blk_alloc ?_ _)); exact BK300.out) hb); have n8_ := Aside0.mk (below_step (by repeat (first | (with_reducible first | exact HB.out | apply below_alloc | apply pw_below_drewN | apply below_drew1 | refine below_set ?_ GE300.out) | exact HB.out)) hb); clear HO287; clear HO290; clear HO293; clear HO296; clear HO303; clear HO309; clear HO314; clear BK300; clear HB; have HO287 := n0_; have HO290 := n1_; have HO293 := n2_; have HO296 := n3_; have HO303 := n4_; have HO309 := n5_; have HO314 := n6_; have BK300 := n7_; have HB := n8_; clear n0_ n1_ n2_ n3_ n4_ n5_ n6_ n7_ n8_; (try clear hb); (try clear hb2); (try clear hk); (try clear hi)))
          go_ret
          exact ⟨by first | rfl | (simp [errW_none, errW_some] <;> rfl) | (simp [*, errW_none, errW_some] <;> rfl), by repeat (first | (with_reducible first | exact HB.out | apply below_alloc | apply pw_below_drewN | apply below_drew1 | refine below_set ?_ GE300.out) | exact HB.out)⟩
         ·
          rw [if_neg c14] at H
          exact absurd H (by simp)
        ·
         rw [if_neg c12] at H
         exact absurd H (by simp)
       ·
        rw [if_neg c11] at H
        exact absurd H (by simp)
      ·
       rw [if_neg c10] at H
       exact absurd H (by simp)
     ·
      rw [if_neg c9] at H
      exact absurd H (by simp)
    ·
     rw [if_neg c8] at H
     exact absurd H (by simp)
   ·
    rw [if_neg c7] at H
    exact absurd H (by simp)
  ·
   replace c6 := Bool.eq_false_iff.mpr c6
   subst c6
   have H1 : (none) = some r := by rw [if_neg (show ¬ (false = true) by decide)] at H; exact H
   clear H
   have H := H1
   clear H1
   exact absurd H (by simp)
 ·
  rw [if_neg c4] at H
  exact absurd H (by simp)

/-! ### plenumlaw21_few: function 10 -/
def plenumlaw21_few.f (l0 : List Int) : Option (Bool) := some (decide ((l0.length : Int) ≤ 10))
set_option maxHeartbeats 8000000 in
set_option maxRecDepth 100000 in
theorem plenumlaw21_few.calls (A0 : Option Addr) (c0 : Nat) (l0 : List Int) (r : Bool) (w : World) (hr0 : Kd.C (Kd.int .i64) w A0 l0.length l0) (hc0 : l0.length ≤ c0) (h : plenumlaw21_few.f l0 = some r) :
  Calls Tryd.prog 10 #[.slice A0 l0.length c0] w fun e w' => e = .returned (.bool r) ∧ Drawn0 w w' := by
 have HR0 := Aside0.mk hr0
 have HC0 := Aside0.mk hc0
 clear hr0 hc0
 have H : (some (decide ((l0.length : Int) ≤ 10))) = some r := h
 clear h
 obtain rfl := Option.some.inj H
 go_enter Tryd.func10, Tryd.ntmps10
 go_wp2
 go_ret
 exact ⟨by first | rfl | (simp; done) | (simp [*]; done), by repeat (first | exact Drawn0.refl _ | apply Drawn0.step)⟩

end Go.Proofs.YtcpncmjjbfbdhaaDoor.R
