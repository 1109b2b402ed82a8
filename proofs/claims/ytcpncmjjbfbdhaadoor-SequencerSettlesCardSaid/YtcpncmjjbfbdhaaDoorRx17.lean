-- Written by this claim's own program out of the translation; not trusted: Lean checks it.
import Derived.Test.YtcpncmjjbfbdhaaDoorRx0
import Derived.Test.YtcpncmjjbfbdhaaDoorRx9
import Derived.Test.YtcpncmjjbfbdhaaDoorRx10
import Derived.Test.YtcpncmjjbfbdhaaDoorRx14
import Derived.Test.YtcpncmjjbfbdhaaDoorRx15
import Derived.Test.YtcpncmjjbfbdhaaDoorRx16
namespace Go.Proofs.YtcpncmjjbfbdhaaDoor.R
open Go.RowKit Go.Proofs.YtcpncmjjbfbdhaaDoorW.PrintWords Go.Proofs.YtcpncmjjbfbdhaaDoorW.PrintLast Go.Proofs.YtcpncmjjbfbdhaaDoorW.PrintMore
attribute [local go_sem] max2_int min2_int max_two min_two max_three min_three max_four min_four   -- for this text's walks alone
set_option linter.unusedVariables false
set_option linter.unusedSimpArgs false

/-! ### plenumlaw21_SequencerSettles: function 4 -/
mutual
def plenumlaw21_SequencerSettles.j0 : Nat → List Int → List Int → Int → Int → Bool → Option (Bool)
 | 0, _, _, _, _, _ => none
 | k + 1, x0, x1, x2, x3, x32 => if x32 = true then (some true) else ((sequencer_Settle.f k x0 x1 x2 x3).bind fun bt697 => ((plenumref21_Check.f k (⟨#[115, 116, 97, 103, 101]⟩ : ByteArray) x0).bind fun t700 => (if t700 = 0 then ((plenumref21_Time.f x3).bind fun t701 => (if t701 = true then ((plenumref21_State.f k (⟨#[115, 116, 97, 103, 101]⟩ : ByteArray) x0 x1).bind fun t702 => (if t702 = true then (if x2 < (-1000000000000) then (plenumlaw21_SequencerSettles.j1 k x0 x1 x2 x3 bt697.1 bt697.2.1 bt697.2.2 t700 true) else (plenumlaw21_SequencerSettles.j1 k x0 x1 x2 x3 bt697.1 bt697.2.1 bt697.2.2 t700 (decide (x2 > 1000000000000)))) else (if bt697.2.2 = 8 then (if bt697.1 = 0 then (some (bt697.2.1 == 0)) else (none)) else (none)))) else (if bt697.2.2 = 1 then (if bt697.1 = 0 then (some (bt697.2.1 == 0)) else (none)) else (none)))) else (if bt697.2.2 = t700 then (if bt697.1 = 0 then (some (bt697.2.1 == 0)) else (none)) else (none)))))
def plenumlaw21_SequencerSettles.j1 : Nat → List Int → List Int → Int → Int → Int → Int → Int → Int → Bool → Option (Bool)
 | 0, _, _, _, _, _, _, _, _, _ => none
 | k + 1, x0, x1, x2, x3, x9, x10, x11, x12, x56 => if x56 = true then (if x11 = 6 then (if x9 = 0 then (some (x10 == 0)) else (none)) else (none)) else (if 1 < (x0.length : Int) then (if x2 > (rd x0 1) then (if 2 < (x0.length : Int) then (plenumlaw21_SequencerSettles.j2 k x0 x1 x2 x3 x9 x10 x11 x12 (decide (x2 < (rd x0 2)))) else (none)) else (plenumlaw21_SequencerSettles.j2 k x0 x1 x2 x3 x9 x10 x11 x12 false)) else (none))
def plenumlaw21_SequencerSettles.j2 : Nat → List Int → List Int → Int → Int → Int → Int → Int → Int → Bool → Option (Bool)
 | 0, _, _, _, _, _, _, _, _, _ => none
 | k + 1, x0, x1, x2, x3, x9, x10, x11, x12, x63 => if x63 = true then (if x11 = 10 then (if x9 = 0 then (some (x10 == 0)) else (none)) else (none)) else (if x12 = 0 then ((plenumref21_Settle.f k x0 x1 x2 x3).bind fun bt705 => (if x11 = 0 then (if x9 = bt705.1 then (some (x10 == bt705.2)) else (none)) else (none))) else (if x11 = x12 then (if x9 = 0 then (some (x10 == 0)) else (none)) else (none)))
end
def plenumlaw21_SequencerSettles.f (k : Nat) (l0 : List Int) (l1 : List Int) (a2 : Int) (a3 : Int) : Option (Bool) := (plenumlaw21_awake.f k).bind fun t694 => (if t694 = true then ((plenumlaw21_few.f l0).bind fun t695 => (if t695 = true then ((plenumlaw21_few.f l1).bind fun t696 => (if t696 = true then (if a3 > 0 then (plenumlaw21_SequencerSettles.j0 k l0 l1 a2 a3 (decide (a3 < 600))) else (plenumlaw21_SequencerSettles.j0 k l0 l1 a2 a3 false)) else (plenumlaw21_SequencerSettles.j0 k l0 l1 a2 a3 true))) else (plenumlaw21_SequencerSettles.j0 k l0 l1 a2 a3 true))) else (none))
theorem plenumlaw21_SequencerSettles.mono_l : ∀ k, (∀ y0 y1 y2 y3 y4, LeO (plenumlaw21_SequencerSettles.j0 k y0 y1 y2 y3 y4) (plenumlaw21_SequencerSettles.j0 (k + 1) y0 y1 y2 y3 y4)) ∧ (∀ y0 y1 y2 y3 y4 y5 y6 y7 y8, LeO (plenumlaw21_SequencerSettles.j1 k y0 y1 y2 y3 y4 y5 y6 y7 y8) (plenumlaw21_SequencerSettles.j1 (k + 1) y0 y1 y2 y3 y4 y5 y6 y7 y8)) ∧ (∀ y0 y1 y2 y3 y4 y5 y6 y7 y8, LeO (plenumlaw21_SequencerSettles.j2 k y0 y1 y2 y3 y4 y5 y6 y7 y8) (plenumlaw21_SequencerSettles.j2 (k + 1) y0 y1 y2 y3 y4 y5 y6 y7 y8))
 | 0 => ⟨fun _ _ _ _ _ r h => by simp [plenumlaw21_SequencerSettles.j0] at h, fun _ _ _ _ _ _ _ _ _ r h => by simp [plenumlaw21_SequencerSettles.j1] at h, fun _ _ _ _ _ _ _ _ _ r h => by simp [plenumlaw21_SequencerSettles.j2] at h⟩
 | k + 1 => by
  obtain ⟨ih0, ih1, ih2⟩ := plenumlaw21_SequencerSettles.mono_l k
  refine ⟨?_, ?_, ?_⟩
  ·
   intro y0 y1 y2 y3 y4
   unfold plenumlaw21_SequencerSettles.j0
   repeat' first
   | (with_reducible exact ih0 _ _ _ _ _)
   | (with_reducible exact ih1 _ _ _ _ _ _ _ _ _)
   | (with_reducible exact ih2 _ _ _ _ _ _ _ _ _)
   | (with_reducible exact plenumlaw21_awake.mono _)
   | (with_reducible exact plenumref21_Check.mono _ _ _)
   | (with_reducible exact plenumref21_Settle.mono _ _ _ _ _)
   | (with_reducible exact plenumref21_State.mono _ _ _ _)
   | (with_reducible exact sequencer_Settle.mono _ _ _ _ _)
   | (with_reducible exact LeO.refl _)
   | (with_reducible exact LeO.none _)
   | (with_reducible refine LeO.ite ?_ ?_)
   | (with_reducible refine LeO.bind ?_ (fun _ => ?_))
   | exact ih0 _ _ _ _ _
   | exact ih1 _ _ _ _ _ _ _ _ _
   | exact ih2 _ _ _ _ _ _ _ _ _
   | exact plenumlaw21_awake.mono _
   | exact plenumref21_Check.mono _ _ _
   | exact plenumref21_Settle.mono _ _ _ _ _
   | exact plenumref21_State.mono _ _ _ _
   | exact sequencer_Settle.mono _ _ _ _ _
   | exact LeO.none _
   | refine LeO.ite ?_ ?_
   | refine LeO.bind ?_ (fun _ => ?_)
  ·
   intro y0 y1 y2 y3 y4 y5 y6 y7 y8
   unfold plenumlaw21_SequencerSettles.j1
   repeat' first
   | (with_reducible exact ih0 _ _ _ _ _)
   | (with_reducible exact ih1 _ _ _ _ _ _ _ _ _)
   | (with_reducible exact ih2 _ _ _ _ _ _ _ _ _)
   | (with_reducible exact plenumlaw21_awake.mono _)
   | (with_reducible exact plenumref21_Check.mono _ _ _)
   | (with_reducible exact plenumref21_Settle.mono _ _ _ _ _)
   | (with_reducible exact plenumref21_State.mono _ _ _ _)
   | (with_reducible exact sequencer_Settle.mono _ _ _ _ _)
   | (with_reducible exact LeO.refl _)
   | (with_reducible exact LeO.none _)
   | (with_reducible refine LeO.ite ?_ ?_)
   | (with_reducible refine LeO.bind ?_ (fun _ => ?_))
   | exact ih0 _ _ _ _ _
   | exact ih1 _ _ _ _ _ _ _ _ _
   | exact ih2 _ _ _ _ _ _ _ _ _
   | exact plenumlaw21_awake.mono _
   | exact plenumref21_Check.mono _ _ _
   | exact plenumref21_Settle.mono _ _ _ _ _
   | exact plenumref21_State.mono _ _ _ _
   | exact sequencer_Settle.mono _ _ _ _ _
   | exact LeO.none _
   | refine LeO.ite ?_ ?_
   | refine LeO.bind ?_ (fun _ => ?_)
  ·
   intro y0 y1 y2 y3 y4 y5 y6 y7 y8
   unfold plenumlaw21_SequencerSettles.j2
   repeat' first
   | (with_reducible exact ih0 _ _ _ _ _)
   | (with_reducible exact ih1 _ _ _ _ _ _ _ _ _)
   | (with_reducible exact ih2 _ _ _ _ _ _ _ _ _)
   | (with_reducible exact plenumlaw21_awake.mono _)
   | (with_reducible exact plenumref21_Check.mono _ _ _)
   | (with_reducible exact plenumref21_Settle.mono _ _ _ _ _)
   | (with_reducible exact plenumref21_State.mono _ _ _ _)
   | (with_reducible exact sequencer_Settle.mono _ _ _ _ _)
   | (with_reducible exact LeO.refl _)
   | (with_reducible exact LeO.none _)
   | (with_reducible refine LeO.ite ?_ ?_)
   | (with_reducible refine LeO.bind ?_ (fun _ => ?_))
   | exact ih0 _ _ _ _ _
   | exact ih1 _ _ _ _ _ _ _ _ _
   | exact ih2 _ _ _ _ _ _ _ _ _
   | exact plenumlaw21_awake.mono _
   | exact plenumref21_Check.mono _ _ _
   | exact plenumref21_Settle.mono _ _ _ _ _
   | exact plenumref21_State.mono _ _ _ _
   | exact sequencer_Settle.mono _ _ _ _ _
   | exact LeO.none _
   | refine LeO.ite ?_ ?_
   | refine LeO.bind ?_ (fun _ => ?_)
theorem plenumlaw21_SequencerSettles.mono : ∀ a0 a1 a2 a3 k, LeO (plenumlaw21_SequencerSettles.f k a0 a1 a2 a3) (plenumlaw21_SequencerSettles.f (k + 1) a0 a1 a2 a3) := by
 intro a0 a1 a2 a3 k
 obtain ⟨ih0, ih1, ih2⟩ := plenumlaw21_SequencerSettles.mono_l k
 unfold plenumlaw21_SequencerSettles.f
 repeat' first
   | (with_reducible exact ih0 _ _ _ _ _)
   | (with_reducible exact ih1 _ _ _ _ _ _ _ _ _)
   | (with_reducible exact ih2 _ _ _ _ _ _ _ _ _)
   | (with_reducible exact plenumlaw21_awake.mono _)
   | (with_reducible exact plenumref21_Check.mono _ _ _)
   | (with_reducible exact plenumref21_Settle.mono _ _ _ _ _)
   | (with_reducible exact plenumref21_State.mono _ _ _ _)
   | (with_reducible exact sequencer_Settle.mono _ _ _ _ _)
   | (with_reducible exact LeO.refl _)
   | (with_reducible exact LeO.none _)
   | (with_reducible refine LeO.ite ?_ ?_)
   | (with_reducible refine LeO.bind ?_ (fun _ => ?_))
   | exact ih0 _ _ _ _ _
   | exact ih1 _ _ _ _ _ _ _ _ _
   | exact ih2 _ _ _ _ _ _ _ _ _
   | exact plenumlaw21_awake.mono _
   | exact plenumref21_Check.mono _ _ _
   | exact plenumref21_Settle.mono _ _ _ _ _
   | exact plenumref21_State.mono _ _ _ _
   | exact sequencer_Settle.mono _ _ _ _ _
   | exact LeO.none _
   | refine LeO.ite ?_ ?_
   | refine LeO.bind ?_ (fun _ => ?_)
set_option maxHeartbeats 8000000 in
set_option maxRecDepth 100000 in
theorem plenumlaw21_SequencerSettles.calls (k : Nat) (A0 : Option Addr) (c0 : Nat) (l0 : List Int) (A1 : Option Addr) (c1 : Nat) (l1 : List Int) (a2 : Int) (a3 : Int) (r : Bool) (w : World) (hr0 : Kd.C (Kd.int .i64) w A0 l0.length l0) (hc0 : l0.length ≤ c0) (hr1 : Kd.C (Kd.int .i64) w A1 l1.length l1) (hc1 : l1.length ≤ c1) (hG : GW w) (h : plenumlaw21_SequencerSettles.f k l0 l1 a2 a3 = some r) :
  Calls Tryd.prog 4 #[.slice A0 l0.length c0, .slice A1 l1.length c1, .int .i64 a2, .int .i64 a3] w fun e w' => e = .returned (.bool r) ∧ Below w.heap.size w w' := by
 have HG := Aside0.mk hG
 clear hG
 have HR0 := Aside0.mk hr0
 have HC0 := Aside0.mk hc0
 clear hr0 hc0
 have HR1 := Aside0.mk hr1
 have HC1 := Aside0.mk hc1
 clear hr1 hc1
 have HB := Aside0.mk (Below.refl w.heap.size w)
 have H : ((plenumlaw21_awake.f k).bind fun t694 => (if t694 = true then ((plenumlaw21_few.f l0).bind fun t695 => (if t695 = true then ((plenumlaw21_few.f l1).bind fun t696 => (if t696 = true then (if a3 > 0 then (plenumlaw21_SequencerSettles.j0 k l0 l1 a2 a3 (decide (a3 < 600))) else (plenumlaw21_SequencerSettles.j0 k l0 l1 a2 a3 false)) else (plenumlaw21_SequencerSettles.j0 k l0 l1 a2 a3 true))) else (plenumlaw21_SequencerSettles.j0 k l0 l1 a2 a3 true))) else (none))) = some r := h
 clear h
 replace H := Option.bind_eq_some_iff.mp H
 obtain ⟨t694, A50, H⟩ := H
 replace H : (if t694 = true then ((plenumlaw21_few.f l0).bind fun t695 => (if t695 = true then ((plenumlaw21_few.f l1).bind fun t696 => (if t696 = true then (if a3 > 0 then (plenumlaw21_SequencerSettles.j0 k l0 l1 a2 a3 (decide (a3 < 600))) else (plenumlaw21_SequencerSettles.j0 k l0 l1 a2 a3 false)) else (plenumlaw21_SequencerSettles.j0 k l0 l1 a2 a3 true))) else (plenumlaw21_SequencerSettles.j0 k l0 l1 a2 a3 true))) else (none)) = some r := H
 have A5 := Aside0.mk A50
 clear A50
 by_cases c6 : t694 = true
 ·
  subst c6
  have H1 : ((plenumlaw21_few.f l0).bind fun t695 => (if t695 = true then ((plenumlaw21_few.f l1).bind fun t696 => (if t696 = true then (if a3 > 0 then (plenumlaw21_SequencerSettles.j0 k l0 l1 a2 a3 (decide (a3 < 600))) else (plenumlaw21_SequencerSettles.j0 k l0 l1 a2 a3 false)) else (plenumlaw21_SequencerSettles.j0 k l0 l1 a2 a3 true))) else (plenumlaw21_SequencerSettles.j0 k l0 l1 a2 a3 true))) = some r := by rw [if_pos rfl] at H; exact H
  clear H
  have H := H1
  clear H1
  have HC7 := Aside0.mk H
  clear H
  go_enter Tryd.func4, Tryd.ntmps4
  go_upto_region 3 with (first | ((with_reducible refine gate_callee (f := 9) rfl ?_); refine goesL_ (some 15) rfl rfl Tryd.func9 (by kernel_rfl) rfl #[] rfl (by (try simp only [List.map_toArray, List.map_cons, List.map_nil]); first | done | rfl | (simp only [List.length_drop, List.length_take]; rfl)) ?_; (with_reducible refine (plenumlaw21_awake.calls k  true _ ?side1 A5.out).mono ?_); (case side1 => exact GW.below HG.out bl); rintro e w8 ⟨rfl, hb⟩; refine ⟨_, rfl, ?_⟩; have n0_ := Aside0.mk (below_step bl hb); clear HB; have HB := n0_; clear n0_; (try clear hb); (try clear hb2); (try clear hk); (try clear hi)))
  (try simp only [Act.put, List.setIfInBounds_toArray, List.set_cons_zero, List.set_cons_succ])
  go_cut [32] (fun v32 wc => ∃ (kq : Nat) (x32_6 : Bool), v32 = .bool x32_6 ∧ Aside0 (plenumlaw21_SequencerSettles.j0 kq l0 l1 a2 a3 x32_6 = some r) ∧ Aside0 (kq ≤ k) ∧ Aside0 (Below w.heap.size w wc))
  case first =>
   have H := HC7.out
   clear HC7
   replace H := Option.bind_eq_some_iff.mp H
   obtain ⟨t695, A90, H⟩ := H
   replace H : (if t695 = true then ((plenumlaw21_few.f l1).bind fun t696 => (if t696 = true then (if a3 > 0 then (plenumlaw21_SequencerSettles.j0 k l0 l1 a2 a3 (decide (a3 < 600))) else (plenumlaw21_SequencerSettles.j0 k l0 l1 a2 a3 false)) else (plenumlaw21_SequencerSettles.j0 k l0 l1 a2 a3 true))) else (plenumlaw21_SequencerSettles.j0 k l0 l1 a2 a3 true)) = some r := H
   have A9 := Aside0.mk A90
   clear A90
   by_cases c10 : t695 = true
   ·
    subst c10
    have H1 : ((plenumlaw21_few.f l1).bind fun t696 => (if t696 = true then (if a3 > 0 then (plenumlaw21_SequencerSettles.j0 k l0 l1 a2 a3 (decide (a3 < 600))) else (plenumlaw21_SequencerSettles.j0 k l0 l1 a2 a3 false)) else (plenumlaw21_SequencerSettles.j0 k l0 l1 a2 a3 true))) = some r := by rw [if_pos rfl] at H; exact H
    clear H
    have H := H1
    clear H1
    replace H := Option.bind_eq_some_iff.mp H
    obtain ⟨t696, A110, H⟩ := H
    replace H : (if t696 = true then (if a3 > 0 then (plenumlaw21_SequencerSettles.j0 k l0 l1 a2 a3 (decide (a3 < 600))) else (plenumlaw21_SequencerSettles.j0 k l0 l1 a2 a3 false)) else (plenumlaw21_SequencerSettles.j0 k l0 l1 a2 a3 true)) = some r := H
    have A11 := Aside0.mk A110
    clear A110
    by_cases c12 : t696 = true
    ·
     subst c12
     have H1 : (if a3 > 0 then (plenumlaw21_SequencerSettles.j0 k l0 l1 a2 a3 (decide (a3 < 600))) else (plenumlaw21_SequencerSettles.j0 k l0 l1 a2 a3 false)) = some r := by rw [if_pos rfl] at H; exact H
     clear H
     have H := H1
     clear H1
     by_cases c13 : a3 > 0
     ·
      rw [if_pos c13] at H
      have c13b0 : decide (0 < a3) = true := decide_eq_true c13
      clear c13
      (first | rw [c13b0] | (simp only [i64_w, i32_w]; rw [c13b0]) | skip)
      have H' := Aside0.mk H
      clear H
      go_wp2_with (first | ((with_reducible refine gate_callee (f := 10) rfl ?_); refine goesL_ (some 18) rfl rfl Tryd.func10 (by kernel_rfl) rfl #[.slice A0 l0.length c0] rfl (by (try simp only [List.map_toArray, List.map_cons, List.map_nil]); first | done | rfl | (simp only [List.length_drop, List.length_take]; rfl)) ?_; (with_reducible refine (plenumlaw21_few.calls _ _ l0 true _ ?side1 ?side2 A9.out).mono ?_); (case side1 => repeat (first | exact (Kd.C_below HR0.out HB.out) | (with_reducible refine Kd.C_alloc ?_ _) | (with_reducible refine Kd.C_drewN ?_ _) | (with_reducible refine Kd.C_drew ?_))); (case side2 => exact HC0.out); rintro e w' ⟨rfl, ⟨nd, rfl⟩⟩; refine ⟨_, rfl, ?_⟩) | (go_at_call 10; (with_reducible refine (plenumlaw21_few.calls _ _ l1 true _ ?side1 ?side2 A11.out).mono ?_); (case side1 => repeat (first | exact (Kd.C_below HR1.out bl) | (with_reducible refine Kd.C_alloc ?_ _) | (with_reducible refine Kd.C_drewN ?_ _) | (with_reducible refine Kd.C_drew ?_))); (case side2 => exact HC1.out); rintro e w' ⟨rfl, ⟨nd, rfl⟩⟩))
      go_meet
      case rel => exact ⟨_, (decide (a3 < 600)), (by first | rfl | (simp; done) | (simp [*]; done)), H', ⟨by first | omega | exact Nat.le_refl _⟩, ⟨bl⟩⟩
     ·
      rw [if_neg c13] at H
      have c13b0 : decide (0 < a3) = false := decide_eq_false c13
      clear c13
      (first | rw [c13b0] | (simp only [i64_w, i32_w]; rw [c13b0]) | skip)
      have H' := Aside0.mk H
      clear H
      go_wp2_with (first | ((with_reducible refine gate_callee (f := 10) rfl ?_); refine goesL_ (some 18) rfl rfl Tryd.func10 (by kernel_rfl) rfl #[.slice A0 l0.length c0] rfl (by (try simp only [List.map_toArray, List.map_cons, List.map_nil]); first | done | rfl | (simp only [List.length_drop, List.length_take]; rfl)) ?_; (with_reducible refine (plenumlaw21_few.calls _ _ l0 true _ ?side1 ?side2 A9.out).mono ?_); (case side1 => repeat (first | exact (Kd.C_below HR0.out HB.out) | (with_reducible refine Kd.C_alloc ?_ _) | (with_reducible refine Kd.C_drewN ?_ _) | (with_reducible refine Kd.C_drew ?_))); (case side2 => exact HC0.out); rintro e w' ⟨rfl, ⟨nd, rfl⟩⟩; refine ⟨_, rfl, ?_⟩) | (go_at_call 10; (with_reducible refine (plenumlaw21_few.calls _ _ l1 true _ ?side1 ?side2 A11.out).mono ?_); (case side1 => repeat (first | exact (Kd.C_below HR1.out bl) | (with_reducible refine Kd.C_alloc ?_ _) | (with_reducible refine Kd.C_drewN ?_ _) | (with_reducible refine Kd.C_drew ?_))); (case side2 => exact HC1.out); rintro e w' ⟨rfl, ⟨nd, rfl⟩⟩))
      go_meet
      case rel => exact ⟨_, (false), (by first | rfl | (simp; done) | (simp [*]; done)), H', ⟨by first | omega | exact Nat.le_refl _⟩, ⟨bl⟩⟩
    ·
     replace c12 := Bool.eq_false_iff.mpr c12
     subst c12
     have H1 : (plenumlaw21_SequencerSettles.j0 k l0 l1 a2 a3 true) = some r := by rw [if_neg (show ¬ (false = true) by decide)] at H; exact H
     clear H
     have H := H1
     clear H1
     have H' := Aside0.mk H
     clear H
     go_wp2_with (first | ((with_reducible refine gate_callee (f := 10) rfl ?_); refine goesL_ (some 18) rfl rfl Tryd.func10 (by kernel_rfl) rfl #[.slice A0 l0.length c0] rfl (by (try simp only [List.map_toArray, List.map_cons, List.map_nil]); first | done | rfl | (simp only [List.length_drop, List.length_take]; rfl)) ?_; (with_reducible refine (plenumlaw21_few.calls _ _ l0 true _ ?side1 ?side2 A9.out).mono ?_); (case side1 => repeat (first | exact (Kd.C_below HR0.out HB.out) | (with_reducible refine Kd.C_alloc ?_ _) | (with_reducible refine Kd.C_drewN ?_ _) | (with_reducible refine Kd.C_drew ?_))); (case side2 => exact HC0.out); rintro e w' ⟨rfl, ⟨nd, rfl⟩⟩; refine ⟨_, rfl, ?_⟩) | (go_at_call 10; (with_reducible refine (plenumlaw21_few.calls _ _ l1 false _ ?side1 ?side2 A11.out).mono ?_); (case side1 => repeat (first | exact (Kd.C_below HR1.out bl) | (with_reducible refine Kd.C_alloc ?_ _) | (with_reducible refine Kd.C_drewN ?_ _) | (with_reducible refine Kd.C_drew ?_))); (case side2 => exact HC1.out); rintro e w' ⟨rfl, ⟨nd, rfl⟩⟩))
     go_meet
     case rel => exact ⟨_, (true), (by first | rfl | (simp; done) | (simp [*]; done)), H', ⟨by first | omega | exact Nat.le_refl _⟩, ⟨bl⟩⟩
   ·
    replace c10 := Bool.eq_false_iff.mpr c10
    subst c10
    have H1 : (plenumlaw21_SequencerSettles.j0 k l0 l1 a2 a3 true) = some r := by rw [if_neg (show ¬ (false = true) by decide)] at H; exact H
    clear H
    have H := H1
    clear H1
    have H' := Aside0.mk H
    clear H
    go_wp2_with (first | ((with_reducible refine gate_callee (f := 10) rfl ?_); refine goesL_ (some 18) rfl rfl Tryd.func10 (by kernel_rfl) rfl #[.slice A0 l0.length c0] rfl (by (try simp only [List.map_toArray, List.map_cons, List.map_nil]); first | done | rfl | (simp only [List.length_drop, List.length_take]; rfl)) ?_; (with_reducible refine (plenumlaw21_few.calls _ _ l0 false _ ?side1 ?side2 A9.out).mono ?_); (case side1 => repeat (first | exact (Kd.C_below HR0.out HB.out) | (with_reducible refine Kd.C_alloc ?_ _) | (with_reducible refine Kd.C_drewN ?_ _) | (with_reducible refine Kd.C_drew ?_))); (case side2 => exact HC0.out); rintro e w' ⟨rfl, ⟨nd, rfl⟩⟩; refine ⟨_, rfl, ?_⟩))
    go_meet
    case rel => exact ⟨_, (true), (by first | rfl | (simp; done) | (simp [*]; done)), H', ⟨by first | omega | exact Nat.le_refl _⟩, ⟨bl⟩⟩
  case rest =>
   clear HC7
   try clear c1
   try clear p2
   try clear c4
   try clear c6
   try clear c9
   try clear c10
   try clear c12
   try clear c13
   try clear c13b0
   obtain ⟨kq, x32_6, rfl, HA, HJ6, HB⟩ := hcut
   cases kq with
   | zero => exact absurd HA.out (by simp [plenumlaw21_SequencerSettles.j0])
   | succ kj6 =>
    have H := HA.out
    clear HA
    simp only [plenumlaw21_SequencerSettles.j0] at H
    by_cases c14 : x32_6 = true
    ·
     subst c14
     have H1 : (some true) = some r := by rw [if_pos rfl] at H; exact H
     clear H
     have H := H1
     clear H1
     obtain rfl := Option.some.inj H
     go_wp2
     go_ret
     exact ⟨by first | rfl | (simp [errW_none, errW_some] <;> rfl) | (simp [*, errW_none, errW_some] <;> rfl), bl⟩
    ·
     replace c14 := Bool.eq_false_iff.mpr c14
     subst c14
     have H1 : ((sequencer_Settle.f kj6 l0 l1 a2 a3).bind fun bt697 => ((plenumref21_Check.f kj6 (⟨#[115, 116, 97, 103, 101]⟩ : ByteArray) l0).bind fun t700 => (if t700 = 0 then ((plenumref21_Time.f a3).bind fun t701 => (if t701 = true then ((plenumref21_State.f kj6 (⟨#[115, 116, 97, 103, 101]⟩ : ByteArray) l0 l1).bind fun t702 => (if t702 = true then (if a2 < (-1000000000000) then (plenumlaw21_SequencerSettles.j1 kj6 l0 l1 a2 a3 bt697.1 bt697.2.1 bt697.2.2 t700 true) else (plenumlaw21_SequencerSettles.j1 kj6 l0 l1 a2 a3 bt697.1 bt697.2.1 bt697.2.2 t700 (decide (a2 > 1000000000000)))) else (if bt697.2.2 = 8 then (if bt697.1 = 0 then (some (bt697.2.1 == 0)) else (none)) else (none)))) else (if bt697.2.2 = 1 then (if bt697.1 = 0 then (some (bt697.2.1 == 0)) else (none)) else (none)))) else (if bt697.2.2 = t700 then (if bt697.1 = 0 then (some (bt697.2.1 == 0)) else (none)) else (none))))) = some r := by rw [if_neg (show ¬ (false = true) by decide)] at H; exact H
     clear H
     have H := H1
     clear H1
     replace H := Option.bind_eq_some_iff.mp H
     obtain ⟨⟨t697, t698, t699⟩, A150, H⟩ := H
     replace H : ((plenumref21_Check.f kj6 (⟨#[115, 116, 97, 103, 101]⟩ : ByteArray) l0).bind fun t700 => (if t700 = 0 then ((plenumref21_Time.f a3).bind fun t701 => (if t701 = true then ((plenumref21_State.f kj6 (⟨#[115, 116, 97, 103, 101]⟩ : ByteArray) l0 l1).bind fun t702 => (if t702 = true then (if a2 < (-1000000000000) then (plenumlaw21_SequencerSettles.j1 kj6 l0 l1 a2 a3 t697 t698 t699 t700 true) else (plenumlaw21_SequencerSettles.j1 kj6 l0 l1 a2 a3 t697 t698 t699 t700 (decide (a2 > 1000000000000)))) else (if t699 = 8 then (if t697 = 0 then (some (t698 == 0)) else (none)) else (none)))) else (if t699 = 1 then (if t697 = 0 then (some (t698 == 0)) else (none)) else (none)))) else (if t699 = t700 then (if t697 = 0 then (some (t698 == 0)) else (none)) else (none)))) = some r := H
     have A15 := Aside0.mk A150
     clear A150
     replace H := Option.bind_eq_some_iff.mp H
     obtain ⟨t700, A160, H⟩ := H
     replace H : (if t700 = 0 then ((plenumref21_Time.f a3).bind fun t701 => (if t701 = true then ((plenumref21_State.f kj6 (⟨#[115, 116, 97, 103, 101]⟩ : ByteArray) l0 l1).bind fun t702 => (if t702 = true then (if a2 < (-1000000000000) then (plenumlaw21_SequencerSettles.j1 kj6 l0 l1 a2 a3 t697 t698 t699 t700 true) else (plenumlaw21_SequencerSettles.j1 kj6 l0 l1 a2 a3 t697 t698 t699 t700 (decide (a2 > 1000000000000)))) else (if t699 = 8 then (if t697 = 0 then (some (t698 == 0)) else (none)) else (none)))) else (if t699 = 1 then (if t697 = 0 then (some (t698 == 0)) else (none)) else (none)))) else (if t699 = t700 then (if t697 = 0 then (some (t698 == 0)) else (none)) else (none))) = some r := H
     have A16 := Aside0.mk A160
     clear A160
     by_cases c17 : t700 = 0
     ·
      rw [if_pos c17] at H
      have c17b0 : (t700 == 0) = true := beq_iff_eq.mpr c17
      have c17b1 : (t700 != 0) = false := bne_eq_false_iff_eq.mpr c17
      clear c17
      replace H := Option.bind_eq_some_iff.mp H
      obtain ⟨t701, A180, H⟩ := H
      replace H : (if t701 = true then ((plenumref21_State.f kj6 (⟨#[115, 116, 97, 103, 101]⟩ : ByteArray) l0 l1).bind fun t702 => (if t702 = true then (if a2 < (-1000000000000) then (plenumlaw21_SequencerSettles.j1 kj6 l0 l1 a2 a3 t697 t698 t699 t700 true) else (plenumlaw21_SequencerSettles.j1 kj6 l0 l1 a2 a3 t697 t698 t699 t700 (decide (a2 > 1000000000000)))) else (if t699 = 8 then (if t697 = 0 then (some (t698 == 0)) else (none)) else (none)))) else (if t699 = 1 then (if t697 = 0 then (some (t698 == 0)) else (none)) else (none))) = some r := H
      have A18 := Aside0.mk A180
      clear A180
      by_cases c19 : t701 = true
      ·
       subst c19
       have H1 : ((plenumref21_State.f kj6 (⟨#[115, 116, 97, 103, 101]⟩ : ByteArray) l0 l1).bind fun t702 => (if t702 = true then (if a2 < (-1000000000000) then (plenumlaw21_SequencerSettles.j1 kj6 l0 l1 a2 a3 t697 t698 t699 t700 true) else (plenumlaw21_SequencerSettles.j1 kj6 l0 l1 a2 a3 t697 t698 t699 t700 (decide (a2 > 1000000000000)))) else (if t699 = 8 then (if t697 = 0 then (some (t698 == 0)) else (none)) else (none)))) = some r := by rw [if_pos rfl] at H; exact H
       clear H
       have H := H1
       clear H1
       replace H := Option.bind_eq_some_iff.mp H
       obtain ⟨t702, A200, H⟩ := H
       replace H : (if t702 = true then (if a2 < (-1000000000000) then (plenumlaw21_SequencerSettles.j1 kj6 l0 l1 a2 a3 t697 t698 t699 t700 true) else (plenumlaw21_SequencerSettles.j1 kj6 l0 l1 a2 a3 t697 t698 t699 t700 (decide (a2 > 1000000000000)))) else (if t699 = 8 then (if t697 = 0 then (some (t698 == 0)) else (none)) else (none))) = some r := H
       have A20 := Aside0.mk A200
       clear A200
       by_cases c21 : t702 = true
       ·
        subst c21
        have H1 : (if a2 < (-1000000000000) then (plenumlaw21_SequencerSettles.j1 kj6 l0 l1 a2 a3 t697 t698 t699 t700 true) else (plenumlaw21_SequencerSettles.j1 kj6 l0 l1 a2 a3 t697 t698 t699 t700 (decide (a2 > 1000000000000)))) = some r := by rw [if_pos rfl] at H; exact H
        clear H
        have H := H1
        clear H1
        have HC22 := Aside0.mk H
        clear H
        go_upto_region 12 with (first | ((with_reducible refine gate_callee (f := 16) rfl ?_); refine goesL_ (some 38) rfl rfl Tryd.func16 (by kernel_rfl) rfl #[.slice A0 l0.length c0, .slice A1 l1.length c1, .int .i64 a2, .int .i64 a3] rfl (by (try simp only [List.map_toArray, List.map_cons, List.map_nil]); first | done | rfl | (simp only [List.length_drop, List.length_take]; rfl)) ?_; (with_reducible refine (sequencer_Settle.calls kj6 _ _ l0 (fun k_ => k_ < w.heap.size) _ _ l1 a2 a3 t697 t698 t699 _ ?side1 ?side2 ?side3 ?side4 A15.out).mono ?_); (case side1 => repeat (first | exact (Kd.C_below HR0.out HB.out) | (with_reducible refine Kd.C_alloc ?_ _) | (with_reducible refine Kd.C_drewN ?_ _) | (with_reducible refine Kd.C_drew ?_))); (case side2 => exact HC0.out); (case side3 => exact Kd.V_mk HC1.out (Kd.F_below (Kd.C_F (Kd.heap_int .i64) HR1.out) bl)); (case side4 => exact GW.below HG.out bl); rintro e w23 ⟨rfl, hb⟩; refine ⟨_, rfl, ?_⟩; have n0_ := Aside0.mk (below_step bl hb); clear HB; have HB := n0_; clear n0_; (try clear hb); (try clear hb2); (try clear hk); (try clear hi)) | ((with_reducible refine gate_callee (f := 15) rfl ?_); refine goesL_ (some 43) rfl rfl Tryd.func15 (by kernel_rfl) rfl #[.string (⟨#[115, 116, 97, 103, 101]⟩ : ByteArray), .slice A0 l0.length c0] rfl (by (try simp only [List.map_toArray, List.map_cons, List.map_nil]); first | done | rfl | (simp only [List.length_drop, List.length_take]; rfl)) ?_; (with_reducible refine (plenumref21_Check.calls kj6 (⟨#[115, 116, 97, 103, 101]⟩ : ByteArray) _ _ l0 t700 _ ?side1 ?side2 A16.out).mono ?_); (case side1 => repeat (first | exact (Kd.C_below HR0.out HB.out) | (with_reducible refine Kd.C_alloc ?_ _) | (with_reducible refine Kd.C_drewN ?_ _) | (with_reducible refine Kd.C_drew ?_))); (case side2 => exact HC0.out); rintro e w24 ⟨rfl, hb⟩; refine ⟨_, rfl, ?_⟩; have n0_ := Aside0.mk (below_step bl hb); clear HB; have HB := n0_; clear n0_; (try clear hb); (try clear hb2); (try clear hk); (try clear hi)) | ((with_reducible refine gate_callee (f := 17) rfl ?_); refine goesL_ (some 49) rfl rfl Tryd.func17 (by kernel_rfl) rfl #[.int .i64 a3] rfl (by (try simp only [List.map_toArray, List.map_cons, List.map_nil]); first | done | rfl | (simp only [List.length_drop, List.length_take]; rfl)) ?_; (with_reducible refine (plenumref21_Time.calls a3 true _ A18.out).mono ?_); rintro e w' ⟨rfl, ⟨nd, rfl⟩⟩; refine ⟨_, rfl, ?_⟩) | ((with_reducible refine gate_callee (f := 18) rfl ?_); refine goesL_ (some 54) rfl rfl Tryd.func18 (by kernel_rfl) rfl #[.string (⟨#[115, 116, 97, 103, 101]⟩ : ByteArray), .slice A0 l0.length c0, .slice A1 l1.length c1] rfl (by (try simp only [List.map_toArray, List.map_cons, List.map_nil]); first | done | rfl | (simp only [List.length_drop, List.length_take]; rfl)) ?_; (with_reducible refine (plenumref21_State.calls kj6 (⟨#[115, 116, 97, 103, 101]⟩ : ByteArray) _ _ l0 _ _ l1 true _ ?side1 ?side2 ?side3 ?side4 A20.out).mono ?_); (case side1 => repeat (first | exact (Kd.C_below HR0.out bl) | (with_reducible refine Kd.C_alloc ?_ _) | (with_reducible refine Kd.C_drewN ?_ _) | (with_reducible refine Kd.C_drew ?_))); (case side2 => exact HC0.out); (case side3 => repeat (first | exact (Kd.C_below HR1.out bl) | (with_reducible refine Kd.C_alloc ?_ _) | (with_reducible refine Kd.C_drewN ?_ _) | (with_reducible refine Kd.C_drew ?_))); (case side4 => exact HC1.out); rintro e w' ⟨rfl, ⟨nd, rfl⟩⟩; refine ⟨_, rfl, ?_⟩))
        (try simp only [Act.put, List.setIfInBounds_toArray, List.set_cons_zero, List.set_cons_succ])
        go_cut [56] (fun v56 wc => ∃ (kq : Nat) (x56_21 : Bool), v56 = .bool x56_21 ∧ Aside0 (plenumlaw21_SequencerSettles.j1 kq l0 l1 a2 a3 t697 t698 t699 t700 x56_21 = some r) ∧ Aside0 (kq ≤ kj6) ∧ Aside0 (Below w.heap.size w wc))
        case first =>
         have H := HC22.out
         clear HC22
         by_cases c25 : a2 < (-1000000000000)
         ·
          rw [if_pos c25] at H
          have c25b0 : decide (a2 < (-1000000000000)) = true := decide_eq_true c25
          clear c25
          (first | rw [c25b0] | (simp only [i64_w, i32_w]; rw [c25b0]) | skip)
          have H' := Aside0.mk H
          clear H
          go_wp2
          go_meet
          case rel => exact ⟨_, (true), (by first | rfl | (simp; done) | (simp [*]; done)), H', ⟨by have := HJ6.out; first | omega | exact Nat.le_refl _⟩, ⟨bl⟩⟩
         ·
          rw [if_neg c25] at H
          have c25b0 : decide (a2 < (-1000000000000)) = false := decide_eq_false c25
          clear c25
          (first | rw [c25b0] | (simp only [i64_w, i32_w]; rw [c25b0]) | skip)
          have H' := Aside0.mk H
          clear H
          go_wp2
          go_meet
          case rel => exact ⟨_, (decide (a2 > 1000000000000)), (by first | rfl | (simp; done) | (simp [*]; done)), H', ⟨by have := HJ6.out; first | omega | exact Nat.le_refl _⟩, ⟨bl⟩⟩
        case rest =>
         clear HC22
         try clear c1
         try clear c2
         try clear p2
         try clear c4
         try clear c6
         try clear c9
         try clear c10
         try clear c12
         try clear c13
         try clear c13b0
         try clear c14
         try clear c15
         try clear c16
         try clear c17
         try clear c17b0
         try clear c17b1
         try clear c18
         try clear c19
         try clear c21
         try clear c25
         try clear c25b0
         try clear p2
         obtain ⟨kq, x56_21, rfl, HA, HJ21, HB⟩ := hcut
         cases kq with
         | zero => exact absurd HA.out (by simp [plenumlaw21_SequencerSettles.j1])
         | succ kj21 =>
          have H := HA.out
          clear HA
          simp only [plenumlaw21_SequencerSettles.j1] at H
          by_cases c26 : x56_21 = true
          ·
           subst c26
           have H1 : (if t699 = 6 then (if t697 = 0 then (some (t698 == 0)) else (none)) else (none)) = some r := by rw [if_pos rfl] at H; exact H
           clear H
           have H := H1
           clear H1
           by_cases c27 : t699 = 6
           ·
            rw [if_pos c27] at H
            have c27b0 : (t699 == 6) = true := beq_iff_eq.mpr c27
            have c27b1 : (t699 != 6) = false := bne_eq_false_iff_eq.mpr c27
            clear c27
            by_cases c28 : t697 = 0
            ·
             rw [if_pos c28] at H
             have c28b0 : (t697 == 0) = true := beq_iff_eq.mpr c28
             have c28b1 : (t697 != 0) = false := bne_eq_false_iff_eq.mpr c28
             clear c28
             obtain rfl := Option.some.inj H
             go_wp2
             go_ret
             exact ⟨by first | rfl | (simp [errW_none, errW_some] <;> rfl) | (simp [*, errW_none, errW_some] <;> rfl), bl⟩
            ·
             rw [if_neg c28] at H
             exact absurd H (by simp)
           ·
            rw [if_neg c27] at H
            exact absurd H (by simp)
          ·
           replace c26 := Bool.eq_false_iff.mpr c26
           subst c26
           have H1 : (if 1 < (l0.length : Int) then (if a2 > (rd l0 1) then (if 2 < (l0.length : Int) then (plenumlaw21_SequencerSettles.j2 kj21 l0 l1 a2 a3 t697 t698 t699 t700 (decide (a2 < (rd l0 2)))) else (none)) else (plenumlaw21_SequencerSettles.j2 kj21 l0 l1 a2 a3 t697 t698 t699 t700 false)) else (none)) = some r := by rw [if_neg (show ¬ (false = true) by decide)] at H; exact H
           clear H
           have H := H1
           clear H1
           have HC29 := Aside0.mk H
           clear H
           go_upto_region 14 with (fail)
           go_cut [63] (fun v63 wc => ∃ (kq : Nat) (x63_28 : Bool), v63 = .bool x63_28 ∧ Aside0 (plenumlaw21_SequencerSettles.j2 kq l0 l1 a2 a3 t697 t698 t699 t700 x63_28 = some r) ∧ Aside0 (kq ≤ kj21) ∧ Aside0 (Below w.heap.size w wc))
           case first =>
            have H := HC29.out
            clear HC29
            by_cases c30 : 1 < (l0.length : Int)
            ·
             rw [if_pos c30] at H
             have c30b0 : decide (1 < (l0.length : Int)) = true := decide_eq_true c30
             have c30b1 : decide (1 < l0.length) = true := decide_eq_true (by omega)
             clear c30
             (first | rw [c30b0] | (simp only [i64_w, i32_w]; rw [c30b0]) | skip)
             by_cases c31 : a2 > (rd l0 1)
             ·
              rw [if_pos c31] at H
              have c31b0 : decide ((rd l0 1) < a2) = true := decide_eq_true c31
              clear c31
              by_cases c32 : 2 < (l0.length : Int)
              ·
               rw [if_pos c32] at H
               have c32b0 : decide (2 < (l0.length : Int)) = true := decide_eq_true c32
               have c32b1 : decide (2 < l0.length) = true := decide_eq_true (by omega)
               clear c32
               have H' := Aside0.mk H
               clear H
               have p703 : 0 ≤ (1 : Int) := (by omega)
               have q703 : 1 < (l0.length : Int) := of_decide_eq_true (by first | (with_reducible assumption) | assumption)
               obtain ⟨ad703, e703, hx703_0⟩ := Kd.at_int HR0.out 1 p703 q703
               cases e703
               (try simp only [show (1 : Int).toNat = 1 from rfl, Nat.reduceMul, Nat.reduceEqDiff, Go.Addr.add, ↓reduceIte] at hx703_0)
               have qi703 : (1 < l0.length) = True := eq_true (by omega)
               (try rw [show ((1 : Int)).toNat = 1 from rfl] at hx703_0)
               replace hx703_0 := (HB.out.cell (World.block_lt_of_cell? w _ hx703_0)).trans hx703_0
               replace p703 := eq_true p703
               replace q703 := eq_true q703
               have p704 : 0 ≤ (2 : Int) := (by omega)
               have q704 : 2 < (l0.length : Int) := of_decide_eq_true (by first | (with_reducible assumption) | assumption)
               obtain ⟨ad704, e704, hx704_0⟩ := Kd.at_int HR0.out 2 p704 q704
               obtain rfl : ad703 = ad704 := (by injection e704)
               (try simp only [show (2 : Int).toNat = 2 from rfl, Nat.reduceMul, Nat.reduceEqDiff, Go.Addr.add, ↓reduceIte] at hx704_0)
               have qi704 : (2 < l0.length) = True := eq_true (by omega)
               (try rw [show ((2 : Int)).toNat = 2 from rfl] at hx704_0)
               replace hx704_0 := (HB.out.cell (World.block_lt_of_cell? w _ hx704_0)).trans hx704_0
               replace p704 := eq_true p704
               replace q704 := eq_true q704
               go_wp2
               go_meet
               case rel => exact ⟨_, (decide (a2 < (rd l0 2))), (by first | rfl | (simp; done) | (simp [*]; done)), H', ⟨by have := HJ6.out; have := HJ21.out; first | omega | exact Nat.le_refl _⟩, ⟨bl⟩⟩
              ·
               rw [if_neg c32] at H
               exact absurd H (by simp)
             ·
              rw [if_neg c31] at H
              have c31b0 : decide ((rd l0 1) < a2) = false := decide_eq_false c31
              clear c31
              have H' := Aside0.mk H
              clear H
              have p703 : 0 ≤ (1 : Int) := (by omega)
              have q703 : 1 < (l0.length : Int) := of_decide_eq_true (by first | (with_reducible assumption) | assumption)
              obtain ⟨ad703, e703, hx703_0⟩ := Kd.at_int HR0.out 1 p703 q703
              cases e703
              (try simp only [show (1 : Int).toNat = 1 from rfl, Nat.reduceMul, Nat.reduceEqDiff, Go.Addr.add, ↓reduceIte] at hx703_0)
              have qi703 : (1 < l0.length) = True := eq_true (by omega)
              (try rw [show ((1 : Int)).toNat = 1 from rfl] at hx703_0)
              replace hx703_0 := (HB.out.cell (World.block_lt_of_cell? w _ hx703_0)).trans hx703_0
              replace p703 := eq_true p703
              replace q703 := eq_true q703
              go_wp2
              go_meet
              case rel => exact ⟨_, (false), (by first | rfl | (simp; done) | (simp [*]; done)), H', ⟨by have := HJ6.out; have := HJ21.out; first | omega | exact Nat.le_refl _⟩, ⟨bl⟩⟩
            ·
             rw [if_neg c30] at H
             exact absurd H (by simp)
           case rest =>
            clear HC29
            try clear c1
            try clear c2
            try clear p2
            try clear c3
            try clear c4
            try clear c6
            try clear p7
            try clear q7
            try clear hx7
            try clear qi7
            try clear c9
            try clear c10
            try clear c12
            try clear c13
            try clear c13b0
            try clear c14
            try clear c15
            try clear c16
            try clear c17
            try clear c17b0
            try clear c17b1
            try clear c18
            try clear c19
            try clear c21
            try clear c25
            try clear c25b0
            try clear c26
            try clear c27
            try clear c27b0
            try clear c27b1
            try clear c28
            try clear c28b0
            try clear c28b1
            try clear c30
            try clear c30b0
            try clear c30b1
            try clear c31
            try clear c31b0
            try clear c32
            try clear c32b0
            try clear c32b1
            try clear hx703_0
            try clear hx704_0
            try clear p2
            try clear p703
            try clear p704
            try clear q703
            try clear q704
            obtain ⟨kq, x63_28, rfl, HA, HJ28, HB⟩ := hcut
            cases kq with
            | zero => exact absurd HA.out (by simp [plenumlaw21_SequencerSettles.j2])
            | succ kj28 =>
             have H := HA.out
             clear HA
             simp only [plenumlaw21_SequencerSettles.j2] at H
             by_cases c33 : x63_28 = true
             ·
              subst c33
              have H1 : (if t699 = 10 then (if t697 = 0 then (some (t698 == 0)) else (none)) else (none)) = some r := by rw [if_pos rfl] at H; exact H
              clear H
              have H := H1
              clear H1
              by_cases c34 : t699 = 10
              ·
               rw [if_pos c34] at H
               have c34b0 : (t699 == 10) = true := beq_iff_eq.mpr c34
               have c34b1 : (t699 != 10) = false := bne_eq_false_iff_eq.mpr c34
               clear c34
               by_cases c35 : t697 = 0
               ·
                rw [if_pos c35] at H
                have c35b0 : (t697 == 0) = true := beq_iff_eq.mpr c35
                have c35b1 : (t697 != 0) = false := bne_eq_false_iff_eq.mpr c35
                clear c35
                obtain rfl := Option.some.inj H
                go_wp2
                go_ret
                exact ⟨by first | rfl | (simp [errW_none, errW_some] <;> rfl) | (simp [*, errW_none, errW_some] <;> rfl), bl⟩
               ·
                rw [if_neg c35] at H
                exact absurd H (by simp)
              ·
               rw [if_neg c34] at H
               exact absurd H (by simp)
             ·
              replace c33 := Bool.eq_false_iff.mpr c33
              subst c33
              have H1 : (if t700 = 0 then ((plenumref21_Settle.f kj28 l0 l1 a2 a3).bind fun bt705 => (if t699 = 0 then (if t697 = bt705.1 then (some (t698 == bt705.2)) else (none)) else (none))) else (if t699 = t700 then (if t697 = 0 then (some (t698 == 0)) else (none)) else (none))) = some r := by rw [if_neg (show ¬ (false = true) by decide)] at H; exact H
              clear H
              have H := H1
              clear H1
              by_cases c36 : t700 = 0
              ·
               rw [if_pos c36] at H
               have c36b0 : (t700 == 0) = true := beq_iff_eq.mpr c36
               have c36b1 : (t700 != 0) = false := bne_eq_false_iff_eq.mpr c36
               clear c36
               replace H := Option.bind_eq_some_iff.mp H
               obtain ⟨⟨t705, t706⟩, A370, H⟩ := H
               replace H : (if t699 = 0 then (if t697 = t705 then (some (t698 == t706)) else (none)) else (none)) = some r := H
               have A37 := Aside0.mk A370
               clear A370
               by_cases c38 : t699 = 0
               ·
                rw [if_pos c38] at H
                have c38b0 : (t699 == 0) = true := beq_iff_eq.mpr c38
                have c38b1 : (t699 != 0) = false := bne_eq_false_iff_eq.mpr c38
                clear c38
                by_cases c39 : t697 = t705
                ·
                 rw [if_pos c39] at H
                 have c39b0 : (t697 == t705) = true := beq_iff_eq.mpr c39
                 have c39b1 : (t697 != t705) = false := bne_eq_false_iff_eq.mpr c39
                 clear c39
                 obtain rfl := Option.some.inj H
                 go_wp2_with (first | ((with_reducible refine gate_callee (f := 19) rfl ?_); refine goesL_ (some 94) rfl rfl Tryd.func19 (by kernel_rfl) rfl #[.slice A0 l0.length c0, .slice A1 l1.length c1, .int .i64 a2, .int .i64 a3] rfl (by (try simp only [List.map_toArray, List.map_cons, List.map_nil]); first | done | rfl | (simp only [List.length_drop, List.length_take]; rfl)) ?_; (with_reducible refine (plenumref21_Settle.calls kj28 _ _ l0 (fun k_ => k_ < w.heap.size) _ _ l1 a2 a3 t705 t706 _ ?side1 ?side2 ?side3 A37.out).mono ?_); (case side1 => repeat (first | exact (Kd.C_below HR0.out HB.out) | (with_reducible refine Kd.C_alloc ?_ _) | (with_reducible refine Kd.C_drewN ?_ _) | (with_reducible refine Kd.C_drew ?_))); (case side2 => exact HC0.out); (case side3 => exact Kd.V_mk HC1.out (Kd.F_below (Kd.C_F (Kd.heap_int .i64) HR1.out) bl)); rintro e w40 ⟨rfl, hb⟩; refine ⟨_, rfl, ?_⟩; have n0_ := Aside0.mk (below_step bl hb); clear HB; have HB := n0_; clear n0_; (try clear hb); (try clear hb2); (try clear hk); (try clear hi)))
                 go_ret
                 exact ⟨by first | rfl | (simp [errW_none, errW_some] <;> rfl) | (simp [*, errW_none, errW_some] <;> rfl), bl⟩
                ·
                 rw [if_neg c39] at H
                 exact absurd H (by simp)
               ·
                rw [if_neg c38] at H
                exact absurd H (by simp)
              ·
               rw [if_neg c36] at H
               have c36b0 : (t700 == 0) = false := beq_eq_false_iff_ne.mpr c36
               have c36b1 : (t700 != 0) = true := bne_iff_ne.mpr c36
               by_cases c41 : t699 = t700
               ·
                rw [if_pos c41] at H
                have c41b0 : (t699 == t700) = true := beq_iff_eq.mpr c41
                have c41b1 : (t699 != t700) = false := bne_eq_false_iff_eq.mpr c41
                clear c41
                by_cases c42 : t697 = 0
                ·
                 rw [if_pos c42] at H
                 have c42b0 : (t697 == 0) = true := beq_iff_eq.mpr c42
                 have c42b1 : (t697 != 0) = false := bne_eq_false_iff_eq.mpr c42
                 clear c42
                 obtain rfl := Option.some.inj H
                 go_wp2
                 go_ret
                 exact ⟨by first | rfl | (simp [errW_none, errW_some] <;> rfl) | (simp [*, errW_none, errW_some] <;> rfl), bl⟩
                ·
                 rw [if_neg c42] at H
                 exact absurd H (by simp)
               ·
                rw [if_neg c41] at H
                exact absurd H (by simp)
       ·
        replace c21 := Bool.eq_false_iff.mpr c21
        subst c21
        have H1 : (if t699 = 8 then (if t697 = 0 then (some (t698 == 0)) else (none)) else (none)) = some r := by rw [if_neg (show ¬ (false = true) by decide)] at H; exact H
        clear H
        have H := H1
        clear H1
        by_cases c43 : t699 = 8
        ·
         rw [if_pos c43] at H
         have c43b0 : (t699 == 8) = true := beq_iff_eq.mpr c43
         have c43b1 : (t699 != 8) = false := bne_eq_false_iff_eq.mpr c43
         clear c43
         by_cases c44 : t697 = 0
         ·
          rw [if_pos c44] at H
          have c44b0 : (t697 == 0) = true := beq_iff_eq.mpr c44
          have c44b1 : (t697 != 0) = false := bne_eq_false_iff_eq.mpr c44
          clear c44
          obtain rfl := Option.some.inj H
          go_wp2_with (first | ((with_reducible refine gate_callee (f := 16) rfl ?_); refine goesL_ (some 38) rfl rfl Tryd.func16 (by kernel_rfl) rfl #[.slice A0 l0.length c0, .slice A1 l1.length c1, .int .i64 a2, .int .i64 a3] rfl (by (try simp only [List.map_toArray, List.map_cons, List.map_nil]); first | done | rfl | (simp only [List.length_drop, List.length_take]; rfl)) ?_; (with_reducible refine (sequencer_Settle.calls kj6 _ _ l0 (fun k_ => k_ < w.heap.size) _ _ l1 a2 a3 t697 t698 t699 _ ?side1 ?side2 ?side3 ?side4 A15.out).mono ?_); (case side1 => repeat (first | exact (Kd.C_below HR0.out HB.out) | (with_reducible refine Kd.C_alloc ?_ _) | (with_reducible refine Kd.C_drewN ?_ _) | (with_reducible refine Kd.C_drew ?_))); (case side2 => exact HC0.out); (case side3 => exact Kd.V_mk HC1.out (Kd.F_below (Kd.C_F (Kd.heap_int .i64) HR1.out) bl)); (case side4 => exact GW.below HG.out bl); rintro e w45 ⟨rfl, hb⟩; refine ⟨_, rfl, ?_⟩; have n0_ := Aside0.mk (below_step bl hb); clear HB; have HB := n0_; clear n0_; (try clear hb); (try clear hb2); (try clear hk); (try clear hi)) | ((with_reducible refine gate_callee (f := 15) rfl ?_); refine goesL_ (some 43) rfl rfl Tryd.func15 (by kernel_rfl) rfl #[.string (⟨#[115, 116, 97, 103, 101]⟩ : ByteArray), .slice A0 l0.length c0] rfl (by (try simp only [List.map_toArray, List.map_cons, List.map_nil]); first | done | rfl | (simp only [List.length_drop, List.length_take]; rfl)) ?_; (with_reducible refine (plenumref21_Check.calls kj6 (⟨#[115, 116, 97, 103, 101]⟩ : ByteArray) _ _ l0 t700 _ ?side1 ?side2 A16.out).mono ?_); (case side1 => repeat (first | exact (Kd.C_below HR0.out HB.out) | (with_reducible refine Kd.C_alloc ?_ _) | (with_reducible refine Kd.C_drewN ?_ _) | (with_reducible refine Kd.C_drew ?_))); (case side2 => exact HC0.out); rintro e w46 ⟨rfl, hb⟩; refine ⟨_, rfl, ?_⟩; have n0_ := Aside0.mk (below_step bl hb); clear HB; have HB := n0_; clear n0_; (try clear hb); (try clear hb2); (try clear hk); (try clear hi)) | ((with_reducible refine gate_callee (f := 17) rfl ?_); refine goesL_ (some 49) rfl rfl Tryd.func17 (by kernel_rfl) rfl #[.int .i64 a3] rfl (by (try simp only [List.map_toArray, List.map_cons, List.map_nil]); first | done | rfl | (simp only [List.length_drop, List.length_take]; rfl)) ?_; (with_reducible refine (plenumref21_Time.calls a3 true _ A18.out).mono ?_); rintro e w' ⟨rfl, ⟨nd, rfl⟩⟩; refine ⟨_, rfl, ?_⟩) | ((with_reducible refine gate_callee (f := 18) rfl ?_); refine goesL_ (some 54) rfl rfl Tryd.func18 (by kernel_rfl) rfl #[.string (⟨#[115, 116, 97, 103, 101]⟩ : ByteArray), .slice A0 l0.length c0, .slice A1 l1.length c1] rfl (by (try simp only [List.map_toArray, List.map_cons, List.map_nil]); first | done | rfl | (simp only [List.length_drop, List.length_take]; rfl)) ?_; (with_reducible refine (plenumref21_State.calls kj6 (⟨#[115, 116, 97, 103, 101]⟩ : ByteArray) _ _ l0 _ _ l1 false _ ?side1 ?side2 ?side3 ?side4 A20.out).mono ?_); (case side1 => repeat (first | exact (Kd.C_below HR0.out bl) | (with_reducible refine Kd.C_alloc ?_ _) | (with_reducible refine Kd.C_drewN ?_ _) | (with_reducible refine Kd.C_drew ?_))); (case side2 => exact HC0.out); (case side3 => repeat (first | exact (Kd.C_below HR1.out bl) | (with_reducible refine Kd.C_alloc ?_ _) | (with_reducible refine Kd.C_drewN ?_ _) | (with_reducible refine Kd.C_drew ?_))); (case side4 => exact HC1.out); rintro e w' ⟨rfl, ⟨nd, rfl⟩⟩; refine ⟨_, rfl, ?_⟩))
          go_ret
          exact ⟨by first | rfl | (simp [errW_none, errW_some] <;> rfl) | (simp [*, errW_none, errW_some] <;> rfl), bl⟩
         ·
          rw [if_neg c44] at H
          exact absurd H (by simp)
        ·
         rw [if_neg c43] at H
         exact absurd H (by simp)
      ·
       replace c19 := Bool.eq_false_iff.mpr c19
       subst c19
       have H1 : (if t699 = 1 then (if t697 = 0 then (some (t698 == 0)) else (none)) else (none)) = some r := by rw [if_neg (show ¬ (false = true) by decide)] at H; exact H
       clear H
       have H := H1
       clear H1
       by_cases c47 : t699 = 1
       ·
        rw [if_pos c47] at H
        have c47b0 : (t699 == 1) = true := beq_iff_eq.mpr c47
        have c47b1 : (t699 != 1) = false := bne_eq_false_iff_eq.mpr c47
        clear c47
        by_cases c48 : t697 = 0
        ·
         rw [if_pos c48] at H
         have c48b0 : (t697 == 0) = true := beq_iff_eq.mpr c48
         have c48b1 : (t697 != 0) = false := bne_eq_false_iff_eq.mpr c48
         clear c48
         obtain rfl := Option.some.inj H
         go_wp2_with (first | ((with_reducible refine gate_callee (f := 16) rfl ?_); refine goesL_ (some 38) rfl rfl Tryd.func16 (by kernel_rfl) rfl #[.slice A0 l0.length c0, .slice A1 l1.length c1, .int .i64 a2, .int .i64 a3] rfl (by (try simp only [List.map_toArray, List.map_cons, List.map_nil]); first | done | rfl | (simp only [List.length_drop, List.length_take]; rfl)) ?_; (with_reducible refine (sequencer_Settle.calls kj6 _ _ l0 (fun k_ => k_ < w.heap.size) _ _ l1 a2 a3 t697 t698 t699 _ ?side1 ?side2 ?side3 ?side4 A15.out).mono ?_); (case side1 => repeat (first | exact (Kd.C_below HR0.out HB.out) | (with_reducible refine Kd.C_alloc ?_ _) | (with_reducible refine Kd.C_drewN ?_ _) | (with_reducible refine Kd.C_drew ?_))); (case side2 => exact HC0.out); (case side3 => exact Kd.V_mk HC1.out (Kd.F_below (Kd.C_F (Kd.heap_int .i64) HR1.out) bl)); (case side4 => exact GW.below HG.out bl); rintro e w49 ⟨rfl, hb⟩; refine ⟨_, rfl, ?_⟩; have n0_ := Aside0.mk (below_step bl hb); clear HB; have HB := n0_; clear n0_; (try clear hb); (try clear hb2); (try clear hk); (try clear hi)) | ((with_reducible refine gate_callee (f := 15) rfl ?_); refine goesL_ (some 43) rfl rfl Tryd.func15 (by kernel_rfl) rfl #[.string (⟨#[115, 116, 97, 103, 101]⟩ : ByteArray), .slice A0 l0.length c0] rfl (by (try simp only [List.map_toArray, List.map_cons, List.map_nil]); first | done | rfl | (simp only [List.length_drop, List.length_take]; rfl)) ?_; (with_reducible refine (plenumref21_Check.calls kj6 (⟨#[115, 116, 97, 103, 101]⟩ : ByteArray) _ _ l0 t700 _ ?side1 ?side2 A16.out).mono ?_); (case side1 => repeat (first | exact (Kd.C_below HR0.out HB.out) | (with_reducible refine Kd.C_alloc ?_ _) | (with_reducible refine Kd.C_drewN ?_ _) | (with_reducible refine Kd.C_drew ?_))); (case side2 => exact HC0.out); rintro e w50 ⟨rfl, hb⟩; refine ⟨_, rfl, ?_⟩; have n0_ := Aside0.mk (below_step bl hb); clear HB; have HB := n0_; clear n0_; (try clear hb); (try clear hb2); (try clear hk); (try clear hi)) | ((with_reducible refine gate_callee (f := 17) rfl ?_); refine goesL_ (some 49) rfl rfl Tryd.func17 (by kernel_rfl) rfl #[.int .i64 a3] rfl (by (try simp only [List.map_toArray, List.map_cons, List.map_nil]); first | done | rfl | (simp only [List.length_drop, List.length_take]; rfl)) ?_; (with_reducible refine (plenumref21_Time.calls a3 false _ A18.out).mono ?_); rintro e w' ⟨rfl, ⟨nd, rfl⟩⟩; refine ⟨_, rfl, ?_⟩))
         go_ret
         exact ⟨by first | rfl | (simp [errW_none, errW_some] <;> rfl) | (simp [*, errW_none, errW_some] <;> rfl), bl⟩
        ·
         rw [if_neg c48] at H
         exact absurd H (by simp)
       ·
        rw [if_neg c47] at H
        exact absurd H (by simp)
     ·
      rw [if_neg c17] at H
      have c17b0 : (t700 == 0) = false := beq_eq_false_iff_ne.mpr c17
      have c17b1 : (t700 != 0) = true := bne_iff_ne.mpr c17
      by_cases c51 : t699 = t700
      ·
       rw [if_pos c51] at H
       have c51b0 : (t699 == t700) = true := beq_iff_eq.mpr c51
       have c51b1 : (t699 != t700) = false := bne_eq_false_iff_eq.mpr c51
       clear c51
       by_cases c52 : t697 = 0
       ·
        rw [if_pos c52] at H
        have c52b0 : (t697 == 0) = true := beq_iff_eq.mpr c52
        have c52b1 : (t697 != 0) = false := bne_eq_false_iff_eq.mpr c52
        clear c52
        obtain rfl := Option.some.inj H
        go_wp2_with (first | ((with_reducible refine gate_callee (f := 16) rfl ?_); refine goesL_ (some 38) rfl rfl Tryd.func16 (by kernel_rfl) rfl #[.slice A0 l0.length c0, .slice A1 l1.length c1, .int .i64 a2, .int .i64 a3] rfl (by (try simp only [List.map_toArray, List.map_cons, List.map_nil]); first | done | rfl | (simp only [List.length_drop, List.length_take]; rfl)) ?_; (with_reducible refine (sequencer_Settle.calls kj6 _ _ l0 (fun k_ => k_ < w.heap.size) _ _ l1 a2 a3 t697 t698 t699 _ ?side1 ?side2 ?side3 ?side4 A15.out).mono ?_); (case side1 => repeat (first | exact (Kd.C_below HR0.out HB.out) | (with_reducible refine Kd.C_alloc ?_ _) | (with_reducible refine Kd.C_drewN ?_ _) | (with_reducible refine Kd.C_drew ?_))); (case side2 => exact HC0.out); (case side3 => exact Kd.V_mk HC1.out (Kd.F_below (Kd.C_F (Kd.heap_int .i64) HR1.out) bl)); (case side4 => exact GW.below HG.out bl); rintro e w53 ⟨rfl, hb⟩; refine ⟨_, rfl, ?_⟩; have n0_ := Aside0.mk (below_step bl hb); clear HB; have HB := n0_; clear n0_; (try clear hb); (try clear hb2); (try clear hk); (try clear hi)) | ((with_reducible refine gate_callee (f := 15) rfl ?_); refine goesL_ (some 43) rfl rfl Tryd.func15 (by kernel_rfl) rfl #[.string (⟨#[115, 116, 97, 103, 101]⟩ : ByteArray), .slice A0 l0.length c0] rfl (by (try simp only [List.map_toArray, List.map_cons, List.map_nil]); first | done | rfl | (simp only [List.length_drop, List.length_take]; rfl)) ?_; (with_reducible refine (plenumref21_Check.calls kj6 (⟨#[115, 116, 97, 103, 101]⟩ : ByteArray) _ _ l0 t700 _ ?side1 ?side2 A16.out).mono ?_); (case side1 => repeat (first | exact (Kd.C_below HR0.out HB.out) | (with_reducible refine Kd.C_alloc ?_ _) | (with_reducible refine Kd.C_drewN ?_ _) | (with_reducible refine Kd.C_drew ?_))); (case side2 => exact HC0.out); rintro e w54 ⟨rfl, hb⟩; refine ⟨_, rfl, ?_⟩; have n0_ := Aside0.mk (below_step bl hb); clear HB; have HB := n0_; clear n0_; (try clear hb); (try clear hb2); (try clear hk); (try clear hi)))
        go_ret
        exact ⟨by first | rfl | (simp [errW_none, errW_some] <;> rfl) | (simp [*, errW_none, errW_some] <;> rfl), bl⟩
       ·
        rw [if_neg c52] at H
        exact absurd H (by simp)
      ·
       rw [if_neg c51] at H
       exact absurd H (by simp)
 ·
  replace c6 := Bool.eq_false_iff.mpr c6
  subst c6
  have H1 : (none) = some r := by rw [if_neg (show ¬ (false = true) by decide)] at H; exact H
  clear H
  have H := H1
  clear H1
  exact absurd H (by simp)

/-- THE ONE PURE STATEMENT of plenumlaw21_SequencerSettles: yours. -/
def plenumlaw21_SequencerSettles.Pure : Prop := ∀ (l0 : List Int) (l1 : List Int) (a2 : Int) (a3 : Int), l0.length ≤ maxLen → l0.length * 8 ≤ 140737488351232 → (∀ x ∈ l0, (Lit.int .i64 x).wf = true) → l1.length ≤ maxLen → l1.length * 8 ≤ 140737488351232 → (∀ x ∈ l1, (Lit.int .i64 x).wf = true) → (Lit.int .i64 a2).wf = true → (Lit.int .i64 a3).wf = true → ∃ k, plenumlaw21_SequencerSettles.f k l0 l1 a2 a3 = some true
theorem plenumlaw21_SequencerSettles.walk (P : plenumlaw21_SequencerSettles.Pure) (a0 : Option Addr) (len0 cap0 : Nat) (z0 : List Int) (a1 : Option Addr) (len1 cap1 : Nat) (z1 : List Int) (a2 : Int) (a3 : Int) (w : World) (w0 : (a0 = none ∧ len0 = 0 ∧ cap0 = 0 ∧ z0 = []) ∨ ∃ x, a0 = some x ∧ len0 ≤ cap0 ∧ cap0 ≤ maxLen ∧ z0.length = cap0 ∧ (∀ i, i < z0.length → w.cell? (x.add i) = some (.int .i64 (z0.getD i 0))) ∧ ∀ n ∈ z0, (Lit.int .i64 n).wf = true) (y0 : len0 * 8 ≤ 140737488351232) (w1 : (a1 = none ∧ len1 = 0 ∧ cap1 = 0 ∧ z1 = []) ∨ ∃ x, a1 = some x ∧ len1 ≤ cap1 ∧ cap1 ≤ maxLen ∧ z1.length = cap1 ∧ (∀ i, i < z1.length → w.cell? (x.add i) = some (.int .i64 (z1.getD i 0))) ∧ ∀ n ∈ z1, (Lit.int .i64 n).wf = true) (y1 : len1 * 8 ≤ 140737488351232) (w2 : (Lit.int .i64 a2).wf = true) (w3 : (Lit.int .i64 a3).wf = true) (hG : GW w) :
  Calls Tryd.prog 4 #[.slice a0 len0 cap0, .slice a1 len1 cap1, .int .i64 a2, .int .i64 a3] w fun e w' => e = .returned (.bool true) ∧ Below w.heap.size w w' := by
 obtain ⟨l0, rfl, hr0, hm0, hw0, hc0⟩ := ReadsInt.ofRowC w0
 obtain ⟨l1, rfl, hr1, hm1, hw1, hc1⟩ := ReadsInt.ofRowC w1
 obtain ⟨k, h⟩ := P l0 l1 a2 a3 hm0 y0 hw0 hm1 y1 hw1 w2 w3
 refine (plenumlaw21_SequencerSettles.calls k _ _ l0 _ _ l1 a2 a3 true w (Kd.C_of_reads (d := (0 : Int)) (h1 := fun _ => rfl) hr0) hc0 (Kd.C_of_reads (d := (0 : Int)) (h1 := fun _ => rfl) hr1) hc1 hG h).mono ?_
 rintro e w' ⟨rfl, hd⟩
 exact ⟨rfl, hd⟩

end Go.Proofs.YtcpncmjjbfbdhaaDoor.R
