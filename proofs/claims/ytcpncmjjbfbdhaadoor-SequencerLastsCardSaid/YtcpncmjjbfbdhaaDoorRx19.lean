-- Written by this claim's own program out of the translation; not trusted: Lean checks it.
import Derived.Test.YtcpncmjjbfbdhaaDoorRx0
import Derived.Test.YtcpncmjjbfbdhaaDoorRx10
import Derived.Test.YtcpncmjjbfbdhaaDoorRx14
import Derived.Test.YtcpncmjjbfbdhaaDoorRx18
namespace Go.Proofs.YtcpncmjjbfbdhaaDoor.R
open Go.RowKit Go.Proofs.YtcpncmjjbfbdhaaDoorW.PrintWords Go.Proofs.YtcpncmjjbfbdhaaDoorW.PrintLast Go.Proofs.YtcpncmjjbfbdhaaDoorW.PrintMore
attribute [local go_sem] max2_int min2_int max_two min_two max_three min_three max_four min_four   -- for this text's walks alone
set_option linter.unusedVariables false
set_option linter.unusedSimpArgs false

/-! ### plenumlaw21_SequencerLasts: function 5 -/
mutual
def plenumlaw21_SequencerLasts.j0 : Nat → List Int → Int → Bool → Option (Bool)
 | 0, _, _, _ => none
 | k + 1, x0, x1, x20 => if x20 = true then (some true) else ((sequencer_Duration.f k x0 x1).bind fun bt717 => ((plenumref21_Check.f k (⟨#[115, 116, 101, 112, 115]⟩ : ByteArray) x0).bind fun t719 => (if t719 = 0 then ((plenumref21_Time.f x1).bind fun t720 => (plenumlaw21_SequencerLasts.j1 k x0 x1 bt717.1 bt717.2 t719 (!t720))) else (plenumlaw21_SequencerLasts.j1 k x0 x1 bt717.1 bt717.2 t719 false))))
def plenumlaw21_SequencerLasts.j1 : Nat → List Int → Int → Int → Int → Int → Bool → Option (Bool)
 | 0, _, _, _, _, _, _ => none
 | k + 1, x0, x1, x5, x6, x7, x35 => if x35 = true then (if x6 = 1 then (some (x5 == 0)) else (none)) else (if x7 = 0 then (if x6 = 0 then ((plenumref21_Duration.f k x0 x1).bind fun t721 => (some (x5 == t721))) else (none)) else (if x6 = x7 then (some (x5 == 0)) else (none)))
end
def plenumlaw21_SequencerLasts.f (k : Nat) (l0 : List Int) (a1 : Int) : Option (Bool) := (plenumlaw21_awake.f k).bind fun t715 => (if t715 = true then ((plenumlaw21_few.f l0).bind fun t716 => (if t716 = true then (if a1 > 0 then (plenumlaw21_SequencerLasts.j0 k l0 a1 (decide (a1 < 600))) else (plenumlaw21_SequencerLasts.j0 k l0 a1 false)) else (plenumlaw21_SequencerLasts.j0 k l0 a1 true))) else (none))
theorem plenumlaw21_SequencerLasts.mono_l : ∀ k, (∀ y0 y1 y2, LeO (plenumlaw21_SequencerLasts.j0 k y0 y1 y2) (plenumlaw21_SequencerLasts.j0 (k + 1) y0 y1 y2)) ∧ (∀ y0 y1 y2 y3 y4 y5, LeO (plenumlaw21_SequencerLasts.j1 k y0 y1 y2 y3 y4 y5) (plenumlaw21_SequencerLasts.j1 (k + 1) y0 y1 y2 y3 y4 y5))
 | 0 => ⟨fun _ _ _ r h => by simp [plenumlaw21_SequencerLasts.j0] at h, fun _ _ _ _ _ _ r h => by simp [plenumlaw21_SequencerLasts.j1] at h⟩
 | k + 1 => by
  obtain ⟨ih0, ih1⟩ := plenumlaw21_SequencerLasts.mono_l k
  refine ⟨?_, ?_⟩
  ·
   intro y0 y1 y2
   unfold plenumlaw21_SequencerLasts.j0
   repeat' first
   | (with_reducible exact ih0 _ _ _)
   | (with_reducible exact ih1 _ _ _ _ _ _)
   | (with_reducible exact plenumlaw21_awake.mono _)
   | (with_reducible exact plenumref21_Check.mono _ _ _)
   | (with_reducible exact plenumref21_Duration.mono _ _ _)
   | (with_reducible exact sequencer_Duration.mono _ _ _)
   | (with_reducible exact LeO.refl _)
   | (with_reducible exact LeO.none _)
   | (with_reducible refine LeO.ite ?_ ?_)
   | (with_reducible refine LeO.bind ?_ (fun _ => ?_))
   | exact ih0 _ _ _
   | exact ih1 _ _ _ _ _ _
   | exact plenumlaw21_awake.mono _
   | exact plenumref21_Check.mono _ _ _
   | exact plenumref21_Duration.mono _ _ _
   | exact sequencer_Duration.mono _ _ _
   | exact LeO.none _
   | refine LeO.ite ?_ ?_
   | refine LeO.bind ?_ (fun _ => ?_)
  ·
   intro y0 y1 y2 y3 y4 y5
   unfold plenumlaw21_SequencerLasts.j1
   repeat' first
   | (with_reducible exact ih0 _ _ _)
   | (with_reducible exact ih1 _ _ _ _ _ _)
   | (with_reducible exact plenumlaw21_awake.mono _)
   | (with_reducible exact plenumref21_Check.mono _ _ _)
   | (with_reducible exact plenumref21_Duration.mono _ _ _)
   | (with_reducible exact sequencer_Duration.mono _ _ _)
   | (with_reducible exact LeO.refl _)
   | (with_reducible exact LeO.none _)
   | (with_reducible refine LeO.ite ?_ ?_)
   | (with_reducible refine LeO.bind ?_ (fun _ => ?_))
   | exact ih0 _ _ _
   | exact ih1 _ _ _ _ _ _
   | exact plenumlaw21_awake.mono _
   | exact plenumref21_Check.mono _ _ _
   | exact plenumref21_Duration.mono _ _ _
   | exact sequencer_Duration.mono _ _ _
   | exact LeO.none _
   | refine LeO.ite ?_ ?_
   | refine LeO.bind ?_ (fun _ => ?_)
theorem plenumlaw21_SequencerLasts.mono : ∀ a0 a1 k, LeO (plenumlaw21_SequencerLasts.f k a0 a1) (plenumlaw21_SequencerLasts.f (k + 1) a0 a1) := by
 intro a0 a1 k
 obtain ⟨ih0, ih1⟩ := plenumlaw21_SequencerLasts.mono_l k
 unfold plenumlaw21_SequencerLasts.f
 repeat' first
   | (with_reducible exact ih0 _ _ _)
   | (with_reducible exact ih1 _ _ _ _ _ _)
   | (with_reducible exact plenumlaw21_awake.mono _)
   | (with_reducible exact plenumref21_Check.mono _ _ _)
   | (with_reducible exact plenumref21_Duration.mono _ _ _)
   | (with_reducible exact sequencer_Duration.mono _ _ _)
   | (with_reducible exact LeO.refl _)
   | (with_reducible exact LeO.none _)
   | (with_reducible refine LeO.ite ?_ ?_)
   | (with_reducible refine LeO.bind ?_ (fun _ => ?_))
   | exact ih0 _ _ _
   | exact ih1 _ _ _ _ _ _
   | exact plenumlaw21_awake.mono _
   | exact plenumref21_Check.mono _ _ _
   | exact plenumref21_Duration.mono _ _ _
   | exact sequencer_Duration.mono _ _ _
   | exact LeO.none _
   | refine LeO.ite ?_ ?_
   | refine LeO.bind ?_ (fun _ => ?_)
set_option maxHeartbeats 8000000 in
set_option maxRecDepth 100000 in
theorem plenumlaw21_SequencerLasts.calls (k : Nat) (A0 : Option Addr) (c0 : Nat) (l0 : List Int) (a1 : Int) (r : Bool) (w : World) (hr0 : Kd.C (Kd.int .i64) w A0 l0.length l0) (hc0 : l0.length ≤ c0) (hG : GW w) (h : plenumlaw21_SequencerLasts.f k l0 a1 = some r) :
  Calls Tryd.prog 5 #[.slice A0 l0.length c0, .int .i64 a1] w fun e w' => e = .returned (.bool r) ∧ Below w.heap.size w w' := by
 have HG := Aside0.mk hG
 clear hG
 have HR0 := Aside0.mk hr0
 have HC0 := Aside0.mk hc0
 clear hr0 hc0
 have HB := Aside0.mk (Below.refl w.heap.size w)
 have H : ((plenumlaw21_awake.f k).bind fun t715 => (if t715 = true then ((plenumlaw21_few.f l0).bind fun t716 => (if t716 = true then (if a1 > 0 then (plenumlaw21_SequencerLasts.j0 k l0 a1 (decide (a1 < 600))) else (plenumlaw21_SequencerLasts.j0 k l0 a1 false)) else (plenumlaw21_SequencerLasts.j0 k l0 a1 true))) else (none))) = some r := h
 clear h
 replace H := Option.bind_eq_some_iff.mp H
 obtain ⟨t715, A30, H⟩ := H
 replace H : (if t715 = true then ((plenumlaw21_few.f l0).bind fun t716 => (if t716 = true then (if a1 > 0 then (plenumlaw21_SequencerLasts.j0 k l0 a1 (decide (a1 < 600))) else (plenumlaw21_SequencerLasts.j0 k l0 a1 false)) else (plenumlaw21_SequencerLasts.j0 k l0 a1 true))) else (none)) = some r := H
 have A3 := Aside0.mk A30
 clear A30
 by_cases c4 : t715 = true
 ·
  subst c4
  have H1 : ((plenumlaw21_few.f l0).bind fun t716 => (if t716 = true then (if a1 > 0 then (plenumlaw21_SequencerLasts.j0 k l0 a1 (decide (a1 < 600))) else (plenumlaw21_SequencerLasts.j0 k l0 a1 false)) else (plenumlaw21_SequencerLasts.j0 k l0 a1 true))) = some r := by rw [if_pos rfl] at H; exact H
  clear H
  have H := H1
  clear H1
  have HC5 := Aside0.mk H
  clear H
  go_enter Tryd.func5, Tryd.ntmps5
  go_upto_region 3 with (first | ((with_reducible refine gate_callee (f := 9) rfl ?_); refine goesL_ (some 8) rfl rfl Tryd.func9 (by kernel_rfl) rfl #[] rfl (by (try simp only [List.map_toArray, List.map_cons, List.map_nil]); first | done | rfl | (simp only [List.length_drop, List.length_take]; rfl)) ?_; (with_reducible refine (plenumlaw21_awake.calls k  true _ ?side1 A3.out).mono ?_); (case side1 => exact GW.below HG.out bl); rintro e w6 ⟨rfl, hb⟩; refine ⟨_, rfl, ?_⟩; have n0_ := Aside0.mk (below_step bl hb); clear HB; have HB := n0_; clear n0_; (try clear hb); (try clear hb2); (try clear hk); (try clear hi)))
  (try simp only [Act.put, List.setIfInBounds_toArray, List.set_cons_zero, List.set_cons_succ])
  go_cut [20] (fun v20 wc => ∃ (kq : Nat) (x20_4 : Bool), v20 = .bool x20_4 ∧ Aside0 (plenumlaw21_SequencerLasts.j0 kq l0 a1 x20_4 = some r) ∧ Aside0 (kq ≤ k) ∧ Aside0 (Below w.heap.size w wc))
  case first =>
   have H := HC5.out
   clear HC5
   replace H := Option.bind_eq_some_iff.mp H
   obtain ⟨t716, A70, H⟩ := H
   replace H : (if t716 = true then (if a1 > 0 then (plenumlaw21_SequencerLasts.j0 k l0 a1 (decide (a1 < 600))) else (plenumlaw21_SequencerLasts.j0 k l0 a1 false)) else (plenumlaw21_SequencerLasts.j0 k l0 a1 true)) = some r := H
   have A7 := Aside0.mk A70
   clear A70
   by_cases c8 : t716 = true
   ·
    subst c8
    have H1 : (if a1 > 0 then (plenumlaw21_SequencerLasts.j0 k l0 a1 (decide (a1 < 600))) else (plenumlaw21_SequencerLasts.j0 k l0 a1 false)) = some r := by rw [if_pos rfl] at H; exact H
    clear H
    have H := H1
    clear H1
    by_cases c9 : a1 > 0
    ·
     rw [if_pos c9] at H
     have c9b0 : decide (0 < a1) = true := decide_eq_true c9
     clear c9
     (first | rw [c9b0] | (simp only [i64_w, i32_w]; rw [c9b0]) | skip)
     have H' := Aside0.mk H
     clear H
     go_wp2_with (first | ((with_reducible refine gate_callee (f := 10) rfl ?_); refine goesL_ (some 11) rfl rfl Tryd.func10 (by kernel_rfl) rfl #[.slice A0 l0.length c0] rfl (by (try simp only [List.map_toArray, List.map_cons, List.map_nil]); first | done | rfl | (simp only [List.length_drop, List.length_take]; rfl)) ?_; (with_reducible refine (plenumlaw21_few.calls _ _ l0 true _ ?side1 ?side2 A7.out).mono ?_); (case side1 => repeat (first | exact (Kd.C_below HR0.out HB.out) | (with_reducible refine Kd.C_alloc ?_ _) | (with_reducible refine Kd.C_drewN ?_ _) | (with_reducible refine Kd.C_drew ?_))); (case side2 => exact HC0.out); rintro e w' ⟨rfl, ⟨nd, rfl⟩⟩; refine ⟨_, rfl, ?_⟩))
     go_meet
     case rel => exact ⟨_, (decide (a1 < 600)), (by first | rfl | (simp; done) | (simp [*]; done)), H', ⟨by first | omega | exact Nat.le_refl _⟩, ⟨bl⟩⟩
    ·
     rw [if_neg c9] at H
     have c9b0 : decide (0 < a1) = false := decide_eq_false c9
     clear c9
     (first | rw [c9b0] | (simp only [i64_w, i32_w]; rw [c9b0]) | skip)
     have H' := Aside0.mk H
     clear H
     go_wp2_with (first | ((with_reducible refine gate_callee (f := 10) rfl ?_); refine goesL_ (some 11) rfl rfl Tryd.func10 (by kernel_rfl) rfl #[.slice A0 l0.length c0] rfl (by (try simp only [List.map_toArray, List.map_cons, List.map_nil]); first | done | rfl | (simp only [List.length_drop, List.length_take]; rfl)) ?_; (with_reducible refine (plenumlaw21_few.calls _ _ l0 true _ ?side1 ?side2 A7.out).mono ?_); (case side1 => repeat (first | exact (Kd.C_below HR0.out HB.out) | (with_reducible refine Kd.C_alloc ?_ _) | (with_reducible refine Kd.C_drewN ?_ _) | (with_reducible refine Kd.C_drew ?_))); (case side2 => exact HC0.out); rintro e w' ⟨rfl, ⟨nd, rfl⟩⟩; refine ⟨_, rfl, ?_⟩))
     go_meet
     case rel => exact ⟨_, (false), (by first | rfl | (simp; done) | (simp [*]; done)), H', ⟨by first | omega | exact Nat.le_refl _⟩, ⟨bl⟩⟩
   ·
    replace c8 := Bool.eq_false_iff.mpr c8
    subst c8
    have H1 : (plenumlaw21_SequencerLasts.j0 k l0 a1 true) = some r := by rw [if_neg (show ¬ (false = true) by decide)] at H; exact H
    clear H
    have H := H1
    clear H1
    have H' := Aside0.mk H
    clear H
    go_wp2_with (first | ((with_reducible refine gate_callee (f := 10) rfl ?_); refine goesL_ (some 11) rfl rfl Tryd.func10 (by kernel_rfl) rfl #[.slice A0 l0.length c0] rfl (by (try simp only [List.map_toArray, List.map_cons, List.map_nil]); first | done | rfl | (simp only [List.length_drop, List.length_take]; rfl)) ?_; (with_reducible refine (plenumlaw21_few.calls _ _ l0 false _ ?side1 ?side2 A7.out).mono ?_); (case side1 => repeat (first | exact (Kd.C_below HR0.out HB.out) | (with_reducible refine Kd.C_alloc ?_ _) | (with_reducible refine Kd.C_drewN ?_ _) | (with_reducible refine Kd.C_drew ?_))); (case side2 => exact HC0.out); rintro e w' ⟨rfl, ⟨nd, rfl⟩⟩; refine ⟨_, rfl, ?_⟩))
    go_meet
    case rel => exact ⟨_, (true), (by first | rfl | (simp; done) | (simp [*]; done)), H', ⟨by first | omega | exact Nat.le_refl _⟩, ⟨bl⟩⟩
  case rest =>
   clear HC5
   try clear c1
   try clear p2
   try clear c4
   try clear c5
   try clear c8
   try clear c9
   try clear c9b0
   obtain ⟨kq, x20_4, rfl, HA, HJ4, HB⟩ := hcut
   cases kq with
   | zero => exact absurd HA.out (by simp [plenumlaw21_SequencerLasts.j0])
   | succ kj4 =>
    have H := HA.out
    clear HA
    simp only [plenumlaw21_SequencerLasts.j0] at H
    by_cases c10 : x20_4 = true
    ·
     subst c10
     have H1 : (some true) = some r := by rw [if_pos rfl] at H; exact H
     clear H
     have H := H1
     clear H1
     obtain rfl := Option.some.inj H
     go_wp2
     go_ret
     exact ⟨by first | rfl | (simp [errW_none, errW_some] <;> rfl) | (simp [*, errW_none, errW_some] <;> rfl), bl⟩
    ·
     replace c10 := Bool.eq_false_iff.mpr c10
     subst c10
     have H1 : ((sequencer_Duration.f kj4 l0 a1).bind fun bt717 => ((plenumref21_Check.f kj4 (⟨#[115, 116, 101, 112, 115]⟩ : ByteArray) l0).bind fun t719 => (if t719 = 0 then ((plenumref21_Time.f a1).bind fun t720 => (plenumlaw21_SequencerLasts.j1 kj4 l0 a1 bt717.1 bt717.2 t719 (!t720))) else (plenumlaw21_SequencerLasts.j1 kj4 l0 a1 bt717.1 bt717.2 t719 false)))) = some r := by rw [if_neg (show ¬ (false = true) by decide)] at H; exact H
     clear H
     have H := H1
     clear H1
     replace H := Option.bind_eq_some_iff.mp H
     obtain ⟨⟨t717, t718⟩, A110, H⟩ := H
     replace H : ((plenumref21_Check.f kj4 (⟨#[115, 116, 101, 112, 115]⟩ : ByteArray) l0).bind fun t719 => (if t719 = 0 then ((plenumref21_Time.f a1).bind fun t720 => (plenumlaw21_SequencerLasts.j1 kj4 l0 a1 t717 t718 t719 (!t720))) else (plenumlaw21_SequencerLasts.j1 kj4 l0 a1 t717 t718 t719 false))) = some r := H
     have A11 := Aside0.mk A110
     clear A110
     replace H := Option.bind_eq_some_iff.mp H
     obtain ⟨t719, A120, H⟩ := H
     replace H : (if t719 = 0 then ((plenumref21_Time.f a1).bind fun t720 => (plenumlaw21_SequencerLasts.j1 kj4 l0 a1 t717 t718 t719 (!t720))) else (plenumlaw21_SequencerLasts.j1 kj4 l0 a1 t717 t718 t719 false)) = some r := H
     have A12 := Aside0.mk A120
     clear A120
     have HC13 := Aside0.mk H
     clear H
     go_upto_region 7 with (first | ((with_reducible refine gate_callee (f := 20) rfl ?_); refine goesL_ (some 24) rfl rfl Tryd.func20 (by kernel_rfl) rfl #[.slice A0 l0.length c0, .int .i64 a1] rfl (by (try simp only [List.map_toArray, List.map_cons, List.map_nil]); first | done | rfl | (simp only [List.length_drop, List.length_take]; rfl)) ?_; (with_reducible refine (sequencer_Duration.calls kj4 _ _ l0 a1 t717 t718 _ ?side1 ?side2 ?side3 A11.out).mono ?_); (case side1 => repeat (first | exact (Kd.C_below HR0.out HB.out) | (with_reducible refine Kd.C_alloc ?_ _) | (with_reducible refine Kd.C_drewN ?_ _) | (with_reducible refine Kd.C_drew ?_))); (case side2 => exact HC0.out); (case side3 => exact GW.below HG.out bl); rintro e w14 ⟨rfl, hb⟩; refine ⟨_, rfl, ?_⟩; have n0_ := Aside0.mk (below_step bl hb); clear HB; have HB := n0_; clear n0_; (try clear hb); (try clear hb2); (try clear hk); (try clear hi)) | ((with_reducible refine gate_callee (f := 15) rfl ?_); refine goesL_ (some 28) rfl rfl Tryd.func15 (by kernel_rfl) rfl #[.string (⟨#[115, 116, 101, 112, 115]⟩ : ByteArray), .slice A0 l0.length c0] rfl (by (try simp only [List.map_toArray, List.map_cons, List.map_nil]); first | done | rfl | (simp only [List.length_drop, List.length_take]; rfl)) ?_; (with_reducible refine (plenumref21_Check.calls kj4 (⟨#[115, 116, 101, 112, 115]⟩ : ByteArray) _ _ l0 t719 _ ?side1 ?side2 A12.out).mono ?_); (case side1 => repeat (first | exact (Kd.C_below HR0.out HB.out) | (with_reducible refine Kd.C_alloc ?_ _) | (with_reducible refine Kd.C_drewN ?_ _) | (with_reducible refine Kd.C_drew ?_))); (case side2 => exact HC0.out); rintro e w15 ⟨rfl, hb⟩; refine ⟨_, rfl, ?_⟩; have n0_ := Aside0.mk (below_step bl hb); clear HB; have HB := n0_; clear n0_; (try clear hb); (try clear hb2); (try clear hk); (try clear hi)))
     (try simp only [Act.put, List.setIfInBounds_toArray, List.set_cons_zero, List.set_cons_succ])
     go_cut [35] (fun v35 wc => ∃ (kq : Nat) (x35_12 : Bool), v35 = .bool x35_12 ∧ Aside0 (plenumlaw21_SequencerLasts.j1 kq l0 a1 t717 t718 t719 x35_12 = some r) ∧ Aside0 (kq ≤ kj4) ∧ Aside0 (Below w.heap.size w wc))
     case first =>
      have H := HC13.out
      clear HC13
      by_cases c16 : t719 = 0
      ·
       rw [if_pos c16] at H
       have c16b0 : (t719 == 0) = true := beq_iff_eq.mpr c16
       have c16b1 : (t719 != 0) = false := bne_eq_false_iff_eq.mpr c16
       clear c16
       (first | rw [c16b0] | (simp only [i64_w, i32_w]; rw [c16b0]) | skip)
       replace H := Option.bind_eq_some_iff.mp H
       obtain ⟨t720, A170, H⟩ := H
       replace H : (plenumlaw21_SequencerLasts.j1 kj4 l0 a1 t717 t718 t719 (!t720)) = some r := H
       have A17 := Aside0.mk A170
       clear A170
       have H' := Aside0.mk H
       clear H
       go_wp2_with (first | (go_at_call 17; (with_reducible refine (plenumref21_Time.calls a1 t720 _ A17.out).mono ?_); rintro e w' ⟨rfl, ⟨nd, rfl⟩⟩))
       go_meet
       case rel => exact ⟨_, (!t720), (by first | rfl | (simp; done) | (simp [*]; done)), H', ⟨by have := HJ4.out; first | omega | exact Nat.le_refl _⟩, ⟨bl⟩⟩
      ·
       rw [if_neg c16] at H
       have c16b0 : (t719 == 0) = false := beq_eq_false_iff_ne.mpr c16
       have c16b1 : (t719 != 0) = true := bne_iff_ne.mpr c16
       (first | rw [c16b0] | (simp only [i64_w, i32_w]; rw [c16b0]) | skip)
       have H' := Aside0.mk H
       clear H
       go_wp2
       go_meet
       case rel => exact ⟨_, (false), (by first | rfl | (simp; done) | (simp [*]; done)), H', ⟨by have := HJ4.out; first | omega | exact Nat.le_refl _⟩, ⟨bl⟩⟩
     case rest =>
      clear HC13
      try clear c1
      try clear c2
      try clear p2
      try clear c4
      try clear c5
      try clear c8
      try clear c9
      try clear c9b0
      try clear c10
      try clear c15
      try clear c16
      try clear c16b0
      try clear c16b1
      try clear p2
      obtain ⟨kq, x35_12, rfl, HA, HJ12, HB⟩ := hcut
      cases kq with
      | zero => exact absurd HA.out (by simp [plenumlaw21_SequencerLasts.j1])
      | succ kj12 =>
       have H := HA.out
       clear HA
       simp only [plenumlaw21_SequencerLasts.j1] at H
       by_cases c18 : x35_12 = true
       ·
        subst c18
        have H1 : (if t718 = 1 then (some (t717 == 0)) else (none)) = some r := by rw [if_pos rfl] at H; exact H
        clear H
        have H := H1
        clear H1
        by_cases c19 : t718 = 1
        ·
         rw [if_pos c19] at H
         have c19b0 : (t718 == 1) = true := beq_iff_eq.mpr c19
         have c19b1 : (t718 != 1) = false := bne_eq_false_iff_eq.mpr c19
         clear c19
         obtain rfl := Option.some.inj H
         go_wp2
         go_ret
         exact ⟨by first | rfl | (simp [errW_none, errW_some] <;> rfl) | (simp [*, errW_none, errW_some] <;> rfl), bl⟩
        ·
         rw [if_neg c19] at H
         exact absurd H (by simp)
       ·
        replace c18 := Bool.eq_false_iff.mpr c18
        subst c18
        have H1 : (if t719 = 0 then (if t718 = 0 then ((plenumref21_Duration.f kj12 l0 a1).bind fun t721 => (some (t717 == t721))) else (none)) else (if t718 = t719 then (some (t717 == 0)) else (none))) = some r := by rw [if_neg (show ¬ (false = true) by decide)] at H; exact H
        clear H
        have H := H1
        clear H1
        by_cases c20 : t719 = 0
        ·
         rw [if_pos c20] at H
         have c20b0 : (t719 == 0) = true := beq_iff_eq.mpr c20
         have c20b1 : (t719 != 0) = false := bne_eq_false_iff_eq.mpr c20
         clear c20
         by_cases c21 : t718 = 0
         ·
          rw [if_pos c21] at H
          have c21b0 : (t718 == 0) = true := beq_iff_eq.mpr c21
          have c21b1 : (t718 != 0) = false := bne_eq_false_iff_eq.mpr c21
          clear c21
          replace H := Option.bind_eq_some_iff.mp H
          obtain ⟨t721, A220, H⟩ := H
          replace H : (some (t717 == t721)) = some r := H
          have A22 := Aside0.mk A220
          clear A220
          obtain rfl := Option.some.inj H
          go_wp2_with (first | (go_at_call 21; (with_reducible refine (plenumref21_Duration.calls kj12 _ _ l0 a1 t721 _ ?side1 ?side2 A22.out).mono ?_); (case side1 => repeat (first | exact (Kd.C_below HR0.out HB.out) | (with_reducible refine Kd.C_alloc ?_ _) | (with_reducible refine Kd.C_drewN ?_ _) | (with_reducible refine Kd.C_drew ?_))); (case side2 => exact HC0.out); rintro e w23 ⟨rfl, hb⟩; have n0_ := Aside0.mk (below_step bl hb); clear HB; have HB := n0_; clear n0_; (try clear hb); (try clear hb2); (try clear hk); (try clear hi)))
          go_ret
          exact ⟨by first | rfl | (simp [errW_none, errW_some] <;> rfl) | (simp [*, errW_none, errW_some] <;> rfl), bl⟩
         ·
          rw [if_neg c21] at H
          exact absurd H (by simp)
        ·
         rw [if_neg c20] at H
         have c20b0 : (t719 == 0) = false := beq_eq_false_iff_ne.mpr c20
         have c20b1 : (t719 != 0) = true := bne_iff_ne.mpr c20
         by_cases c24 : t718 = t719
         ·
          rw [if_pos c24] at H
          have c24b0 : (t718 == t719) = true := beq_iff_eq.mpr c24
          have c24b1 : (t718 != t719) = false := bne_eq_false_iff_eq.mpr c24
          clear c24
          obtain rfl := Option.some.inj H
          go_wp2
          go_ret
          exact ⟨by first | rfl | (simp [errW_none, errW_some] <;> rfl) | (simp [*, errW_none, errW_some] <;> rfl), bl⟩
         ·
          rw [if_neg c24] at H
          exact absurd H (by simp)
 ·
  replace c4 := Bool.eq_false_iff.mpr c4
  subst c4
  have H1 : (none) = some r := by rw [if_neg (show ¬ (false = true) by decide)] at H; exact H
  clear H
  have H := H1
  clear H1
  exact absurd H (by simp)

/-- THE ONE PURE STATEMENT of plenumlaw21_SequencerLasts: yours. -/
def plenumlaw21_SequencerLasts.Pure : Prop := ∀ (l0 : List Int) (a1 : Int), l0.length ≤ maxLen → l0.length * 8 ≤ 140737488351232 → (∀ x ∈ l0, (Lit.int .i64 x).wf = true) → (Lit.int .i64 a1).wf = true → ∃ k, plenumlaw21_SequencerLasts.f k l0 a1 = some true
theorem plenumlaw21_SequencerLasts.walk (P : plenumlaw21_SequencerLasts.Pure) (a0 : Option Addr) (len0 cap0 : Nat) (z0 : List Int) (a1 : Int) (w : World) (w0 : (a0 = none ∧ len0 = 0 ∧ cap0 = 0 ∧ z0 = []) ∨ ∃ x, a0 = some x ∧ len0 ≤ cap0 ∧ cap0 ≤ maxLen ∧ z0.length = cap0 ∧ (∀ i, i < z0.length → w.cell? (x.add i) = some (.int .i64 (z0.getD i 0))) ∧ ∀ n ∈ z0, (Lit.int .i64 n).wf = true) (y0 : len0 * 8 ≤ 140737488351232) (w1 : (Lit.int .i64 a1).wf = true) (hG : GW w) :
  Calls Tryd.prog 5 #[.slice a0 len0 cap0, .int .i64 a1] w fun e w' => e = .returned (.bool true) ∧ Below w.heap.size w w' := by
 obtain ⟨l0, rfl, hr0, hm0, hw0, hc0⟩ := ReadsInt.ofRowC w0
 obtain ⟨k, h⟩ := P l0 a1 hm0 y0 hw0 w1
 refine (plenumlaw21_SequencerLasts.calls k _ _ l0 a1 true w (Kd.C_of_reads (d := (0 : Int)) (h1 := fun _ => rfl) hr0) hc0 hG h).mono ?_
 rintro e w' ⟨rfl, hd⟩
 exact ⟨rfl, hd⟩

end Go.Proofs.YtcpncmjjbfbdhaaDoor.R
