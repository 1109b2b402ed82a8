-- Written by this claim's own program out of the translation; not trusted: Lean checks it.
import Derived.Test.YtcpncmjjbfbdhaaDoorRx0
import Derived.Test.YtcpncmjjbfbdhaaDoorRx1
import Derived.Test.YtcpncmjjbfbdhaaDoorRx5
import Derived.Test.YtcpncmjjbfbdhaaDoorRx7
import Derived.Test.YtcpncmjjbfbdhaaDoorRx8
import Derived.Test.YtcpncmjjbfbdhaaDoorRx10
import Derived.Test.YtcpncmjjbfbdhaaDoorRx12
import Derived.Test.YtcpncmjjbfbdhaaDoorRx14
namespace Go.Proofs.YtcpncmjjbfbdhaaDoor.R
open Go.RowKit Go.Proofs.YtcpncmjjbfbdhaaDoorW.PrintWords Go.Proofs.YtcpncmjjbfbdhaaDoorW.PrintLast Go.Proofs.YtcpncmjjbfbdhaaDoorW.PrintMore
attribute [local go_sem] max2_int min2_int max_two min_two max_three min_three max_four min_four   -- for this text's walks alone
set_option linter.unusedVariables false
set_option linter.unusedSimpArgs false

attribute [local go_sem high] eqA27
/-! ### plenumlaw21_SequencerSteps: function 3 -/
def plenumlaw21_SequencerSteps.j0 : Nat → ByteArray → List Int → List Int → List (S27) → Int → Bool → Option (Bool)
 | 0, _, _, _, _, _, _ => none
 | k + 1, x0, x1, x2, x3, x4, x31 => if x31 = true then (some true) else ((sequencer_Step.f k x0 x1 x2 x3 x4).bind fun bt659 => ((plenumref21_Step.f k x0 x1 x2 x3 x4).bind fun bt666 => (if bt659.2.2.2 = bt666.2.2.2 then (if (bt659.2.1 == bt666.2.1 && (bt659.2.2.1 == bt666.2.2.1)) = true then ((plenumref21_Same.f k bt659.1 bt666.1).bind fun t673 => (if t673 = true then ((sequencer_Check.f k x0 x1).bind fun t674 => ((plenumref21_Check.f k x0 x1).bind fun t675 => (some (t674 == t675)))) else (none))) else (none)) else (none))))
def plenumlaw21_SequencerSteps.f (k : Nat) (a0 : ByteArray) (l1 : List Int) (l2 : List Int) (l3 : List (S27)) (a4 : Int) : Option (Bool) := (plenumlaw21_awake.f k).bind fun t656 => (if t656 = true then ((plenumlaw21_few.f l1).bind fun t657 => (if t657 = true then ((plenumlaw21_few.f l2).bind fun t658 => (if t658 = true then (plenumlaw21_SequencerSteps.j0 k a0 l1 l2 l3 a4 (decide ((l3.length : Int) > 10))) else (plenumlaw21_SequencerSteps.j0 k a0 l1 l2 l3 a4 true))) else (plenumlaw21_SequencerSteps.j0 k a0 l1 l2 l3 a4 true))) else (none))
theorem plenumlaw21_SequencerSteps.mono_l : ∀ k, (∀ y0 y1 y2 y3 y4 y5, LeO (plenumlaw21_SequencerSteps.j0 k y0 y1 y2 y3 y4 y5) (plenumlaw21_SequencerSteps.j0 (k + 1) y0 y1 y2 y3 y4 y5))
 | 0 => fun _ _ _ _ _ _ r h => by simp [plenumlaw21_SequencerSteps.j0] at h
 | k + 1 => by
  have ih0 := plenumlaw21_SequencerSteps.mono_l k
  ·
   intro y0 y1 y2 y3 y4 y5
   unfold plenumlaw21_SequencerSteps.j0
   repeat' first
   | (with_reducible exact ih0 _ _ _ _ _ _)
   | (with_reducible exact plenumlaw21_awake.mono _)
   | (with_reducible exact plenumref21_Check.mono _ _ _)
   | (with_reducible exact plenumref21_Same.mono _ _ _)
   | (with_reducible exact plenumref21_Step.mono _ _ _ _ _ _)
   | (with_reducible exact sequencer_Check.mono _ _ _)
   | (with_reducible exact sequencer_Step.mono _ _ _ _ _ _)
   | (with_reducible exact LeO.refl _)
   | (with_reducible exact LeO.none _)
   | (with_reducible refine LeO.ite ?_ ?_)
   | (with_reducible refine LeO.bind ?_ (fun _ => ?_))
   | exact ih0 _ _ _ _ _ _
   | exact plenumlaw21_awake.mono _
   | exact plenumref21_Check.mono _ _ _
   | exact plenumref21_Same.mono _ _ _
   | exact plenumref21_Step.mono _ _ _ _ _ _
   | exact sequencer_Check.mono _ _ _
   | exact sequencer_Step.mono _ _ _ _ _ _
   | exact LeO.none _
   | refine LeO.ite ?_ ?_
   | refine LeO.bind ?_ (fun _ => ?_)
theorem plenumlaw21_SequencerSteps.mono : ∀ a0 a1 a2 a3 a4 k, LeO (plenumlaw21_SequencerSteps.f k a0 a1 a2 a3 a4) (plenumlaw21_SequencerSteps.f (k + 1) a0 a1 a2 a3 a4) := by
 intro a0 a1 a2 a3 a4 k
 have ih0 := plenumlaw21_SequencerSteps.mono_l k
 unfold plenumlaw21_SequencerSteps.f
 repeat' first
   | (with_reducible exact ih0 _ _ _ _ _ _)
   | (with_reducible exact plenumlaw21_awake.mono _)
   | (with_reducible exact plenumref21_Check.mono _ _ _)
   | (with_reducible exact plenumref21_Same.mono _ _ _)
   | (with_reducible exact plenumref21_Step.mono _ _ _ _ _ _)
   | (with_reducible exact sequencer_Check.mono _ _ _)
   | (with_reducible exact sequencer_Step.mono _ _ _ _ _ _)
   | (with_reducible exact LeO.refl _)
   | (with_reducible exact LeO.none _)
   | (with_reducible refine LeO.ite ?_ ?_)
   | (with_reducible refine LeO.bind ?_ (fun _ => ?_))
   | exact ih0 _ _ _ _ _ _
   | exact plenumlaw21_awake.mono _
   | exact plenumref21_Check.mono _ _ _
   | exact plenumref21_Same.mono _ _ _
   | exact plenumref21_Step.mono _ _ _ _ _ _
   | exact sequencer_Check.mono _ _ _
   | exact sequencer_Step.mono _ _ _ _ _ _
   | exact LeO.none _
   | refine LeO.ite ?_ ?_
   | refine LeO.bind ?_ (fun _ => ?_)
set_option maxHeartbeats 8000000 in
set_option maxRecDepth 100000 in
theorem plenumlaw21_SequencerSteps.calls (k : Nat) (a0 : ByteArray) (A1 : Option Addr) (c1 : Nat) (l1 : List Int) (A2 : Option Addr) (c2 : Nat) (l2 : List Int) (A3 : Option Addr) (c3 : Nat) (l3 : List (S27)) (a4 : Int) (r : Bool) (w : World) (hr1 : Kd.C (Kd.int .i64) w A1 l1.length l1) (hc1 : l1.length ≤ c1) (hr2 : Kd.C (Kd.int .i64) w A2 l2.length l2) (hc2 : l2.length ≤ c2) (hr3 : Kd.C k27 w A3 l3.length l3) (hc3 : l3.length ≤ c3) (hG : GW w) (h : plenumlaw21_SequencerSteps.f k a0 l1 l2 l3 a4 = some r) :
  Calls Tryd.prog 3 #[.string a0, .slice A1 l1.length c1, .slice A2 l2.length c2, .slice A3 l3.length c3, .int .i64 a4] w fun e w' => e = .returned (.bool r) ∧ Below w.heap.size w w' := by
 have hu27 := Tryd.underlying27
 have HG := Aside0.mk hG
 clear hG
 have HR1 := Aside0.mk hr1
 have HC1 := Aside0.mk hc1
 clear hr1 hc1
 have HR2 := Aside0.mk hr2
 have HC2 := Aside0.mk hc2
 clear hr2 hc2
 have HR3 := Aside0.mk hr3
 have HC3 := Aside0.mk hc3
 clear hr3 hc3
 have HB := Aside0.mk (Below.refl w.heap.size w)
 have H : ((plenumlaw21_awake.f k).bind fun t656 => (if t656 = true then ((plenumlaw21_few.f l1).bind fun t657 => (if t657 = true then ((plenumlaw21_few.f l2).bind fun t658 => (if t658 = true then (plenumlaw21_SequencerSteps.j0 k a0 l1 l2 l3 a4 (decide ((l3.length : Int) > 10))) else (plenumlaw21_SequencerSteps.j0 k a0 l1 l2 l3 a4 true))) else (plenumlaw21_SequencerSteps.j0 k a0 l1 l2 l3 a4 true))) else (none))) = some r := h
 clear h
 replace H := Option.bind_eq_some_iff.mp H
 obtain ⟨t656, A60, H⟩ := H
 replace H : (if t656 = true then ((plenumlaw21_few.f l1).bind fun t657 => (if t657 = true then ((plenumlaw21_few.f l2).bind fun t658 => (if t658 = true then (plenumlaw21_SequencerSteps.j0 k a0 l1 l2 l3 a4 (decide ((l3.length : Int) > 10))) else (plenumlaw21_SequencerSteps.j0 k a0 l1 l2 l3 a4 true))) else (plenumlaw21_SequencerSteps.j0 k a0 l1 l2 l3 a4 true))) else (none)) = some r := H
 have A6 := Aside0.mk A60
 clear A60
 by_cases c7 : t656 = true
 ·
  subst c7
  rw [if_pos rfl] at H
  have HC8 := Aside0.mk H
  clear H
  go_enter Tryd.func3, Tryd.ntmps3
  go_upto_region 3 with (first | ((with_reducible refine gate_callee (f := 9) rfl ?_); refine goesL_ (some 17) rfl rfl Tryd.func9 (by kernel_rfl) rfl #[] rfl aeq ?_; (with_reducible refine (plenumlaw21_awake.calls k  true _ ?side1 A6.out).mono ?_); (case side1 => exact GW.below HG.out bl); rintro e w9 ⟨rfl, hb⟩; refine ⟨_, rfl, ?_⟩; have n0_ := Aside0.mk (below_step bl hb); clear HB; have HB := n0_; clear n0_; (try clear hb); (try clear hb2); (try clear hk); (try clear hi)))
  (try simp only [Act.put, List.setIfInBounds_toArray, List.set_cons_zero, List.set_cons_succ])
  go_cut [31] (fun v31 wc => ∃ (kq : Nat) (x31_7 : Bool), v31 = .bool x31_7 ∧ Aside0 (plenumlaw21_SequencerSteps.j0 kq a0 l1 l2 l3 a4 x31_7 = some r) ∧ Aside0 (kq ≤ k) ∧ Aside0 (Below w.heap.size w wc))
  case first =>
   have H := HC8.out
   clear HC8
   replace H := Option.bind_eq_some_iff.mp H
   obtain ⟨t657, A100, H⟩ := H
   replace H : (if t657 = true then ((plenumlaw21_few.f l2).bind fun t658 => (if t658 = true then (plenumlaw21_SequencerSteps.j0 k a0 l1 l2 l3 a4 (decide ((l3.length : Int) > 10))) else (plenumlaw21_SequencerSteps.j0 k a0 l1 l2 l3 a4 true))) else (plenumlaw21_SequencerSteps.j0 k a0 l1 l2 l3 a4 true)) = some r := H
   have A10 := Aside0.mk A100
   clear A100
   by_cases c11 : t657 = true
   ·
    subst c11
    rw [if_pos rfl] at H
    replace H := Option.bind_eq_some_iff.mp H
    obtain ⟨t658, A120, H⟩ := H
    replace H : (if t658 = true then (plenumlaw21_SequencerSteps.j0 k a0 l1 l2 l3 a4 (decide ((l3.length : Int) > 10))) else (plenumlaw21_SequencerSteps.j0 k a0 l1 l2 l3 a4 true)) = some r := H
    have A12 := Aside0.mk A120
    clear A120
    by_cases c13 : t658 = true
    ·
     subst c13
     rw [if_pos rfl] at H
     have H' := Aside0.mk H
     clear H
     go_wp2_with (first | ((with_reducible refine gate_callee (f := 10) rfl ?_); refine goesL_ (some 20) rfl rfl Tryd.func10 (by kernel_rfl) rfl #[.slice A1 l1.length c1] rfl aeq ?_; (with_reducible refine (plenumlaw21_few.calls _ _ l1 true _ ?side1 ?side2 A10.out).mono ?_); (case side1 => repeat (first | exact (Kd.C_below HR1.out HB.out) | (with_reducible refine Kd.C_alloc ?_ _) | (with_reducible refine Kd.C_drewN ?_ _) | (with_reducible refine Kd.C_drew ?_))); (case side2 => exact HC1.out); rintro e w' ⟨rfl, ⟨nd, rfl⟩⟩; refine ⟨_, rfl, ?_⟩) | (go_at_call 10; (with_reducible refine (plenumlaw21_few.calls _ _ l2 true _ ?side1 ?side2 A12.out).mono ?_); (case side1 => repeat (first | exact (Kd.C_below HR2.out bl) | (with_reducible refine Kd.C_alloc ?_ _) | (with_reducible refine Kd.C_drewN ?_ _) | (with_reducible refine Kd.C_drew ?_))); (case side2 => exact HC2.out); rintro e w' ⟨rfl, ⟨nd, rfl⟩⟩))
     go_meet
     case rel => exact ⟨_, (decide ((l3.length : Int) > 10)), (by first | rfl | (simp; done) | (simp [*]; done)), H', ⟨by first | omega | exact Nat.le_refl _⟩, ⟨bl⟩⟩
    ·
     replace c13 := Bool.eq_false_iff.mpr c13
     subst c13
     rw [if_neg (show ¬ (false = true) by decide)] at H
     have H' := Aside0.mk H
     clear H
     go_wp2_with (first | ((with_reducible refine gate_callee (f := 10) rfl ?_); refine goesL_ (some 20) rfl rfl Tryd.func10 (by kernel_rfl) rfl #[.slice A1 l1.length c1] rfl aeq ?_; (with_reducible refine (plenumlaw21_few.calls _ _ l1 true _ ?side1 ?side2 A10.out).mono ?_); (case side1 => repeat (first | exact (Kd.C_below HR1.out HB.out) | (with_reducible refine Kd.C_alloc ?_ _) | (with_reducible refine Kd.C_drewN ?_ _) | (with_reducible refine Kd.C_drew ?_))); (case side2 => exact HC1.out); rintro e w' ⟨rfl, ⟨nd, rfl⟩⟩; refine ⟨_, rfl, ?_⟩) | (go_at_call 10; (with_reducible refine (plenumlaw21_few.calls _ _ l2 false _ ?side1 ?side2 A12.out).mono ?_); (case side1 => repeat (first | exact (Kd.C_below HR2.out bl) | (with_reducible refine Kd.C_alloc ?_ _) | (with_reducible refine Kd.C_drewN ?_ _) | (with_reducible refine Kd.C_drew ?_))); (case side2 => exact HC2.out); rintro e w' ⟨rfl, ⟨nd, rfl⟩⟩))
     go_meet
     case rel => exact ⟨_, (true), (by first | rfl | (simp; done) | (simp [*]; done)), H', ⟨by first | omega | exact Nat.le_refl _⟩, ⟨bl⟩⟩
   ·
    replace c11 := Bool.eq_false_iff.mpr c11
    subst c11
    rw [if_neg (show ¬ (false = true) by decide)] at H
    have H' := Aside0.mk H
    clear H
    go_wp2_with (first | ((with_reducible refine gate_callee (f := 10) rfl ?_); refine goesL_ (some 20) rfl rfl Tryd.func10 (by kernel_rfl) rfl #[.slice A1 l1.length c1] rfl aeq ?_; (with_reducible refine (plenumlaw21_few.calls _ _ l1 false _ ?side1 ?side2 A10.out).mono ?_); (case side1 => repeat (first | exact (Kd.C_below HR1.out HB.out) | (with_reducible refine Kd.C_alloc ?_ _) | (with_reducible refine Kd.C_drewN ?_ _) | (with_reducible refine Kd.C_drew ?_))); (case side2 => exact HC1.out); rintro e w' ⟨rfl, ⟨nd, rfl⟩⟩; refine ⟨_, rfl, ?_⟩))
    go_meet
    case rel => exact ⟨_, (true), (by first | rfl | (simp; done) | (simp [*]; done)), H', ⟨by first | omega | exact Nat.le_refl _⟩, ⟨bl⟩⟩
  case rest =>
   clear HC8
   try clear c1
   try clear c2
   try clear p2
   try clear c3
   try clear c7
   try clear c9
   try clear c10
   try clear c11
   try clear c13
   obtain ⟨kq, x31_7, rfl, HA, HJ7, HB⟩ := hcut
   cases kq with
   | zero => exact absurd HA.out (by simp [plenumlaw21_SequencerSteps.j0])
   | succ kj7 =>
    have H := HA.out
    clear HA
    simp only [plenumlaw21_SequencerSteps.j0] at H
    by_cases c14 : x31_7 = true
    ·
     subst c14
     rw [if_pos rfl] at H
     obtain rfl := Option.some.inj H
     go_wp2
     go_ret
     exact ⟨by first | rfl | (simp [errW_none, errW_some] <;> rfl) | (simp [*, errW_none, errW_some] <;> rfl), bl⟩
    ·
     replace c14 := Bool.eq_false_iff.mpr c14
     subst c14
     rw [if_neg (show ¬ (false = true) by decide)] at H
     replace H := Option.bind_eq_some_iff.mp H
     obtain ⟨⟨t659, t662, t663, t664⟩, A150, H⟩ := H
     replace H : ((plenumref21_Step.f kj7 a0 l1 l2 l3 a4).bind fun bt666 => (if t664 = bt666.2.2.2 then (if (t662 == bt666.2.1 && (t663 == bt666.2.2.1)) = true then ((plenumref21_Same.f kj7 t659 bt666.1).bind fun t673 => (if t673 = true then ((sequencer_Check.f kj7 a0 l1).bind fun t674 => ((plenumref21_Check.f kj7 a0 l1).bind fun t675 => (some (t674 == t675)))) else (none))) else (none)) else (none))) = some r := H
     have A15 := Aside0.mk A150
     clear A150
     replace H := Option.bind_eq_some_iff.mp H
     obtain ⟨⟨t666, t669, t670, t671⟩, A160, H⟩ := H
     replace H : (if t664 = t671 then (if (t662 == t669 && (t663 == t670)) = true then ((plenumref21_Same.f kj7 t659 t666).bind fun t673 => (if t673 = true then ((sequencer_Check.f kj7 a0 l1).bind fun t674 => ((plenumref21_Check.f kj7 a0 l1).bind fun t675 => (some (t674 == t675)))) else (none))) else (none)) else (none)) = some r := H
     have A16 := Aside0.mk A160
     clear A160
     by_cases c17 : t664 = t671
     ·
      rw [if_pos c17] at H
      have c17b0 : (t664 == t671) = true := beq_iff_eq.mpr c17
      have c17b1 : (t664 != t671) = false := bne_eq_false_iff_eq.mpr c17
      clear c17
      by_cases c18 : (t662 == t669 && (t663 == t670)) = true
      ·
       rw [if_pos c18] at H
       have c18b0 : (t662 == t669 && (t663 == t670)) = true := c18
       (try (have c18b1 : decide (t662 = t669 && (t663 == t670)) = true := by simpa using c18))
       (try (have c18b2 : (t662 == t669 && (t663 == t670)) = true := by simpa using c18))
       clear c18
       replace H := Option.bind_eq_some_iff.mp H
       obtain ⟨t673, A190, H⟩ := H
       replace H : (if t673 = true then ((sequencer_Check.f kj7 a0 l1).bind fun t674 => ((plenumref21_Check.f kj7 a0 l1).bind fun t675 => (some (t674 == t675)))) else (none)) = some r := H
       have A19 := Aside0.mk A190
       clear A190
       by_cases c20 : t673 = true
       ·
        subst c20
        rw [if_pos rfl] at H
        replace H := Option.bind_eq_some_iff.mp H
        obtain ⟨t674, A210, H⟩ := H
        replace H : ((plenumref21_Check.f kj7 a0 l1).bind fun t675 => (some (t674 == t675))) = some r := H
        have A21 := Aside0.mk A210
        clear A210
        replace H := Option.bind_eq_some_iff.mp H
        obtain ⟨t675, A220, H⟩ := H
        replace H : (some (t674 == t675)) = some r := H
        have A22 := Aside0.mk A220
        clear A220
        obtain rfl := Option.some.inj H
        go_wp2_with (first | ((with_reducible refine gate_callee (f := 11) rfl ?_); refine goesL_ (some 38) rfl rfl Tryd.func11 (by kernel_rfl) rfl #[.string a0, .slice A1 l1.length c1, .slice A2 l2.length c2, .slice A3 l3.length c3, .int .i64 a4] rfl aeq ?_; (with_reducible refine (sequencer_Step.calls kj7 a0 _ _ l1 _ _ l2 _ _ l3 a4 t659 t662 t663 t664 _ ?side1 ?side2 ?side3 ?side4 ?side5 ?side6 ?side7 A15.out).mono ?_); (case side1 => repeat (first | exact (Kd.C_below HR1.out HB.out) | (with_reducible refine Kd.C_alloc ?_ _) | (with_reducible refine Kd.C_drewN ?_ _) | (with_reducible refine Kd.C_drew ?_))); (case side2 => exact HC1.out); (case side3 => repeat (first | exact (Kd.C_below HR2.out HB.out) | (with_reducible refine Kd.C_alloc ?_ _) | (with_reducible refine Kd.C_drewN ?_ _) | (with_reducible refine Kd.C_drew ?_))); (case side4 => exact HC2.out); (case side5 => repeat (first | exact (Kd.C_below HR3.out HB.out) | (with_reducible refine Kd.C_alloc ?_ _) | (with_reducible refine Kd.C_drewN ?_ _) | (with_reducible refine Kd.C_drew ?_))); (case side6 => exact HC3.out); (case side7 => exact GW.below HG.out bl); rintro e w23 ⟨v660, rfl, ho0, hb⟩; refine ⟨_, rfl, ?_⟩; have n0_ := Aside0.mk (Kd.R_lower ho0 (below_size bl)); have n1_ := Aside0.mk (below_step bl hb); clear HB; have HO661 := n0_; have HB := n1_; clear n0_ n1_; (try clear hb); (try clear hb2); (try clear hk); (try clear hi); (try clear ho0)) | ((with_reducible refine gate_dst (N := 12) rfl ?_); (try (refine gate_guard (by rfl) ?_; dsimp only)); refine box_event ?hg (N := 12) ?hd (cs := #[.int .i64 0, .int .i64 0]) (t := 27) ?hr ?_; (case hd => rfl); (case hg => rfl); (case hr => first | (go_simp; done) | (go_simp; rfl)); intro gb665 hg w24 hbox hb; have n0_ := Aside0.mk (Kd.R_below (by (with_reducible repeat (first | apply Kd.R_alloc | apply Kd.R_drewN | apply Kd.R_drew)); exact HO661.out) hb); have n1_ := Aside0.mk (below_step bl hb); have n2_ := Aside0.mk (hbox); have n3_ := Aside0.mk ((by rw [hg]; exact (below_size bl) : w.heap.size ≤ gb665)); have n4_ := Aside0.mk ((by rw [hg]; exact (below_size bl) : w.heap.size ≤ gb665)); clear HO661; clear HB; have HO661 := n0_; have HB := n1_; have BK665 := n2_; have GW665 := n3_; have GE665 := n4_; clear n0_ n1_ n2_ n3_ n4_; clear hb hbox hg; have hcz25_0 : w24.cell? ⟨gb665, 0, none⟩ = some (.int .i64 0) := (blk_cell BK665.out 0).trans rfl; have hcz25_1 : w24.cell? ⟨gb665, 1, none⟩ = some (.int .i64 0) := (blk_cell BK665.out 1).trans rfl; have hfz25_0 := blk_frozen BK665.out 0; have hfz25_1 := blk_frozen BK665.out 1) | ((with_reducible refine gate_callee (f := 12) rfl ?_); refine goesL_ (some 48) rfl rfl Tryd.func12 (by kernel_rfl) rfl #[.string a0, .slice A1 l1.length c1, .slice A2 l2.length c2, .slice A3 l3.length c3, .int .i64 a4] rfl aeq ?_; (with_reducible refine (plenumref21_Step.calls kj7 a0 _ _ l1 _ _ l2 _ _ l3 a4 t666 t669 t670 t671 _ ?side1 ?side2 ?side3 ?side4 ?side5 ?side6 A16.out).mono ?_); (case side1 => exact Kd.C_below HR1.out (by repeat (first | (with_reducible first | exact HB.out | apply below_alloc | apply pw_below_drewN | apply below_drew1 | refine below_set ?_ GE665.out) | exact HB.out))); (case side2 => exact HC1.out); (case side3 => exact Kd.C_below HR2.out (by repeat (first | (with_reducible first | exact HB.out | apply below_alloc | apply pw_below_drewN | apply below_drew1 | refine below_set ?_ GE665.out) | exact HB.out))); (case side4 => exact HC2.out); (case side5 => exact Kd.C_below HR3.out (by repeat (first | (with_reducible first | exact HB.out | apply below_alloc | apply pw_below_drewN | apply below_drew1 | refine below_set ?_ GE665.out) | exact HB.out))); (case side6 => exact HC3.out); rintro e w26 ⟨v667, rfl, ho0, hb⟩; refine ⟨_, rfl, ?_⟩; have n0_ := Aside0.mk (Kd.R_elder' (by (with_reducible repeat (first | apply Kd.R_alloc | apply Kd.R_drewN | apply Kd.R_drew)); exact (Kd.R_mono (Kd.R_far (p := ⟨gb665, 1, none⟩) (Kd.R_far (p := ⟨gb665, 0, none⟩) (Kd.R_types HO661.out BK665.out (by decide)) (fun _ hk => hk.2) (.int .i64 t662)) (fun _ hk => hk.2) (.int .i64 t663)) (fun _ h_ => h_.1))) (Kd.R_base ho0) hb); have n1_ := Aside0.mk (Kd.R_lower (Kd.R_new' ho0 (Kd.R_lt (by (with_reducible repeat (first | apply Kd.R_alloc | apply Kd.R_drewN | apply Kd.R_drew)); exact (Kd.R_mono (Kd.R_far (p := ⟨gb665, 1, none⟩) (Kd.R_far (p := ⟨gb665, 0, none⟩) (Kd.R_types HO661.out BK665.out (by decide)) (fun _ hk => hk.2) (.int .i64 t662)) (fun _ hk => hk.2) (.int .i64 t663)) (fun _ h_ => h_.1))))) (below_size (by repeat (first | (with_reducible first | exact HB.out | apply below_alloc | apply pw_below_drewN | apply below_drew1 | refine below_set ?_ GE665.out) | exact HB.out)))); have n2_ := Aside0.mk (blk_below (g := gb665) (o := .cells #[.int .i64 t662, .int .i64 t663] 27 (0, 0)) (by (with_reducible repeat (first | refine blk_drewN ?_ _ | refine blk_drew ?_ | refine blk_alloc ?_ _)); refine blk_put (cs := #[.int .i64 t662, .int .i64 0]) ?_ 1 _ rfl; (with_reducible repeat (first | refine blk_drewN ?_ _ | refine blk_drew ?_ | refine blk_alloc ?_ _)); refine blk_put (cs := #[.int .i64 0, .int .i64 0]) ?_ 0 _ rfl; (with_reducible repeat (first | refine blk_drewN ?_ _ | refine blk_drew ?_ | refine blk_alloc ?_ _)); exact BK665.out) hb); have n3_ := Aside0.mk (below_step (by repeat (first | (with_reducible first | exact HB.out | apply below_alloc | apply pw_below_drewN | apply below_drew1 | refine below_set ?_ GE665.out) | exact HB.out)) hb); clear HO661; clear BK665; clear HB; have HO661 := n0_; have HO668 := n1_; have BK665 := n2_; have HB := n3_; clear n0_ n1_ n2_ n3_; (try clear hb); (try clear hb2); (try clear hk); (try clear hi); (try clear ho0)) | ((with_reducible refine gate_dst (N := 15) rfl ?_); (try (refine gate_guard (by rfl) ?_; dsimp only)); refine box_event ?hg (N := 15) ?hd (cs := #[.int .i64 0, .int .i64 0]) (t := 27) ?hr ?_; (case hd => rfl); (case hg => rfl); (case hr => first | (go_simp; done) | (go_simp; rfl)); intro gb672 hg w27 hbox hb; have n0_ := Aside0.mk (Kd.R_below (by (with_reducible repeat (first | apply Kd.R_alloc | apply Kd.R_drewN | apply Kd.R_drew)); exact HO661.out) hb); have n1_ := Aside0.mk (Kd.R_below (by (with_reducible repeat (first | apply Kd.R_alloc | apply Kd.R_drewN | apply Kd.R_drew)); exact HO668.out) hb); have n2_ := Aside0.mk (blk_below (g := gb665) (o := .cells #[.int .i64 t662, .int .i64 t663] 27 (0, 0)) (by (with_reducible repeat (first | refine blk_drewN ?_ _ | refine blk_drew ?_ | refine blk_alloc ?_ _)); exact BK665.out) hb); have n3_ := Aside0.mk (below_step (by repeat (first | (with_reducible first | exact HB.out | apply below_alloc | apply pw_below_drewN | apply below_drew1 | refine below_set ?_ GE665.out) | exact HB.out)) hb); have n4_ := Aside0.mk (hbox); have n5_ := Aside0.mk ((by rw [hg]; exact (below_size (by repeat (first | (with_reducible first | exact HB.out | apply below_alloc | apply pw_below_drewN | apply below_drew1 | refine below_set ?_ GE665.out) | exact HB.out))) : w.heap.size ≤ gb672)); have n6_ := Aside0.mk ((by rw [hg]; exact (below_size (by repeat (first | (with_reducible first | exact HB.out | apply below_alloc | apply pw_below_drewN | apply below_drew1 | refine below_set ?_ GE665.out) | exact HB.out))) : w.heap.size ≤ gb672)); have n7_ := Aside0.mk ((by rw [hg]; exact Nat.ne_of_lt (blk_lt (g := gb665) (o := .cells #[.int .i64 t662, .int .i64 t663] 27 (0, 0)) (by (with_reducible repeat (first | refine blk_drewN ?_ _ | refine blk_drew ?_ | refine blk_alloc ?_ _)); exact BK665.out)) : gb665 ≠ gb672)); have n8_ := Aside0.mk ((by rw [hg]; exact Nat.ne_of_gt (blk_lt (g := gb665) (o := .cells #[.int .i64 t662, .int .i64 t663] 27 (0, 0)) (by (with_reducible repeat (first | refine blk_drewN ?_ _ | refine blk_drew ?_ | refine blk_alloc ?_ _)); exact BK665.out)) : gb672 ≠ gb665)); clear HO661; clear HO668; clear BK665; clear HB; have HO661 := n0_; have HO668 := n1_; have BK665 := n2_; have HB := n3_; have BK672 := n4_; have GW672 := n5_; have GE672 := n6_; have NB665_672 := n7_; have NB672_665 := n8_; clear n0_ n1_ n2_ n3_ n4_ n5_ n6_ n7_ n8_; clear hb hbox hg; have hnb28 := NB672_665.out; have hnc28 := NB665_672.out; have hcz29_0 : w27.cell? ⟨gb672, 0, none⟩ = some (.int .i64 0) := (blk_cell BK672.out 0).trans rfl; have hcz29_1 : w27.cell? ⟨gb672, 1, none⟩ = some (.int .i64 0) := (blk_cell BK672.out 1).trans rfl; have hfz29_0 := blk_frozen BK672.out 0; have hfz29_1 := blk_frozen BK672.out 1; have hcz30_0 : w27.cell? ⟨gb665, 0, none⟩ = some (.int .i64 t662) := (blk_cell BK665.out 0).trans rfl; have hcz30_1 : w27.cell? ⟨gb665, 1, none⟩ = some (.int .i64 t663) := (blk_cell BK665.out 1).trans rfl; have hfz30_0 := blk_frozen BK665.out 0; have hfz30_1 := blk_frozen BK665.out 1; obtain ⟨Ao31, co31, eo31⟩ := Kd.R_slice HO661.out; subst eo31; obtain ⟨Ao32, co32, eo32⟩ := Kd.R_slice HO668.out; subst eo32) | (go_at_call 13; (with_reducible refine (plenumref21_Same.calls kj7 _ _ t659 _ _ t666 true _ ?side1 ?side2 ?side3 ?side4 A19.out).mono ?_); (case side1 => refine (Kd.R_reads' (e := 2) (base := w.heap.size) (ok := fun k_ => (True ∧ some k_ ≠ (.slice Ao32 t666.length co32 : Value).ownBlock)) (n := t659.length) (c := co31) ?_).2.2; exact (by (with_reducible repeat (first | apply Kd.R_alloc | apply Kd.R_drewN | apply Kd.R_drew)); exact (Kd.R_mono (Kd.R_far (p := ⟨gb672, 1, none⟩) (Kd.R_far (p := ⟨gb672, 0, none⟩) (Kd.R_types HO661.out BK672.out (by decide)) (fun _ hk => hk.2) (.int .i64 t669)) (fun _ hk => hk.2) (.int .i64 t670)) (fun _ h_ => h_.1)))); (case side2 => exact (Kd.R_reads' HO661.out).2.1); (case side3 => refine (Kd.R_reads' (e := 2) (base := w.heap.size) (ok := fun k_ => (True ∧ some k_ ≠ (.slice Ao31 t659.length co31 : Value).ownBlock)) (n := t666.length) (c := co32) ?_).2.2; exact (by (with_reducible repeat (first | apply Kd.R_alloc | apply Kd.R_drewN | apply Kd.R_drew)); exact (Kd.R_mono (Kd.R_far (p := ⟨gb672, 1, none⟩) (Kd.R_far (p := ⟨gb672, 0, none⟩) (Kd.R_types HO668.out BK672.out (by decide)) (fun _ hk => hk.2) (.int .i64 t669)) (fun _ hk => hk.2) (.int .i64 t670)) (fun _ h_ => h_.1)))); (case side4 => exact (Kd.R_reads' HO668.out).2.1); rintro e w' ⟨rfl, ⟨nd, rfl⟩⟩) | (go_at_call 14; (with_reducible refine (sequencer_Check.calls kj7 a0 _ _ l1 t674 _ ?side1 ?side2 ?side3 A21.out).mono ?_); (case side1 => exact Kd.C_below HR1.out (by repeat (first | (with_reducible first | exact HB.out | apply below_alloc | apply pw_below_drewN | apply below_drew1 | refine below_set ?_ GE665.out | refine below_set ?_ GE672.out) | exact HB.out))); (case side2 => exact HC1.out); (case side3 => exact GW.below HG.out (by repeat (first | (with_reducible first | exact HB.out | apply below_alloc | apply pw_below_drewN | apply below_drew1 | refine below_set ?_ GE665.out | refine below_set ?_ GE672.out) | exact HB.out))); rintro e w33 ⟨rfl, hb⟩; have n0_ := Aside0.mk (Kd.R_below (by (with_reducible repeat (first | apply Kd.R_alloc | apply Kd.R_drewN | apply Kd.R_drew)); exact (Kd.R_mono (Kd.R_far (p := ⟨gb672, 1, none⟩) (Kd.R_far (p := ⟨gb672, 0, none⟩) (Kd.R_types HO661.out BK672.out (by decide)) (fun _ hk => hk.2) (.int .i64 t669)) (fun _ hk => hk.2) (.int .i64 t670)) (fun _ h_ => h_.1))) hb); have n1_ := Aside0.mk (Kd.R_below (by (with_reducible repeat (first | apply Kd.R_alloc | apply Kd.R_drewN | apply Kd.R_drew)); exact (Kd.R_mono (Kd.R_far (p := ⟨gb672, 1, none⟩) (Kd.R_far (p := ⟨gb672, 0, none⟩) (Kd.R_types HO668.out BK672.out (by decide)) (fun _ hk => hk.2) (.int .i64 t669)) (fun _ hk => hk.2) (.int .i64 t670)) (fun _ h_ => h_.1))) hb); have n2_ := Aside0.mk (blk_below (g := gb665) (o := .cells #[.int .i64 t662, .int .i64 t663] 27 (0, 0)) (by (with_reducible repeat (first | refine blk_drewN ?_ _ | refine blk_drew ?_ | refine blk_alloc ?_ _)); refine blk_far ?_ NB665_672.out _; (with_reducible repeat (first | refine blk_drewN ?_ _ | refine blk_drew ?_ | refine blk_alloc ?_ _)); refine blk_far ?_ NB665_672.out _; (with_reducible repeat (first | refine blk_drewN ?_ _ | refine blk_drew ?_ | refine blk_alloc ?_ _)); exact BK665.out) hb); have n3_ := Aside0.mk (blk_below (g := gb672) (o := .cells #[.int .i64 t669, .int .i64 t670] 27 (0, 0)) (by (with_reducible repeat (first | refine blk_drewN ?_ _ | refine blk_drew ?_ | refine blk_alloc ?_ _)); refine blk_put (cs := #[.int .i64 t669, .int .i64 0]) ?_ 1 _ rfl; (with_reducible repeat (first | refine blk_drewN ?_ _ | refine blk_drew ?_ | refine blk_alloc ?_ _)); refine blk_put (cs := #[.int .i64 0, .int .i64 0]) ?_ 0 _ rfl; (with_reducible repeat (first | refine blk_drewN ?_ _ | refine blk_drew ?_ | refine blk_alloc ?_ _)); exact BK672.out) hb); have n4_ := Aside0.mk (below_step (by repeat (first | (with_reducible first | exact HB.out | apply below_alloc | apply pw_below_drewN | apply below_drew1 | refine below_set ?_ GE665.out | refine below_set ?_ GE672.out) | exact HB.out)) hb); clear HO661; clear HO668; clear BK665; clear BK672; clear HB; have HO661 := n0_; have HO668 := n1_; have BK665 := n2_; have BK672 := n3_; have HB := n4_; clear n0_ n1_ n2_ n3_ n4_; (try clear hb); (try clear hb2); (try clear hk); (try clear hi)) | (go_at_call 15; (with_reducible refine (plenumref21_Check.calls kj7 a0 _ _ l1 t675 _ ?side1 ?side2 A22.out).mono ?_); (case side1 => repeat (first | exact (Kd.C_below HR1.out HB.out) | (with_reducible refine Kd.C_alloc ?_ _) | (with_reducible refine Kd.C_drewN ?_ _) | (with_reducible refine Kd.C_drew ?_))); (case side2 => exact HC1.out); rintro e w34 ⟨rfl, hb⟩; have n0_ := Aside0.mk (Kd.R_below (by (with_reducible repeat (first | apply Kd.R_alloc | apply Kd.R_drewN | apply Kd.R_drew)); exact HO661.out) hb); have n1_ := Aside0.mk (Kd.R_below (by (with_reducible repeat (first | apply Kd.R_alloc | apply Kd.R_drewN | apply Kd.R_drew)); exact HO668.out) hb); have n2_ := Aside0.mk (blk_below (g := gb665) (o := .cells #[.int .i64 t662, .int .i64 t663] 27 (0, 0)) (by (with_reducible repeat (first | refine blk_drewN ?_ _ | refine blk_drew ?_ | refine blk_alloc ?_ _)); exact BK665.out) hb); have n3_ := Aside0.mk (blk_below (g := gb672) (o := .cells #[.int .i64 t669, .int .i64 t670] 27 (0, 0)) (by (with_reducible repeat (first | refine blk_drewN ?_ _ | refine blk_drew ?_ | refine blk_alloc ?_ _)); exact BK672.out) hb); have n4_ := Aside0.mk (below_step (by repeat (first | (with_reducible first | exact HB.out | apply below_alloc | apply pw_below_drewN | apply below_drew1 | refine below_set ?_ GE665.out | refine below_set ?_ GE672.out) | exact HB.out)) hb); clear HO661; clear HO668; clear BK665; clear BK672; clear HB; have HO661 := n0_; have HO668 := n1_; have BK665 := n2_; have BK672 := n3_; have HB := n4_; clear n0_ n1_ n2_ n3_ n4_; (try clear hb); (try clear hb2); (try clear hk); (try clear hi)))
        go_ret
        exact ⟨by first | rfl | (simp [errW_none, errW_some] <;> rfl) | (simp [*, errW_none, errW_some] <;> rfl), by repeat (first | (with_reducible first | exact HB.out | apply below_alloc | apply pw_below_drewN | apply below_drew1 | refine below_set ?_ GE665.out | refine below_set ?_ GE672.out) | exact HB.out)⟩
       ·
        replace c20 := Bool.eq_false_iff.mpr c20
        subst c20
        rw [if_neg (show ¬ (false = true) by decide)] at H
        exact absurd H (by simp)
      ·
       rw [if_neg c18] at H
       exact absurd H (by simp)
     ·
      rw [if_neg c17] at H
      exact absurd H (by simp)
 ·
  replace c7 := Bool.eq_false_iff.mpr c7
  subst c7
  rw [if_neg (show ¬ (false = true) by decide)] at H
  exact absurd H (by simp)

end Go.Proofs.YtcpncmjjbfbdhaaDoor.R
