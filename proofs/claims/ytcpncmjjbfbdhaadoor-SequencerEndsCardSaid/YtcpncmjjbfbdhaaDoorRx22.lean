-- Written by this claim's own program out of the translation; not trusted: Lean checks it.
import Derived.Test.YtcpncmjjbfbdhaaDoorRx0
import Derived.Test.YtcpncmjjbfbdhaaDoorRx7
import Derived.Test.YtcpncmjjbfbdhaaDoorRx9
import Derived.Test.YtcpncmjjbfbdhaaDoorRx10
namespace Go.Proofs.YtcpncmjjbfbdhaaDoor.R
open Go.RowKit Go.Proofs.YtcpncmjjbfbdhaaDoorW.PrintWords Go.Proofs.YtcpncmjjbfbdhaaDoorW.PrintLast Go.Proofs.YtcpncmjjbfbdhaaDoorW.PrintMore
attribute [local go_sem] max2_int min2_int max_two min_two max_three min_three max_four min_four   -- for this text's walks alone
set_option linter.unusedVariables false
set_option linter.unusedSimpArgs false

/-! ### plenumlaw21_SequencerEnds: function 7 -/
mutual
def plenumlaw21_SequencerEnds.j0 : Nat → List Int → List Int → Int → Int → Int → Int → Bool → Option (Bool)
 | 0, _, _, _, _, _, _, _ => none
 | k + 1, x0, x1, x2, x3, x9, x10, x45 => if x45 = true then (some true) else (plenumlaw21_SequencerEnds.l0 k x0 x1 x2 x3 x9 x10 x1 1)
def plenumlaw21_SequencerEnds.l0 : Nat → List Int → List Int → Int → Int → Int → Int → List Int → Int → Option (Bool)
 | 0, _, _, _, _, _, _, _, _ => none
 | k + 1, x0, x1, x2, x3, x9, x10, x12, x13 => if x13 ≤ 330 then ((sequencer_Step.f k (⟨#[115, 116, 97, 103, 101]⟩ : ByteArray) x0 x12 (([(⟨1, x2⟩ : S27)] : List (S27))) x3).bind fun bt779 => (if bt779.2.2.2 = 0 then (if (bt779.1.length : Int) = 2 then (if x13 ≥ x10 then (if 0 < (bt779.1.length : Int) then (if (rd bt779.1 0) = x9 then (if x13 = (wrap64 (x10 - 1)) then (if x10 > 0 then (none) else (plenumlaw21_SequencerEnds.l0 k x0 x1 x2 x3 x9 x10 bt779.1 (wrap64 (x13 + 1)))) else (plenumlaw21_SequencerEnds.l0 k x0 x1 x2 x3 x9 x10 bt779.1 (wrap64 (x13 + 1)))) else (none)) else (none)) else (if x13 = (wrap64 (x10 - 1)) then (if 0 < (bt779.1.length : Int) then (if (rd bt779.1 0) = x9 then (if x10 > 0 then (none) else (plenumlaw21_SequencerEnds.l0 k x0 x1 x2 x3 x9 x10 bt779.1 (wrap64 (x13 + 1)))) else (plenumlaw21_SequencerEnds.l0 k x0 x1 x2 x3 x9 x10 bt779.1 (wrap64 (x13 + 1)))) else (none)) else (plenumlaw21_SequencerEnds.l0 k x0 x1 x2 x3 x9 x10 bt779.1 (wrap64 (x13 + 1))))) else (none)) else (none))) else (if 1 < (x0.length : Int) then (if x2 > (rd x0 1) then (if 0 < (x0.length : Int) then (some (x9 == (rd x0 0))) else (none)) else (if 2 < (x0.length : Int) then (if x2 < (rd x0 2) then (some (x9 == 0)) else (if 0 < (x1.length : Int) then (if x9 = (rd x1 0) then (some (x10 == 0)) else (none)) else (none))) else (none))) else (none))
end
def plenumlaw21_SequencerEnds.f (k : Nat) (l0 : List Int) (l1 : List Int) (a2 : Int) (a3 : Int) : Option (Bool) := (plenumlaw21_awake.f k).bind fun t770 => (if t770 = true then ((sequencer_Settle.f k l0 l1 a2 a3).bind fun bt771 => (if bt771.2.2 = 0 then (if 3 < (l0.length : Int) then (if (rd l0 3) > (wrap64 (20 * a3)) then (plenumlaw21_SequencerEnds.j0 k l0 l1 a2 a3 bt771.1 bt771.2.1 true) else (if 4 < (l0.length : Int) then (plenumlaw21_SequencerEnds.j0 k l0 l1 a2 a3 bt771.1 bt771.2.1 (decide ((rd l0 4) > (wrap64 (20 * a3))))) else (none))) else (none)) else (plenumlaw21_SequencerEnds.j0 k l0 l1 a2 a3 bt771.1 bt771.2.1 true))) else (none))
theorem plenumlaw21_SequencerEnds.mono_l : ∀ k, (∀ y0 y1 y2 y3 y4 y5 y6, LeO (plenumlaw21_SequencerEnds.j0 k y0 y1 y2 y3 y4 y5 y6) (plenumlaw21_SequencerEnds.j0 (k + 1) y0 y1 y2 y3 y4 y5 y6)) ∧ (∀ y0 y1 y2 y3 y4 y5 y6 y7, LeO (plenumlaw21_SequencerEnds.l0 k y0 y1 y2 y3 y4 y5 y6 y7) (plenumlaw21_SequencerEnds.l0 (k + 1) y0 y1 y2 y3 y4 y5 y6 y7))
 | 0 => ⟨fun _ _ _ _ _ _ _ r h => by simp [plenumlaw21_SequencerEnds.j0] at h, fun _ _ _ _ _ _ _ _ r h => by simp [plenumlaw21_SequencerEnds.l0] at h⟩
 | k + 1 => by
  obtain ⟨ih0, ih1⟩ := plenumlaw21_SequencerEnds.mono_l k
  refine ⟨?_, ?_⟩
  ·
   intro y0 y1 y2 y3 y4 y5 y6
   unfold plenumlaw21_SequencerEnds.j0
   repeat' first
   | (with_reducible exact ih0 _ _ _ _ _ _ _)
   | (with_reducible exact ih1 _ _ _ _ _ _ _ _)
   | (with_reducible exact plenumlaw21_awake.mono _)
   | (with_reducible exact sequencer_Settle.mono _ _ _ _ _)
   | (with_reducible exact sequencer_Step.mono _ _ _ _ _ _)
   | (with_reducible exact LeO.refl _)
   | (with_reducible exact LeO.none _)
   | (with_reducible refine LeO.ite ?_ ?_)
   | (with_reducible refine LeO.bind ?_ (fun _ => ?_))
   | exact ih0 _ _ _ _ _ _ _
   | exact ih1 _ _ _ _ _ _ _ _
   | exact plenumlaw21_awake.mono _
   | exact sequencer_Settle.mono _ _ _ _ _
   | exact sequencer_Step.mono _ _ _ _ _ _
   | exact LeO.none _
   | refine LeO.ite ?_ ?_
   | refine LeO.bind ?_ (fun _ => ?_)
  ·
   intro y0 y1 y2 y3 y4 y5 y6 y7
   unfold plenumlaw21_SequencerEnds.l0
   repeat' first
   | (with_reducible exact ih0 _ _ _ _ _ _ _)
   | (with_reducible exact ih1 _ _ _ _ _ _ _ _)
   | (with_reducible exact plenumlaw21_awake.mono _)
   | (with_reducible exact sequencer_Settle.mono _ _ _ _ _)
   | (with_reducible exact sequencer_Step.mono _ _ _ _ _ _)
   | (with_reducible exact LeO.refl _)
   | (with_reducible exact LeO.none _)
   | (with_reducible refine LeO.ite ?_ ?_)
   | (with_reducible refine LeO.bind ?_ (fun _ => ?_))
   | exact ih0 _ _ _ _ _ _ _
   | exact ih1 _ _ _ _ _ _ _ _
   | exact plenumlaw21_awake.mono _
   | exact sequencer_Settle.mono _ _ _ _ _
   | exact sequencer_Step.mono _ _ _ _ _ _
   | exact LeO.none _
   | refine LeO.ite ?_ ?_
   | refine LeO.bind ?_ (fun _ => ?_)
theorem plenumlaw21_SequencerEnds.mono : ∀ a0 a1 a2 a3 k, LeO (plenumlaw21_SequencerEnds.f k a0 a1 a2 a3) (plenumlaw21_SequencerEnds.f (k + 1) a0 a1 a2 a3) := by
 intro a0 a1 a2 a3 k
 obtain ⟨ih0, ih1⟩ := plenumlaw21_SequencerEnds.mono_l k
 unfold plenumlaw21_SequencerEnds.f
 repeat' first
   | (with_reducible exact ih0 _ _ _ _ _ _ _)
   | (with_reducible exact ih1 _ _ _ _ _ _ _ _)
   | (with_reducible exact plenumlaw21_awake.mono _)
   | (with_reducible exact sequencer_Settle.mono _ _ _ _ _)
   | (with_reducible exact sequencer_Step.mono _ _ _ _ _ _)
   | (with_reducible exact LeO.refl _)
   | (with_reducible exact LeO.none _)
   | (with_reducible refine LeO.ite ?_ ?_)
   | (with_reducible refine LeO.bind ?_ (fun _ => ?_))
   | exact ih0 _ _ _ _ _ _ _
   | exact ih1 _ _ _ _ _ _ _ _
   | exact plenumlaw21_awake.mono _
   | exact sequencer_Settle.mono _ _ _ _ _
   | exact sequencer_Step.mono _ _ _ _ _ _
   | exact LeO.none _
   | refine LeO.ite ?_ ?_
   | refine LeO.bind ?_ (fun _ => ?_)
set_option maxHeartbeats 8000000 in
set_option maxRecDepth 100000 in
theorem plenumlaw21_SequencerEnds.calls (k : Nat) (A0 : Option Addr) (c0 : Nat) (l0 : List Int) (P1_ : Nat → Prop) (A1 : Option Addr) (c1 : Nat) (l1 : List Int) (a2 : Int) (a3 : Int) (r : Bool) (w : World) (hr0 : Kd.C (Kd.int .i64) w A0 l0.length l0) (hc0 : l0.length ≤ c0) (hs1 : Kd.V (Kd.int .i64) 2 w w.heap.size (fun k_ => P1_ k_) (.slice A1 l1.length c1) l1) (hG : GW w) (h : plenumlaw21_SequencerEnds.f k l0 l1 a2 a3 = some r) :
  Calls Tryd.prog 7 #[.slice A0 l0.length c0, .slice A1 l1.length c1, .int .i64 a2, .int .i64 a3] w fun e w' => e = .returned (.bool r) ∧ Below w.heap.size w w' := by
 have hu27 := Tryd.underlying27
 have HG := Aside0.mk hG
 clear hG
 have HR0 := Aside0.mk hr0
 have HC0 := Aside0.mk hc0
 clear hr0 hc0
 have HO1 := Aside0.mk (show Kd.V (Kd.int .i64) 2 w w.heap.size (fun k_ => (P1_ k_ ∨ w.heap.size ≤ k_)) (.slice A1 l1.length c1) l1 from Kd.V_mono hs1 (fun k_ hk => .inl hk))
 have HB := Aside0.mk (Below.refl w.heap.size w)
 have H : ((plenumlaw21_awake.f k).bind fun t770 => (if t770 = true then ((sequencer_Settle.f k l0 l1 a2 a3).bind fun bt771 => (if bt771.2.2 = 0 then (if 3 < (l0.length : Int) then (if (rd l0 3) > (wrap64 (20 * a3)) then (plenumlaw21_SequencerEnds.j0 k l0 l1 a2 a3 bt771.1 bt771.2.1 true) else (if 4 < (l0.length : Int) then (plenumlaw21_SequencerEnds.j0 k l0 l1 a2 a3 bt771.1 bt771.2.1 (decide ((rd l0 4) > (wrap64 (20 * a3))))) else (none))) else (none)) else (plenumlaw21_SequencerEnds.j0 k l0 l1 a2 a3 bt771.1 bt771.2.1 true))) else (none))) = some r := h
 clear h
 replace H := Option.bind_eq_some_iff.mp H
 obtain ⟨t770, A50, H⟩ := H
 replace H : (if t770 = true then ((sequencer_Settle.f k l0 l1 a2 a3).bind fun bt771 => (if bt771.2.2 = 0 then (if 3 < (l0.length : Int) then (if (rd l0 3) > (wrap64 (20 * a3)) then (plenumlaw21_SequencerEnds.j0 k l0 l1 a2 a3 bt771.1 bt771.2.1 true) else (if 4 < (l0.length : Int) then (plenumlaw21_SequencerEnds.j0 k l0 l1 a2 a3 bt771.1 bt771.2.1 (decide ((rd l0 4) > (wrap64 (20 * a3))))) else (none))) else (none)) else (plenumlaw21_SequencerEnds.j0 k l0 l1 a2 a3 bt771.1 bt771.2.1 true))) else (none)) = some r := H
 have A5 := Aside0.mk A50
 clear A50
 by_cases c6 : t770 = true
 ·
  subst c6
  have H1 : ((sequencer_Settle.f k l0 l1 a2 a3).bind fun bt771 => (if bt771.2.2 = 0 then (if 3 < (l0.length : Int) then (if (rd l0 3) > (wrap64 (20 * a3)) then (plenumlaw21_SequencerEnds.j0 k l0 l1 a2 a3 bt771.1 bt771.2.1 true) else (if 4 < (l0.length : Int) then (plenumlaw21_SequencerEnds.j0 k l0 l1 a2 a3 bt771.1 bt771.2.1 (decide ((rd l0 4) > (wrap64 (20 * a3))))) else (none))) else (none)) else (plenumlaw21_SequencerEnds.j0 k l0 l1 a2 a3 bt771.1 bt771.2.1 true))) = some r := by rw [if_pos rfl] at H; exact H
  clear H
  have H := H1
  clear H1
  replace H := Option.bind_eq_some_iff.mp H
  obtain ⟨⟨t771, t772, t773⟩, A70, H⟩ := H
  replace H : (if t773 = 0 then (if 3 < (l0.length : Int) then (if (rd l0 3) > (wrap64 (20 * a3)) then (plenumlaw21_SequencerEnds.j0 k l0 l1 a2 a3 t771 t772 true) else (if 4 < (l0.length : Int) then (plenumlaw21_SequencerEnds.j0 k l0 l1 a2 a3 t771 t772 (decide ((rd l0 4) > (wrap64 (20 * a3))))) else (none))) else (none)) else (plenumlaw21_SequencerEnds.j0 k l0 l1 a2 a3 t771 t772 true)) = some r := H
  have A7 := Aside0.mk A70
  clear A70
  have HC8 := Aside0.mk H
  clear H
  go_enter Tryd.func7, Tryd.ntmps7
  go_upto_region 4 with (first | ((with_reducible refine gate_callee (f := 9) rfl ?_); refine goesL_ (some 17) rfl rfl Tryd.func9 (by kernel_rfl) rfl #[] rfl (by (try simp only [List.map_toArray, List.map_cons, List.map_nil]); first | done | rfl | (simp only [List.length_drop, List.length_take]; rfl)) ?_; (with_reducible refine (plenumlaw21_awake.calls k  true _ ?side1 A5.out).mono ?_); (case side1 => exact GW.below HG.out bl); rintro e w9 ⟨rfl, hb⟩; refine ⟨_, rfl, ?_⟩; have n0_ := Aside0.mk (Kd.V_below (by (with_reducible repeat (first | apply Kd.V_alloc | apply Kd.V_drewN | apply Kd.V_drew)); exact HO1.out) hb); have n1_ := Aside0.mk (below_step bl hb); clear HO1; clear HB; have HO1 := n0_; have HB := n1_; clear n0_ n1_; (try clear hb); (try clear hb2); (try clear hk); (try clear hi)) | ((with_reducible refine gate_callee (f := 16) rfl ?_); refine goesL_ (some 24) rfl rfl Tryd.func16 (by kernel_rfl) rfl #[.slice A0 l0.length c0, .slice A1 l1.length c1, .int .i64 a2, .int .i64 a3] rfl (by (try simp only [List.map_toArray, List.map_cons, List.map_nil]); first | done | rfl | (simp only [List.length_drop, List.length_take]; rfl)) ?_; (with_reducible refine (sequencer_Settle.calls k _ _ l0 (fun k_ => (P1_ k_ ∨ w.heap.size ≤ k_)) _ _ l1 a2 a3 t771 t772 t773 _ ?side1 ?side2 ?side3 ?side4 A7.out).mono ?_); (case side1 => repeat (first | exact (Kd.C_below HR0.out HB.out) | (with_reducible refine Kd.C_alloc ?_ _) | (with_reducible refine Kd.C_drewN ?_ _) | (with_reducible refine Kd.C_drew ?_))); (case side2 => exact HC0.out); (case side3 => exact HO1.out); (case side4 => exact GW.below HG.out bl); rintro e w10 ⟨rfl, hb⟩; refine ⟨_, rfl, ?_⟩; have n0_ := Aside0.mk (Kd.V_below (by (with_reducible repeat (first | apply Kd.V_alloc | apply Kd.V_drewN | apply Kd.V_drew)); exact HO1.out) hb); have n1_ := Aside0.mk (below_step bl hb); clear HO1; clear HB; have HO1 := n0_; have HB := n1_; clear n0_ n1_; (try clear hb); (try clear hb2); (try clear hk); (try clear hi)))
  (try simp only [Act.put, List.setIfInBounds_toArray, List.set_cons_zero, List.set_cons_succ])
  go_cut [45] (fun v45 wc => ∃ (kq : Nat) (x45_7 : Bool), v45 = .bool x45_7 ∧ Aside0 (plenumlaw21_SequencerEnds.j0 kq l0 l1 a2 a3 t771 t772 x45_7 = some r) ∧ Aside0 (kq ≤ k) ∧ Aside0 (Kd.V (Kd.int .i64) 2 wc w.heap.size (fun k_ => (P1_ k_ ∨ w.heap.size ≤ k_)) (.slice A1 l1.length c1) l1) ∧ Aside0 (Below w.heap.size w wc))
  case first =>
   have H := HC8.out
   clear HC8
   by_cases c11 : t773 = 0
   ·
    rw [if_pos c11] at H
    have c11b0 : (t773 == 0) = true := beq_iff_eq.mpr c11
    have c11b1 : (t773 != 0) = false := bne_eq_false_iff_eq.mpr c11
    clear c11
    (first | rw [c11b0] | (simp only [i64_w, i32_w]; rw [c11b0]) | skip)
    by_cases c12 : 3 < (l0.length : Int)
    ·
     rw [if_pos c12] at H
     have c12b0 : decide (3 < (l0.length : Int)) = true := decide_eq_true c12
     have c12b1 : decide (3 < l0.length) = true := decide_eq_true (by omega)
     clear c12
     by_cases c13 : (rd l0 3) > (wrap64 (20 * a3))
     ·
      rw [if_pos c13] at H
      have c13b0 : decide ((wrap64 (20 * a3)) < (rd l0 3)) = true := decide_eq_true c13
      clear c13
      have H' := Aside0.mk H
      clear H
      have p774 : 0 ≤ (3 : Int) := (by omega)
      have q774 : 3 < (l0.length : Int) := of_decide_eq_true (by first | (with_reducible assumption) | assumption)
      obtain ⟨ad774, e774, hx774_0⟩ := Kd.at_int HR0.out 3 p774 q774
      cases e774
      (try simp only [show (3 : Int).toNat = 3 from rfl, Nat.reduceMul, Nat.reduceEqDiff, Go.Addr.add, ↓reduceIte] at hx774_0)
      have qi774 : (3 < l0.length) = True := eq_true (by omega)
      (try rw [show ((3 : Int)).toNat = 3 from rfl] at hx774_0)
      replace hx774_0 := (HB.out.cell (World.block_lt_of_cell? w _ hx774_0)).trans hx774_0
      replace p774 := eq_true p774
      replace q774 := eq_true q774
      go_wp2
      go_meet
      case rel => exact ⟨_, (true), (by first | rfl | (simp; done) | (simp [*]; done)), H', ⟨by first | omega | exact Nat.le_refl _⟩, ⟨by (with_reducible repeat (first | apply Kd.V_alloc | apply Kd.V_drewN | apply Kd.V_drew)); exact HO1.out⟩, ⟨bl⟩⟩
     ·
      rw [if_neg c13] at H
      have c13b0 : decide ((wrap64 (20 * a3)) < (rd l0 3)) = false := decide_eq_false c13
      clear c13
      by_cases c14 : 4 < (l0.length : Int)
      ·
       rw [if_pos c14] at H
       have c14b0 : decide (4 < (l0.length : Int)) = true := decide_eq_true c14
       have c14b1 : decide (4 < l0.length) = true := decide_eq_true (by omega)
       clear c14
       have H' := Aside0.mk H
       clear H
       have p774 : 0 ≤ (3 : Int) := (by omega)
       have q774 : 3 < (l0.length : Int) := of_decide_eq_true (by first | (with_reducible assumption) | assumption)
       obtain ⟨ad774, e774, hx774_0⟩ := Kd.at_int HR0.out 3 p774 q774
       cases e774
       (try simp only [show (3 : Int).toNat = 3 from rfl, Nat.reduceMul, Nat.reduceEqDiff, Go.Addr.add, ↓reduceIte] at hx774_0)
       have qi774 : (3 < l0.length) = True := eq_true (by omega)
       (try rw [show ((3 : Int)).toNat = 3 from rfl] at hx774_0)
       replace hx774_0 := (HB.out.cell (World.block_lt_of_cell? w _ hx774_0)).trans hx774_0
       replace p774 := eq_true p774
       replace q774 := eq_true q774
       have p775 : 0 ≤ (4 : Int) := (by omega)
       have q775 : 4 < (l0.length : Int) := of_decide_eq_true (by first | (with_reducible assumption) | assumption)
       obtain ⟨ad775, e775, hx775_0⟩ := Kd.at_int HR0.out 4 p775 q775
       obtain rfl : ad774 = ad775 := (by injection e775)
       (try simp only [show (4 : Int).toNat = 4 from rfl, Nat.reduceMul, Nat.reduceEqDiff, Go.Addr.add, ↓reduceIte] at hx775_0)
       have qi775 : (4 < l0.length) = True := eq_true (by omega)
       (try rw [show ((4 : Int)).toNat = 4 from rfl] at hx775_0)
       replace hx775_0 := (HB.out.cell (World.block_lt_of_cell? w _ hx775_0)).trans hx775_0
       replace p775 := eq_true p775
       replace q775 := eq_true q775
       go_wp2
       go_meet
       case rel => exact ⟨_, (decide ((rd l0 4) > (wrap64 (20 * a3)))), (by first | rfl | (simp; done) | (simp [*]; done)), H', ⟨by first | omega | exact Nat.le_refl _⟩, ⟨by (with_reducible repeat (first | apply Kd.V_alloc | apply Kd.V_drewN | apply Kd.V_drew)); exact HO1.out⟩, ⟨bl⟩⟩
      ·
       rw [if_neg c14] at H
       exact absurd H (by simp)
    ·
     rw [if_neg c12] at H
     exact absurd H (by simp)
   ·
    rw [if_neg c11] at H
    have c11b0 : (t773 == 0) = false := beq_eq_false_iff_ne.mpr c11
    have c11b1 : (t773 != 0) = true := bne_iff_ne.mpr c11
    (first | rw [c11b0] | (simp only [i64_w, i32_w]; rw [c11b0]) | skip)
    have H' := Aside0.mk H
    clear H
    go_wp2
    go_meet
    case rel => exact ⟨_, (true), (by first | rfl | (simp; done) | (simp [*]; done)), H', ⟨by first | omega | exact Nat.le_refl _⟩, ⟨by (with_reducible repeat (first | apply Kd.V_alloc | apply Kd.V_drewN | apply Kd.V_drew)); exact HO1.out⟩, ⟨bl⟩⟩
  case rest =>
   clear HC8
   try clear c1
   try clear p2
   try clear c6
   try clear p6
   try clear c7
   try clear p7
   try clear q7
   try clear hx7
   try clear qi7
   try clear c9
   try clear c11
   try clear c11b0
   try clear c11b1
   try clear c12
   try clear c12b0
   try clear c12b1
   try clear c13
   try clear c13b0
   try clear c14
   try clear c14b0
   try clear c14b1
   try clear hx774_0
   try clear hx775_0
   try clear p774
   try clear p775
   try clear q774
   try clear q775
   obtain ⟨kq, x45_7, rfl, HA, HJ7, HO_1, HB⟩ := hcut
   cases kq with
   | zero => exact absurd HA.out (by simp [plenumlaw21_SequencerEnds.j0])
   | succ kj7 =>
    have H := HA.out
    clear HA
    simp only [plenumlaw21_SequencerEnds.j0] at H
    by_cases c15 : x45_7 = true
    ·
     subst c15
     have H1 : (some true) = some r := by rw [if_pos rfl] at H; exact H
     clear H
     have H := H1
     clear H1
     obtain rfl := Option.some.inj H
     go_wp2
     go_ret
     exact ⟨by first | rfl | (simp [errW_none, errW_some] <;> rfl) | (simp [*, errW_none, errW_some] <;> rfl), bl⟩
    ·
     replace c15 := Bool.eq_false_iff.mpr c15
     subst c15
     have H1 : (plenumlaw21_SequencerEnds.l0 kj7 l0 l1 a2 a3 t771 t772 l1 1) = some r := by rw [if_neg (show ¬ (false = true) by decide)] at H; exact H
     clear H
     have H := H1
     clear H1
     have H' := Aside0.mk H
     clear H
     go_wp2
     go_loopg [12, 13] kj7 (fun kq v12 v13 w' => ∃ (x12_2 : List Int) (x13_2 : Int), v13 = .int .i64 x13_2 ∧ Aside0 (plenumlaw21_SequencerEnds.l0 kq l0 l1 a2 a3 t771 t772 x12_2 x13_2 = some r) ∧ Aside0 (kq ≤ kj7) ∧ Aside0 (Kd.V (Kd.int .i64) 2 w' w.heap.size (fun k_ => (P1_ k_ ∨ w.heap.size ≤ k_)) (.slice A1 l1.length c1) l1) ∧ Aside0 (Kd.V (Kd.int .i64) 2 w' w.heap.size (fun k_ => (P1_ k_ ∨ w.heap.size ≤ k_)) v12 x12_2) ∧ Aside0 (Below w.heap.size w w'))
     case atStart => exact ⟨(l1), (1), (by first | rfl | (simp; done) | (simp [*]; done)), H', ⟨Nat.le_refl _⟩, ⟨by (with_reducible repeat (first | apply Kd.V_alloc | apply Kd.V_drewN | apply Kd.V_drew)); exact HO_1.out⟩, ⟨by (with_reducible repeat (first | apply Kd.V_alloc | apply Kd.V_drewN | apply Kd.V_drew)); exact HO_1.out⟩, ⟨bl⟩⟩
     case round =>
      clear H'
      try clear c1
      try clear p2
      try clear c6
      try clear p6
      try clear c7
      try clear p7
      try clear q7
      try clear hx7
      try clear qi7
      try clear c9
      try clear c11
      try clear c11b0
      try clear c11b1
      try clear c12
      try clear c12b0
      try clear c12b1
      try clear c13
      try clear c13b0
      try clear c14
      try clear c14b0
      try clear c14b1
      try clear c15
      try clear hx774_0
      try clear hx775_0
      try clear p2
      try clear p6
      try clear p7
      try clear p774
      try clear p775
      try clear q7
      try clear q774
      try clear q775
      obtain ⟨x12_2, x13_2, rfl, HA, HK2, HO_1, HO_12, HB⟩ := hrel
      cases gk with
      | zero => exact absurd HA.out (by simp [plenumlaw21_SequencerEnds.l0])
      | succ k2 =>
       have H := HA.out
       clear HA
       simp only [plenumlaw21_SequencerEnds.l0] at H
       by_cases c16 : x13_2 ≤ 330
       ·
        rw [if_pos c16] at H
        have c16b0 : decide (x13_2 ≤ 330) = true := decide_eq_true c16
        clear c16
        obtain ⟨y776, hy776⟩ : ∃ y_ : List (S27), y_ = (([(⟨1, a2⟩ : S27)] : List (S27))) := ⟨_, rfl⟩
        replace H : ((sequencer_Step.f k2 (⟨#[115, 116, 97, 103, 101]⟩ : ByteArray) l0 x12_2 y776 a3).bind fun bt779 => (if bt779.2.2.2 = 0 then (if (bt779.1.length : Int) = 2 then (if x13_2 ≥ t772 then (if 0 < (bt779.1.length : Int) then (if (rd bt779.1 0) = t771 then (if x13_2 = (wrap64 (t772 - 1)) then (if t772 > 0 then (none) else (plenumlaw21_SequencerEnds.l0 k2 l0 l1 a2 a3 t771 t772 bt779.1 (wrap64 (x13_2 + 1)))) else (plenumlaw21_SequencerEnds.l0 k2 l0 l1 a2 a3 t771 t772 bt779.1 (wrap64 (x13_2 + 1)))) else (none)) else (none)) else (if x13_2 = (wrap64 (t772 - 1)) then (if 0 < (bt779.1.length : Int) then (if (rd bt779.1 0) = t771 then (if t772 > 0 then (none) else (plenumlaw21_SequencerEnds.l0 k2 l0 l1 a2 a3 t771 t772 bt779.1 (wrap64 (x13_2 + 1)))) else (plenumlaw21_SequencerEnds.l0 k2 l0 l1 a2 a3 t771 t772 bt779.1 (wrap64 (x13_2 + 1)))) else (none)) else (plenumlaw21_SequencerEnds.l0 k2 l0 l1 a2 a3 t771 t772 bt779.1 (wrap64 (x13_2 + 1))))) else (none)) else (none))) = some r := by first | (rw [hy776]; with_reducible exact H) | (have H2_ := (Option.bind_some _ _).symm.trans H; rw [hy776]; with_reducible exact H2_) | (have H2_ := (Option.bind_some _ _).symm.trans H; with_reducible exact H2_) | with_reducible exact H | (rw [hy776]; exact H) | exact H
        have Ny776 := Aside0.mk hy776
        clear hy776
        replace H := Option.bind_eq_some_iff.mp H
        obtain ⟨⟨t779, t782, t783, t784⟩, A170, H⟩ := H
        replace H : (if t784 = 0 then (if (t779.length : Int) = 2 then (if x13_2 ≥ t772 then (if 0 < (t779.length : Int) then (if (rd t779 0) = t771 then (if x13_2 = (wrap64 (t772 - 1)) then (if t772 > 0 then (none) else (plenumlaw21_SequencerEnds.l0 k2 l0 l1 a2 a3 t771 t772 t779 (wrap64 (x13_2 + 1)))) else (plenumlaw21_SequencerEnds.l0 k2 l0 l1 a2 a3 t771 t772 t779 (wrap64 (x13_2 + 1)))) else (none)) else (none)) else (if x13_2 = (wrap64 (t772 - 1)) then (if 0 < (t779.length : Int) then (if (rd t779 0) = t771 then (if t772 > 0 then (none) else (plenumlaw21_SequencerEnds.l0 k2 l0 l1 a2 a3 t771 t772 t779 (wrap64 (x13_2 + 1)))) else (plenumlaw21_SequencerEnds.l0 k2 l0 l1 a2 a3 t771 t772 t779 (wrap64 (x13_2 + 1)))) else (none)) else (plenumlaw21_SequencerEnds.l0 k2 l0 l1 a2 a3 t771 t772 t779 (wrap64 (x13_2 + 1))))) else (none)) else (none)) = some r := H
        have A17 := Aside0.mk A170
        clear A170
        by_cases c18 : t784 = 0
        ·
         rw [if_pos c18] at H
         have c18b0 : (t784 == 0) = true := beq_iff_eq.mpr c18
         have c18b1 : (t784 != 0) = false := bne_eq_false_iff_eq.mpr c18
         clear c18
         by_cases c19 : (t779.length : Int) = 2
         ·
          rw [if_pos c19] at H
          have c19b0 : ((t779.length : Int) == 2) = true := beq_iff_eq.mpr c19
          have c19b1 : ((t779.length : Int) != 2) = false := bne_eq_false_iff_eq.mpr c19
          clear c19
          by_cases c20 : x13_2 ≥ t772
          ·
           rw [if_pos c20] at H
           have c20b0 : decide (t772 ≤ x13_2) = true := decide_eq_true c20
           clear c20
           by_cases c21 : 0 < (t779.length : Int)
           ·
            rw [if_pos c21] at H
            have c21b0 : decide (0 < (t779.length : Int)) = true := decide_eq_true c21
            have c21b1 : decide (0 < t779.length) = true := decide_eq_true (by omega)
            clear c21
            by_cases c22 : (rd t779 0) = t771
            ·
             rw [if_pos c22] at H
             have c22b0 : ((rd t779 0) == t771) = true := beq_iff_eq.mpr c22
             have c22b1 : ((rd t779 0) != t771) = false := bne_eq_false_iff_eq.mpr c22
             clear c22
             by_cases c23 : x13_2 = (wrap64 (t772 - 1))
             ·
              rw [if_pos c23] at H
              have c23b0 : (x13_2 == (wrap64 (t772 - 1))) = true := beq_iff_eq.mpr c23
              have c23b1 : (x13_2 != (wrap64 (t772 - 1))) = false := bne_eq_false_iff_eq.mpr c23
              clear c23
              by_cases c24 : t772 > 0
              ·
               rw [if_pos c24] at H
               exact absurd H (by simp)
              ·
               rw [if_neg c24] at H
               have c24b0 : decide (0 < t772) = false := decide_eq_false c24
               clear c24
               have H' := Aside0.mk H
               clear H
               go_wp2_with (first | ((with_reducible refine gate_dst (N := 56) rfl ?_); (try (refine gate_guard (by rfl) ?_; dsimp only)); refine Kd.R_lit k27 _ 27 ?hg (N := 56) ?hd (xs := ([(⟨1, a2⟩ : S27)] : List (S27))) (inner := [.int .i64 1, .int .i64 a2]) (ok := fun _ => True) (okp := fun _ => True) ?hr ?hp (fun _ hk => hk) trivial (Below.refl _ _) (Nat.le_refl _) (by simp) ?_; (case hd => rfl); (case hg => rfl); (case hr => first | (go_simp; done) | (go_simp; rfl)); (case hp => exact (Reps.c2 (show Kd.M k27 _ _ _ (⟨1, a2⟩ : S27) [.int .i64 1, .int .i64 a2] from (k27_mkM _ _ _ (⟨1, a2⟩ : S27) )) (Reps.none _ _))); intro v777 w25 ho26 hb hg_ hnew_; clear hg_ hnew_; (first | rw [← Ny776.out] at ho26 | (simp only [Int.reduceToNat] at ho26; rw [← Ny776.out] at ho26)); have n0_ := Aside0.mk (Kd.V_elder' (by (with_reducible repeat (first | apply Kd.V_alloc | apply Kd.V_drewN | apply Kd.V_drew)); exact HO_1.out) (Kd.R_base ho26) hb); have n1_ := Aside0.mk (Kd.V_elder' (by (with_reducible repeat (first | apply Kd.V_alloc | apply Kd.V_drewN | apply Kd.V_drew)); exact HO_12.out) (Kd.R_base ho26) hb); have n2_ := Aside0.mk (Kd.R_lower (Kd.R_newM (M := fun k_ => (w.heap.size ≤ k_)) ho26 (below_size bl) (fun k_ h_ => h_)) (below_size bl)); have n3_ := Aside0.mk (below_step bl hb); clear HO_1; clear HO_12; clear HB; have HO_1 := n0_; have HO_12 := n1_; have HO778 := n2_; have HB := n3_; clear n0_ n1_ n2_ n3_; clear hb ho26; obtain ⟨Ao27, co27, eo27⟩ := Kd.V_slice HO_12.out; subst eo27; obtain ⟨Ao28, co28, eo28⟩ := Kd.R_slice HO778.out; subst eo28) | ((with_reducible refine gate_callee (f := 11) rfl ?_); refine goesL_ (some 58) rfl rfl Tryd.func11 (by kernel_rfl) rfl #[.string (⟨#[115, 116, 97, 103, 101]⟩ : ByteArray), .slice A0 l0.length c0, .slice Ao27 x12_2.length co27, .slice Ao28 y776.length co28, .int .i64 a3] rfl (by (try simp only [List.map_toArray, List.map_cons, List.map_nil]); first | done | rfl | (simp only [List.length_drop, List.length_take]; rfl)) ?_; (with_reducible refine (sequencer_Step.calls k2 (⟨#[115, 116, 97, 103, 101]⟩ : ByteArray) _ _ l0 _ _ x12_2 _ _ y776 a3 t779 t782 t783 t784 _ ?side1 ?side2 ?side3 ?side4 ?side5 ?side6 ?side7 A17.out).mono ?_); (case side1 => repeat (first | exact (Kd.C_below HR0.out HB.out) | (with_reducible refine Kd.C_alloc ?_ _) | (with_reducible refine Kd.C_drewN ?_ _) | (with_reducible refine Kd.C_drew ?_))); (case side2 => exact HC0.out); (case side3 => repeat (first | exact (Kd.V_reads' HO_12.out).2.2 | (with_reducible refine Kd.C_alloc ?_ _) | (with_reducible refine Kd.C_drewN ?_ _) | (with_reducible refine Kd.C_drew ?_))); (case side4 => exact (Kd.V_reads' HO_12.out).2.1); (case side5 => repeat (first | exact (Kd.R_reads' HO778.out).2.2 | (with_reducible refine Kd.C_alloc ?_ _) | (with_reducible refine Kd.C_drewN ?_ _) | (with_reducible refine Kd.C_drew ?_))); (case side6 => exact (Kd.R_reads' HO778.out).2.1); (case side7 => exact GW.below HG.out bl); rintro e w29 ⟨v780, rfl, ho0, hb⟩; refine ⟨_, rfl, ?_⟩; have n0_ := Aside0.mk (Kd.V_elder' (by (with_reducible repeat (first | apply Kd.V_alloc | apply Kd.V_drewN | apply Kd.V_drew)); exact HO_1.out) (Kd.R_base ho0) hb); have n1_ := Aside0.mk (Kd.V_elder' (by (with_reducible repeat (first | apply Kd.V_alloc | apply Kd.V_drewN | apply Kd.V_drew)); exact HO_12.out) (Kd.R_base ho0) hb); have n2_ := Aside0.mk (Kd.R_below (by (with_reducible repeat (first | apply Kd.R_alloc | apply Kd.R_drewN | apply Kd.R_drew)); exact HO778.out) hb); have n3_ := Aside0.mk (Kd.R_lower (Kd.R_newM (M := fun k_ => (w.heap.size ≤ k_)) ho0 (below_size bl) (fun k_ h_ => h_)) (below_size bl)); have n4_ := Aside0.mk (below_step bl hb); clear HO_1; clear HO_12; clear HO778; clear HB; have HO_1 := n0_; have HO_12 := n1_; have HO778 := n2_; have HO781 := n3_; have HB := n4_; clear n0_ n1_ n2_ n3_ n4_; (try clear hb); (try clear hb2); (try clear hk); (try clear hi); (try clear ho0)) | ((with_reducible refine gate_dst (N := 15) rfl ?_); (try (refine gate_guard (by rfl) ?_; dsimp only)); refine box_event ?hg (N := 15) ?hd (cs := #[.int .i64 0, .int .i64 0]) (t := 27) ?hr ?_; (case hd => rfl); (case hg => rfl); (case hr => first | (go_simp; done) | (go_simp; rfl)); intro gb785 hg w30 hbox hb; have n0_ := Aside0.mk (Kd.V_below (Kd.V_elderB (by (with_reducible repeat (first | apply Kd.V_alloc | apply Kd.V_drewN | apply Kd.V_drew)); exact HO_1.out) gb785 (Nat.le_of_eq hg.symm)) hb); have n1_ := Aside0.mk (Kd.V_below (Kd.V_elderB (by (with_reducible repeat (first | apply Kd.V_alloc | apply Kd.V_drewN | apply Kd.V_drew)); exact HO_12.out) gb785 (Nat.le_of_eq hg.symm)) hb); have n2_ := Aside0.mk (Kd.R_below (Kd.R_elderB (by (with_reducible repeat (first | apply Kd.R_alloc | apply Kd.R_drewN | apply Kd.R_drew)); exact HO778.out) gb785 (Nat.le_of_eq hg.symm)) hb); have n3_ := Aside0.mk (Kd.R_below (by (with_reducible repeat (first | apply Kd.R_alloc | apply Kd.R_drewN | apply Kd.R_drew)); exact HO781.out) hb); have n4_ := Aside0.mk (below_step bl hb); have n5_ := Aside0.mk (hbox); have n6_ := Aside0.mk ((by rw [hg]; exact (below_size bl) : w.heap.size ≤ gb785)); have n7_ := Aside0.mk ((by rw [hg]; exact (below_size bl) : w.heap.size ≤ gb785)); clear HO_1; clear HO_12; clear HO778; clear HO781; clear HB; have HO_1 := n0_; have HO_12 := n1_; have HO778 := n2_; have HO781 := n3_; have HB := n4_; have BK785 := n5_; have GW785 := n6_; have GE785 := n7_; clear n0_ n1_ n2_ n3_ n4_ n5_ n6_ n7_; clear hb hbox hg; have hcz31_0 : w30.cell? ⟨gb785, 0, none⟩ = some (.int .i64 0) := (blk_cell BK785.out 0).trans rfl; have hcz31_1 : w30.cell? ⟨gb785, 1, none⟩ = some (.int .i64 0) := (blk_cell BK785.out 1).trans rfl; have hfz31_0 := blk_frozen BK785.out 0; have hfz31_1 := blk_frozen BK785.out 1; obtain ⟨Ao32, co32, eo32⟩ := Kd.R_slice HO781.out; subst eo32; have p786 : 0 ≤ (0 : Int) := (by omega); have q786 : 0 < (t779.length : Int) := of_decide_eq_true (by first | (with_reducible assumption) | assumption); obtain ⟨ad786, e786, hx786_0⟩ := Kd.at_int (Kd.R_reads' HO781.out).2.2 0 p786 q786; cases e786; have qi786 : (0 < t779.length) = True := eq_true (by omega); (try rw [show ((0 : Int)).toNat = 0 from rfl] at hx786_0); (try rw [Addr.add_zero'] at hx786_0); have hn786_0 : ad786.block ≠ gb785 := Kd.own_blk (Kd.R_ne HO781.out BK785.out (by decide)); have hn786_1 : ad786.block ≠ gb785 := Kd.own_blk (Kd.R_ne HO781.out BK785.out (by decide)); replace hx786_0 := (cell_far (p := ⟨gb785, 0, none⟩) (by first | (rw [add_block]; exact hn786_0) | (show (Addr.add _ _).block ≠ _; rw [add_block]; exact hn786_0) | exact hn786_0) (.int .i64 t782)).trans hx786_0; replace hx786_0 := (cell_far (p := ⟨gb785, 1, none⟩) (by first | (rw [add_block]; exact hn786_1) | (show (Addr.add _ _).block ≠ _; rw [add_block]; exact hn786_1) | exact hn786_1) (.int .i64 t783)).trans hx786_0; clear hn786_0; clear hn786_1; replace p786 := eq_true p786; replace q786 := eq_true q786; have p787 : 0 ≤ (0 : Int) := (by omega); have q787 : 0 < (t779.length : Int) := of_decide_eq_true (by first | (with_reducible assumption) | assumption); obtain ⟨ad787, e787, hx787_0⟩ := Kd.at_int (Kd.R_reads' HO781.out).2.2 0 p787 q787; obtain rfl : ad786 = ad787 := (by injection e787); have qi787 : (0 < t779.length) = True := eq_true (by omega); (try rw [show ((0 : Int)).toNat = 0 from rfl] at hx787_0); (try rw [Addr.add_zero'] at hx787_0); have hn787_0 : ad786.block ≠ gb785 := Kd.own_blk (Kd.R_ne HO781.out BK785.out (by decide)); have hn787_1 : ad786.block ≠ gb785 := Kd.own_blk (Kd.R_ne HO781.out BK785.out (by decide)); replace hx787_0 := (cell_far (p := ⟨gb785, 0, none⟩) (by first | (rw [add_block]; exact hn787_0) | (show (Addr.add _ _).block ≠ _; rw [add_block]; exact hn787_0) | exact hn787_0) (.int .i64 t782)).trans hx787_0; replace hx787_0 := (cell_far (p := ⟨gb785, 1, none⟩) (by first | (rw [add_block]; exact hn787_1) | (show (Addr.add _ _).block ≠ _; rw [add_block]; exact hn787_1) | exact hn787_1) (.int .i64 t783)).trans hx787_0; clear hn787_0; clear hn787_1; replace p787 := eq_true p787; replace q787 := eq_true q787))
               go_roundg k2
               case measure => have := HJ7.out; have := HK2.out; omega
               case rel => exact ⟨(t779), (wrap64 (x13_2 + 1)), (by first | rfl | (simp; done) | (simp [*]; done)), H', ⟨by have := HJ7.out; have := HK2.out; omega⟩, ⟨by (with_reducible repeat (first | apply Kd.V_alloc | apply Kd.V_drewN | apply Kd.V_drew)); exact Kd.V_mono (Kd.V_far (p := ⟨gb785, 1, none⟩) (Kd.V_far (p := ⟨gb785, 0, none⟩) (Kd.V_mono HO_1.out (fun k_ hk => (⟨hk, hk.2⟩ : _ ∧ k_ ≠ gb785))) (fun _ hk => hk.2) (.int .i64 t782)) (fun _ hk => hk.2) (.int .i64 t783)) (fun _ hk => hk.1.1.1.1)⟩, ⟨Kd.V_mono (Kd.R_V (by (with_reducible repeat (first | apply Kd.R_alloc | apply Kd.R_drewN | apply Kd.R_drew)); exact Kd.R_mono (Kd.R_far (p := ⟨gb785, 1, none⟩) (Kd.R_far (p := ⟨gb785, 0, none⟩) (Kd.R_types HO781.out BK785.out (by decide)) (fun _ hk => hk.2) (.int .i64 t782)) (fun _ hk => hk.2) (.int .i64 t783)) (fun _ hk => hk.1.1))) (fun k_ hk => by first | exact ⟨(.inr (hk.1)), hk.2⟩ | exact (.inr (hk)))⟩, ⟨by repeat (first | (with_reducible first | exact HB.out | apply below_alloc | apply pw_below_drewN | apply below_drew1 | refine below_set ?_ GE785.out) | exact HB.out)⟩⟩
             ·
              rw [if_neg c23] at H
              have c23b0 : (x13_2 == (wrap64 (t772 - 1))) = false := beq_eq_false_iff_ne.mpr c23
              have c23b1 : (x13_2 != (wrap64 (t772 - 1))) = true := bne_iff_ne.mpr c23
              have H' := Aside0.mk H
              clear H
              go_wp2_with (first | ((with_reducible refine gate_dst (N := 56) rfl ?_); (try (refine gate_guard (by rfl) ?_; dsimp only)); refine Kd.R_lit k27 _ 27 ?hg (N := 56) ?hd (xs := ([(⟨1, a2⟩ : S27)] : List (S27))) (inner := [.int .i64 1, .int .i64 a2]) (ok := fun _ => True) (okp := fun _ => True) ?hr ?hp (fun _ hk => hk) trivial (Below.refl _ _) (Nat.le_refl _) (by simp) ?_; (case hd => rfl); (case hg => rfl); (case hr => first | (go_simp; done) | (go_simp; rfl)); (case hp => exact (Reps.c2 (show Kd.M k27 _ _ _ (⟨1, a2⟩ : S27) [.int .i64 1, .int .i64 a2] from (k27_mkM _ _ _ (⟨1, a2⟩ : S27) )) (Reps.none _ _))); intro v777 w33 ho34 hb hg_ hnew_; clear hg_ hnew_; (first | rw [← Ny776.out] at ho34 | (simp only [Int.reduceToNat] at ho34; rw [← Ny776.out] at ho34)); have n0_ := Aside0.mk (Kd.V_elder' (by (with_reducible repeat (first | apply Kd.V_alloc | apply Kd.V_drewN | apply Kd.V_drew)); exact HO_1.out) (Kd.R_base ho34) hb); have n1_ := Aside0.mk (Kd.V_elder' (by (with_reducible repeat (first | apply Kd.V_alloc | apply Kd.V_drewN | apply Kd.V_drew)); exact HO_12.out) (Kd.R_base ho34) hb); have n2_ := Aside0.mk (Kd.R_lower (Kd.R_newM (M := fun k_ => (w.heap.size ≤ k_)) ho34 (below_size bl) (fun k_ h_ => h_)) (below_size bl)); have n3_ := Aside0.mk (below_step bl hb); clear HO_1; clear HO_12; clear HB; have HO_1 := n0_; have HO_12 := n1_; have HO778 := n2_; have HB := n3_; clear n0_ n1_ n2_ n3_; clear hb ho34; obtain ⟨Ao35, co35, eo35⟩ := Kd.V_slice HO_12.out; subst eo35; obtain ⟨Ao36, co36, eo36⟩ := Kd.R_slice HO778.out; subst eo36) | ((with_reducible refine gate_callee (f := 11) rfl ?_); refine goesL_ (some 58) rfl rfl Tryd.func11 (by kernel_rfl) rfl #[.string (⟨#[115, 116, 97, 103, 101]⟩ : ByteArray), .slice A0 l0.length c0, .slice Ao35 x12_2.length co35, .slice Ao36 y776.length co36, .int .i64 a3] rfl (by (try simp only [List.map_toArray, List.map_cons, List.map_nil]); first | done | rfl | (simp only [List.length_drop, List.length_take]; rfl)) ?_; (with_reducible refine (sequencer_Step.calls k2 (⟨#[115, 116, 97, 103, 101]⟩ : ByteArray) _ _ l0 _ _ x12_2 _ _ y776 a3 t779 t782 t783 t784 _ ?side1 ?side2 ?side3 ?side4 ?side5 ?side6 ?side7 A17.out).mono ?_); (case side1 => repeat (first | exact (Kd.C_below HR0.out HB.out) | (with_reducible refine Kd.C_alloc ?_ _) | (with_reducible refine Kd.C_drewN ?_ _) | (with_reducible refine Kd.C_drew ?_))); (case side2 => exact HC0.out); (case side3 => repeat (first | exact (Kd.V_reads' HO_12.out).2.2 | (with_reducible refine Kd.C_alloc ?_ _) | (with_reducible refine Kd.C_drewN ?_ _) | (with_reducible refine Kd.C_drew ?_))); (case side4 => exact (Kd.V_reads' HO_12.out).2.1); (case side5 => repeat (first | exact (Kd.R_reads' HO778.out).2.2 | (with_reducible refine Kd.C_alloc ?_ _) | (with_reducible refine Kd.C_drewN ?_ _) | (with_reducible refine Kd.C_drew ?_))); (case side6 => exact (Kd.R_reads' HO778.out).2.1); (case side7 => exact GW.below HG.out bl); rintro e w37 ⟨v780, rfl, ho0, hb⟩; refine ⟨_, rfl, ?_⟩; have n0_ := Aside0.mk (Kd.V_elder' (by (with_reducible repeat (first | apply Kd.V_alloc | apply Kd.V_drewN | apply Kd.V_drew)); exact HO_1.out) (Kd.R_base ho0) hb); have n1_ := Aside0.mk (Kd.V_elder' (by (with_reducible repeat (first | apply Kd.V_alloc | apply Kd.V_drewN | apply Kd.V_drew)); exact HO_12.out) (Kd.R_base ho0) hb); have n2_ := Aside0.mk (Kd.R_below (by (with_reducible repeat (first | apply Kd.R_alloc | apply Kd.R_drewN | apply Kd.R_drew)); exact HO778.out) hb); have n3_ := Aside0.mk (Kd.R_lower (Kd.R_newM (M := fun k_ => (w.heap.size ≤ k_)) ho0 (below_size bl) (fun k_ h_ => h_)) (below_size bl)); have n4_ := Aside0.mk (below_step bl hb); clear HO_1; clear HO_12; clear HO778; clear HB; have HO_1 := n0_; have HO_12 := n1_; have HO778 := n2_; have HO781 := n3_; have HB := n4_; clear n0_ n1_ n2_ n3_ n4_; (try clear hb); (try clear hb2); (try clear hk); (try clear hi); (try clear ho0)) | ((with_reducible refine gate_dst (N := 15) rfl ?_); (try (refine gate_guard (by rfl) ?_; dsimp only)); refine box_event ?hg (N := 15) ?hd (cs := #[.int .i64 0, .int .i64 0]) (t := 27) ?hr ?_; (case hd => rfl); (case hg => rfl); (case hr => first | (go_simp; done) | (go_simp; rfl)); intro gb785 hg w38 hbox hb; have n0_ := Aside0.mk (Kd.V_below (Kd.V_elderB (by (with_reducible repeat (first | apply Kd.V_alloc | apply Kd.V_drewN | apply Kd.V_drew)); exact HO_1.out) gb785 (Nat.le_of_eq hg.symm)) hb); have n1_ := Aside0.mk (Kd.V_below (Kd.V_elderB (by (with_reducible repeat (first | apply Kd.V_alloc | apply Kd.V_drewN | apply Kd.V_drew)); exact HO_12.out) gb785 (Nat.le_of_eq hg.symm)) hb); have n2_ := Aside0.mk (Kd.R_below (Kd.R_elderB (by (with_reducible repeat (first | apply Kd.R_alloc | apply Kd.R_drewN | apply Kd.R_drew)); exact HO778.out) gb785 (Nat.le_of_eq hg.symm)) hb); have n3_ := Aside0.mk (Kd.R_below (by (with_reducible repeat (first | apply Kd.R_alloc | apply Kd.R_drewN | apply Kd.R_drew)); exact HO781.out) hb); have n4_ := Aside0.mk (below_step bl hb); have n5_ := Aside0.mk (hbox); have n6_ := Aside0.mk ((by rw [hg]; exact (below_size bl) : w.heap.size ≤ gb785)); have n7_ := Aside0.mk ((by rw [hg]; exact (below_size bl) : w.heap.size ≤ gb785)); clear HO_1; clear HO_12; clear HO778; clear HO781; clear HB; have HO_1 := n0_; have HO_12 := n1_; have HO778 := n2_; have HO781 := n3_; have HB := n4_; have BK785 := n5_; have GW785 := n6_; have GE785 := n7_; clear n0_ n1_ n2_ n3_ n4_ n5_ n6_ n7_; clear hb hbox hg; have hcz39_0 : w38.cell? ⟨gb785, 0, none⟩ = some (.int .i64 0) := (blk_cell BK785.out 0).trans rfl; have hcz39_1 : w38.cell? ⟨gb785, 1, none⟩ = some (.int .i64 0) := (blk_cell BK785.out 1).trans rfl; have hfz39_0 := blk_frozen BK785.out 0; have hfz39_1 := blk_frozen BK785.out 1; obtain ⟨Ao40, co40, eo40⟩ := Kd.R_slice HO781.out; subst eo40; have p786 : 0 ≤ (0 : Int) := (by omega); have q786 : 0 < (t779.length : Int) := of_decide_eq_true (by first | (with_reducible assumption) | assumption); obtain ⟨ad786, e786, hx786_0⟩ := Kd.at_int (Kd.R_reads' HO781.out).2.2 0 p786 q786; cases e786; have qi786 : (0 < t779.length) = True := eq_true (by omega); (try rw [show ((0 : Int)).toNat = 0 from rfl] at hx786_0); (try rw [Addr.add_zero'] at hx786_0); have hn786_0 : ad786.block ≠ gb785 := Kd.own_blk (Kd.R_ne HO781.out BK785.out (by decide)); have hn786_1 : ad786.block ≠ gb785 := Kd.own_blk (Kd.R_ne HO781.out BK785.out (by decide)); replace hx786_0 := (cell_far (p := ⟨gb785, 0, none⟩) (by first | (rw [add_block]; exact hn786_0) | (show (Addr.add _ _).block ≠ _; rw [add_block]; exact hn786_0) | exact hn786_0) (.int .i64 t782)).trans hx786_0; replace hx786_0 := (cell_far (p := ⟨gb785, 1, none⟩) (by first | (rw [add_block]; exact hn786_1) | (show (Addr.add _ _).block ≠ _; rw [add_block]; exact hn786_1) | exact hn786_1) (.int .i64 t783)).trans hx786_0; clear hn786_0; clear hn786_1; replace p786 := eq_true p786; replace q786 := eq_true q786))
              go_roundg k2
              case measure => have := HJ7.out; have := HK2.out; omega
              case rel => exact ⟨(t779), (wrap64 (x13_2 + 1)), (by first | rfl | (simp; done) | (simp [*]; done)), H', ⟨by have := HJ7.out; have := HK2.out; omega⟩, ⟨by (with_reducible repeat (first | apply Kd.V_alloc | apply Kd.V_drewN | apply Kd.V_drew)); exact Kd.V_mono (Kd.V_far (p := ⟨gb785, 1, none⟩) (Kd.V_far (p := ⟨gb785, 0, none⟩) (Kd.V_mono HO_1.out (fun k_ hk => (⟨hk, hk.2⟩ : _ ∧ k_ ≠ gb785))) (fun _ hk => hk.2) (.int .i64 t782)) (fun _ hk => hk.2) (.int .i64 t783)) (fun _ hk => hk.1.1.1.1)⟩, ⟨Kd.V_mono (Kd.R_V (by (with_reducible repeat (first | apply Kd.R_alloc | apply Kd.R_drewN | apply Kd.R_drew)); exact Kd.R_mono (Kd.R_far (p := ⟨gb785, 1, none⟩) (Kd.R_far (p := ⟨gb785, 0, none⟩) (Kd.R_types HO781.out BK785.out (by decide)) (fun _ hk => hk.2) (.int .i64 t782)) (fun _ hk => hk.2) (.int .i64 t783)) (fun _ hk => hk.1.1))) (fun k_ hk => by first | exact ⟨(.inr (hk.1)), hk.2⟩ | exact (.inr (hk)))⟩, ⟨by repeat (first | (with_reducible first | exact HB.out | apply below_alloc | apply pw_below_drewN | apply below_drew1 | refine below_set ?_ GE785.out) | exact HB.out)⟩⟩
            ·
             rw [if_neg c22] at H
             exact absurd H (by simp)
           ·
            rw [if_neg c21] at H
            exact absurd H (by simp)
          ·
           rw [if_neg c20] at H
           have c20b0 : decide (t772 ≤ x13_2) = false := decide_eq_false c20
           clear c20
           by_cases c41 : x13_2 = (wrap64 (t772 - 1))
           ·
            rw [if_pos c41] at H
            have c41b0 : (x13_2 == (wrap64 (t772 - 1))) = true := beq_iff_eq.mpr c41
            have c41b1 : (x13_2 != (wrap64 (t772 - 1))) = false := bne_eq_false_iff_eq.mpr c41
            clear c41
            by_cases c42 : 0 < (t779.length : Int)
            ·
             rw [if_pos c42] at H
             have c42b0 : decide (0 < (t779.length : Int)) = true := decide_eq_true c42
             have c42b1 : decide (0 < t779.length) = true := decide_eq_true (by omega)
             clear c42
             by_cases c43 : (rd t779 0) = t771
             ·
              rw [if_pos c43] at H
              have c43b0 : ((rd t779 0) == t771) = true := beq_iff_eq.mpr c43
              have c43b1 : ((rd t779 0) != t771) = false := bne_eq_false_iff_eq.mpr c43
              clear c43
              by_cases c44 : t772 > 0
              ·
               rw [if_pos c44] at H
               exact absurd H (by simp)
              ·
               rw [if_neg c44] at H
               have c44b0 : decide (0 < t772) = false := decide_eq_false c44
               clear c44
               have H' := Aside0.mk H
               clear H
               go_wp2_with (first | ((with_reducible refine gate_dst (N := 56) rfl ?_); (try (refine gate_guard (by rfl) ?_; dsimp only)); refine Kd.R_lit k27 _ 27 ?hg (N := 56) ?hd (xs := ([(⟨1, a2⟩ : S27)] : List (S27))) (inner := [.int .i64 1, .int .i64 a2]) (ok := fun _ => True) (okp := fun _ => True) ?hr ?hp (fun _ hk => hk) trivial (Below.refl _ _) (Nat.le_refl _) (by simp) ?_; (case hd => rfl); (case hg => rfl); (case hr => first | (go_simp; done) | (go_simp; rfl)); (case hp => exact (Reps.c2 (show Kd.M k27 _ _ _ (⟨1, a2⟩ : S27) [.int .i64 1, .int .i64 a2] from (k27_mkM _ _ _ (⟨1, a2⟩ : S27) )) (Reps.none _ _))); intro v777 w45 ho46 hb hg_ hnew_; clear hg_ hnew_; (first | rw [← Ny776.out] at ho46 | (simp only [Int.reduceToNat] at ho46; rw [← Ny776.out] at ho46)); have n0_ := Aside0.mk (Kd.V_elder' (by (with_reducible repeat (first | apply Kd.V_alloc | apply Kd.V_drewN | apply Kd.V_drew)); exact HO_1.out) (Kd.R_base ho46) hb); have n1_ := Aside0.mk (Kd.V_elder' (by (with_reducible repeat (first | apply Kd.V_alloc | apply Kd.V_drewN | apply Kd.V_drew)); exact HO_12.out) (Kd.R_base ho46) hb); have n2_ := Aside0.mk (Kd.R_lower (Kd.R_newM (M := fun k_ => (w.heap.size ≤ k_)) ho46 (below_size bl) (fun k_ h_ => h_)) (below_size bl)); have n3_ := Aside0.mk (below_step bl hb); clear HO_1; clear HO_12; clear HB; have HO_1 := n0_; have HO_12 := n1_; have HO778 := n2_; have HB := n3_; clear n0_ n1_ n2_ n3_; clear hb ho46; obtain ⟨Ao47, co47, eo47⟩ := Kd.V_slice HO_12.out; subst eo47; obtain ⟨Ao48, co48, eo48⟩ := Kd.R_slice HO778.out; subst eo48) | ((with_reducible refine gate_callee (f := 11) rfl ?_); refine goesL_ (some 58) rfl rfl Tryd.func11 (by kernel_rfl) rfl #[.string (⟨#[115, 116, 97, 103, 101]⟩ : ByteArray), .slice A0 l0.length c0, .slice Ao47 x12_2.length co47, .slice Ao48 y776.length co48, .int .i64 a3] rfl (by (try simp only [List.map_toArray, List.map_cons, List.map_nil]); first | done | rfl | (simp only [List.length_drop, List.length_take]; rfl)) ?_; (with_reducible refine (sequencer_Step.calls k2 (⟨#[115, 116, 97, 103, 101]⟩ : ByteArray) _ _ l0 _ _ x12_2 _ _ y776 a3 t779 t782 t783 t784 _ ?side1 ?side2 ?side3 ?side4 ?side5 ?side6 ?side7 A17.out).mono ?_); (case side1 => repeat (first | exact (Kd.C_below HR0.out HB.out) | (with_reducible refine Kd.C_alloc ?_ _) | (with_reducible refine Kd.C_drewN ?_ _) | (with_reducible refine Kd.C_drew ?_))); (case side2 => exact HC0.out); (case side3 => repeat (first | exact (Kd.V_reads' HO_12.out).2.2 | (with_reducible refine Kd.C_alloc ?_ _) | (with_reducible refine Kd.C_drewN ?_ _) | (with_reducible refine Kd.C_drew ?_))); (case side4 => exact (Kd.V_reads' HO_12.out).2.1); (case side5 => repeat (first | exact (Kd.R_reads' HO778.out).2.2 | (with_reducible refine Kd.C_alloc ?_ _) | (with_reducible refine Kd.C_drewN ?_ _) | (with_reducible refine Kd.C_drew ?_))); (case side6 => exact (Kd.R_reads' HO778.out).2.1); (case side7 => exact GW.below HG.out bl); rintro e w49 ⟨v780, rfl, ho0, hb⟩; refine ⟨_, rfl, ?_⟩; have n0_ := Aside0.mk (Kd.V_elder' (by (with_reducible repeat (first | apply Kd.V_alloc | apply Kd.V_drewN | apply Kd.V_drew)); exact HO_1.out) (Kd.R_base ho0) hb); have n1_ := Aside0.mk (Kd.V_elder' (by (with_reducible repeat (first | apply Kd.V_alloc | apply Kd.V_drewN | apply Kd.V_drew)); exact HO_12.out) (Kd.R_base ho0) hb); have n2_ := Aside0.mk (Kd.R_below (by (with_reducible repeat (first | apply Kd.R_alloc | apply Kd.R_drewN | apply Kd.R_drew)); exact HO778.out) hb); have n3_ := Aside0.mk (Kd.R_lower (Kd.R_newM (M := fun k_ => (w.heap.size ≤ k_)) ho0 (below_size bl) (fun k_ h_ => h_)) (below_size bl)); have n4_ := Aside0.mk (below_step bl hb); clear HO_1; clear HO_12; clear HO778; clear HB; have HO_1 := n0_; have HO_12 := n1_; have HO778 := n2_; have HO781 := n3_; have HB := n4_; clear n0_ n1_ n2_ n3_ n4_; (try clear hb); (try clear hb2); (try clear hk); (try clear hi); (try clear ho0)) | ((with_reducible refine gate_dst (N := 15) rfl ?_); (try (refine gate_guard (by rfl) ?_; dsimp only)); refine box_event ?hg (N := 15) ?hd (cs := #[.int .i64 0, .int .i64 0]) (t := 27) ?hr ?_; (case hd => rfl); (case hg => rfl); (case hr => first | (go_simp; done) | (go_simp; rfl)); intro gb785 hg w50 hbox hb; have n0_ := Aside0.mk (Kd.V_below (Kd.V_elderB (by (with_reducible repeat (first | apply Kd.V_alloc | apply Kd.V_drewN | apply Kd.V_drew)); exact HO_1.out) gb785 (Nat.le_of_eq hg.symm)) hb); have n1_ := Aside0.mk (Kd.V_below (Kd.V_elderB (by (with_reducible repeat (first | apply Kd.V_alloc | apply Kd.V_drewN | apply Kd.V_drew)); exact HO_12.out) gb785 (Nat.le_of_eq hg.symm)) hb); have n2_ := Aside0.mk (Kd.R_below (Kd.R_elderB (by (with_reducible repeat (first | apply Kd.R_alloc | apply Kd.R_drewN | apply Kd.R_drew)); exact HO778.out) gb785 (Nat.le_of_eq hg.symm)) hb); have n3_ := Aside0.mk (Kd.R_below (by (with_reducible repeat (first | apply Kd.R_alloc | apply Kd.R_drewN | apply Kd.R_drew)); exact HO781.out) hb); have n4_ := Aside0.mk (below_step bl hb); have n5_ := Aside0.mk (hbox); have n6_ := Aside0.mk ((by rw [hg]; exact (below_size bl) : w.heap.size ≤ gb785)); have n7_ := Aside0.mk ((by rw [hg]; exact (below_size bl) : w.heap.size ≤ gb785)); clear HO_1; clear HO_12; clear HO778; clear HO781; clear HB; have HO_1 := n0_; have HO_12 := n1_; have HO778 := n2_; have HO781 := n3_; have HB := n4_; have BK785 := n5_; have GW785 := n6_; have GE785 := n7_; clear n0_ n1_ n2_ n3_ n4_ n5_ n6_ n7_; clear hb hbox hg; have hcz51_0 : w50.cell? ⟨gb785, 0, none⟩ = some (.int .i64 0) := (blk_cell BK785.out 0).trans rfl; have hcz51_1 : w50.cell? ⟨gb785, 1, none⟩ = some (.int .i64 0) := (blk_cell BK785.out 1).trans rfl; have hfz51_0 := blk_frozen BK785.out 0; have hfz51_1 := blk_frozen BK785.out 1; obtain ⟨Ao52, co52, eo52⟩ := Kd.R_slice HO781.out; subst eo52; have p788 : 0 ≤ (0 : Int) := (by omega); have q788 : 0 < (t779.length : Int) := of_decide_eq_true (by first | (with_reducible assumption) | assumption); obtain ⟨ad788, e788, hx788_0⟩ := Kd.at_int (Kd.R_reads' HO781.out).2.2 0 p788 q788; cases e788; have qi788 : (0 < t779.length) = True := eq_true (by omega); (try rw [show ((0 : Int)).toNat = 0 from rfl] at hx788_0); (try rw [Addr.add_zero'] at hx788_0); have hn788_0 : ad788.block ≠ gb785 := Kd.own_blk (Kd.R_ne HO781.out BK785.out (by decide)); have hn788_1 : ad788.block ≠ gb785 := Kd.own_blk (Kd.R_ne HO781.out BK785.out (by decide)); replace hx788_0 := (cell_far (p := ⟨gb785, 0, none⟩) (by first | (rw [add_block]; exact hn788_0) | (show (Addr.add _ _).block ≠ _; rw [add_block]; exact hn788_0) | exact hn788_0) (.int .i64 t782)).trans hx788_0; replace hx788_0 := (cell_far (p := ⟨gb785, 1, none⟩) (by first | (rw [add_block]; exact hn788_1) | (show (Addr.add _ _).block ≠ _; rw [add_block]; exact hn788_1) | exact hn788_1) (.int .i64 t783)).trans hx788_0; clear hn788_0; clear hn788_1; replace p788 := eq_true p788; replace q788 := eq_true q788))
               go_roundg k2
               case measure => have := HJ7.out; have := HK2.out; omega
               case rel => exact ⟨(t779), (wrap64 (x13_2 + 1)), (by first | rfl | (simp; done) | (simp [*]; done)), H', ⟨by have := HJ7.out; have := HK2.out; omega⟩, ⟨by (with_reducible repeat (first | apply Kd.V_alloc | apply Kd.V_drewN | apply Kd.V_drew)); exact Kd.V_mono (Kd.V_far (p := ⟨gb785, 1, none⟩) (Kd.V_far (p := ⟨gb785, 0, none⟩) (Kd.V_mono HO_1.out (fun k_ hk => (⟨hk, hk.2⟩ : _ ∧ k_ ≠ gb785))) (fun _ hk => hk.2) (.int .i64 t782)) (fun _ hk => hk.2) (.int .i64 t783)) (fun _ hk => hk.1.1.1.1)⟩, ⟨Kd.V_mono (Kd.R_V (by (with_reducible repeat (first | apply Kd.R_alloc | apply Kd.R_drewN | apply Kd.R_drew)); exact Kd.R_mono (Kd.R_far (p := ⟨gb785, 1, none⟩) (Kd.R_far (p := ⟨gb785, 0, none⟩) (Kd.R_types HO781.out BK785.out (by decide)) (fun _ hk => hk.2) (.int .i64 t782)) (fun _ hk => hk.2) (.int .i64 t783)) (fun _ hk => hk.1.1))) (fun k_ hk => by first | exact ⟨(.inr (hk.1)), hk.2⟩ | exact (.inr (hk)))⟩, ⟨by repeat (first | (with_reducible first | exact HB.out | apply below_alloc | apply pw_below_drewN | apply below_drew1 | refine below_set ?_ GE785.out) | exact HB.out)⟩⟩
             ·
              rw [if_neg c43] at H
              have c43b0 : ((rd t779 0) == t771) = false := beq_eq_false_iff_ne.mpr c43
              have c43b1 : ((rd t779 0) != t771) = true := bne_iff_ne.mpr c43
              have H' := Aside0.mk H
              clear H
              go_wp2_with (first | ((with_reducible refine gate_dst (N := 56) rfl ?_); (try (refine gate_guard (by rfl) ?_; dsimp only)); refine Kd.R_lit k27 _ 27 ?hg (N := 56) ?hd (xs := ([(⟨1, a2⟩ : S27)] : List (S27))) (inner := [.int .i64 1, .int .i64 a2]) (ok := fun _ => True) (okp := fun _ => True) ?hr ?hp (fun _ hk => hk) trivial (Below.refl _ _) (Nat.le_refl _) (by simp) ?_; (case hd => rfl); (case hg => rfl); (case hr => first | (go_simp; done) | (go_simp; rfl)); (case hp => exact (Reps.c2 (show Kd.M k27 _ _ _ (⟨1, a2⟩ : S27) [.int .i64 1, .int .i64 a2] from (k27_mkM _ _ _ (⟨1, a2⟩ : S27) )) (Reps.none _ _))); intro v777 w53 ho54 hb hg_ hnew_; clear hg_ hnew_; (first | rw [← Ny776.out] at ho54 | (simp only [Int.reduceToNat] at ho54; rw [← Ny776.out] at ho54)); have n0_ := Aside0.mk (Kd.V_elder' (by (with_reducible repeat (first | apply Kd.V_alloc | apply Kd.V_drewN | apply Kd.V_drew)); exact HO_1.out) (Kd.R_base ho54) hb); have n1_ := Aside0.mk (Kd.V_elder' (by (with_reducible repeat (first | apply Kd.V_alloc | apply Kd.V_drewN | apply Kd.V_drew)); exact HO_12.out) (Kd.R_base ho54) hb); have n2_ := Aside0.mk (Kd.R_lower (Kd.R_newM (M := fun k_ => (w.heap.size ≤ k_)) ho54 (below_size bl) (fun k_ h_ => h_)) (below_size bl)); have n3_ := Aside0.mk (below_step bl hb); clear HO_1; clear HO_12; clear HB; have HO_1 := n0_; have HO_12 := n1_; have HO778 := n2_; have HB := n3_; clear n0_ n1_ n2_ n3_; clear hb ho54; obtain ⟨Ao55, co55, eo55⟩ := Kd.V_slice HO_12.out; subst eo55; obtain ⟨Ao56, co56, eo56⟩ := Kd.R_slice HO778.out; subst eo56) | ((with_reducible refine gate_callee (f := 11) rfl ?_); refine goesL_ (some 58) rfl rfl Tryd.func11 (by kernel_rfl) rfl #[.string (⟨#[115, 116, 97, 103, 101]⟩ : ByteArray), .slice A0 l0.length c0, .slice Ao55 x12_2.length co55, .slice Ao56 y776.length co56, .int .i64 a3] rfl (by (try simp only [List.map_toArray, List.map_cons, List.map_nil]); first | done | rfl | (simp only [List.length_drop, List.length_take]; rfl)) ?_; (with_reducible refine (sequencer_Step.calls k2 (⟨#[115, 116, 97, 103, 101]⟩ : ByteArray) _ _ l0 _ _ x12_2 _ _ y776 a3 t779 t782 t783 t784 _ ?side1 ?side2 ?side3 ?side4 ?side5 ?side6 ?side7 A17.out).mono ?_); (case side1 => repeat (first | exact (Kd.C_below HR0.out HB.out) | (with_reducible refine Kd.C_alloc ?_ _) | (with_reducible refine Kd.C_drewN ?_ _) | (with_reducible refine Kd.C_drew ?_))); (case side2 => exact HC0.out); (case side3 => repeat (first | exact (Kd.V_reads' HO_12.out).2.2 | (with_reducible refine Kd.C_alloc ?_ _) | (with_reducible refine Kd.C_drewN ?_ _) | (with_reducible refine Kd.C_drew ?_))); (case side4 => exact (Kd.V_reads' HO_12.out).2.1); (case side5 => repeat (first | exact (Kd.R_reads' HO778.out).2.2 | (with_reducible refine Kd.C_alloc ?_ _) | (with_reducible refine Kd.C_drewN ?_ _) | (with_reducible refine Kd.C_drew ?_))); (case side6 => exact (Kd.R_reads' HO778.out).2.1); (case side7 => exact GW.below HG.out bl); rintro e w57 ⟨v780, rfl, ho0, hb⟩; refine ⟨_, rfl, ?_⟩; have n0_ := Aside0.mk (Kd.V_elder' (by (with_reducible repeat (first | apply Kd.V_alloc | apply Kd.V_drewN | apply Kd.V_drew)); exact HO_1.out) (Kd.R_base ho0) hb); have n1_ := Aside0.mk (Kd.V_elder' (by (with_reducible repeat (first | apply Kd.V_alloc | apply Kd.V_drewN | apply Kd.V_drew)); exact HO_12.out) (Kd.R_base ho0) hb); have n2_ := Aside0.mk (Kd.R_below (by (with_reducible repeat (first | apply Kd.R_alloc | apply Kd.R_drewN | apply Kd.R_drew)); exact HO778.out) hb); have n3_ := Aside0.mk (Kd.R_lower (Kd.R_newM (M := fun k_ => (w.heap.size ≤ k_)) ho0 (below_size bl) (fun k_ h_ => h_)) (below_size bl)); have n4_ := Aside0.mk (below_step bl hb); clear HO_1; clear HO_12; clear HO778; clear HB; have HO_1 := n0_; have HO_12 := n1_; have HO778 := n2_; have HO781 := n3_; have HB := n4_; clear n0_ n1_ n2_ n3_ n4_; (try clear hb); (try clear hb2); (try clear hk); (try clear hi); (try clear ho0)) | ((with_reducible refine gate_dst (N := 15) rfl ?_); (try (refine gate_guard (by rfl) ?_; dsimp only)); refine box_event ?hg (N := 15) ?hd (cs := #[.int .i64 0, .int .i64 0]) (t := 27) ?hr ?_; (case hd => rfl); (case hg => rfl); (case hr => first | (go_simp; done) | (go_simp; rfl)); intro gb785 hg w58 hbox hb; have n0_ := Aside0.mk (Kd.V_below (Kd.V_elderB (by (with_reducible repeat (first | apply Kd.V_alloc | apply Kd.V_drewN | apply Kd.V_drew)); exact HO_1.out) gb785 (Nat.le_of_eq hg.symm)) hb); have n1_ := Aside0.mk (Kd.V_below (Kd.V_elderB (by (with_reducible repeat (first | apply Kd.V_alloc | apply Kd.V_drewN | apply Kd.V_drew)); exact HO_12.out) gb785 (Nat.le_of_eq hg.symm)) hb); have n2_ := Aside0.mk (Kd.R_below (Kd.R_elderB (by (with_reducible repeat (first | apply Kd.R_alloc | apply Kd.R_drewN | apply Kd.R_drew)); exact HO778.out) gb785 (Nat.le_of_eq hg.symm)) hb); have n3_ := Aside0.mk (Kd.R_below (by (with_reducible repeat (first | apply Kd.R_alloc | apply Kd.R_drewN | apply Kd.R_drew)); exact HO781.out) hb); have n4_ := Aside0.mk (below_step bl hb); have n5_ := Aside0.mk (hbox); have n6_ := Aside0.mk ((by rw [hg]; exact (below_size bl) : w.heap.size ≤ gb785)); have n7_ := Aside0.mk ((by rw [hg]; exact (below_size bl) : w.heap.size ≤ gb785)); clear HO_1; clear HO_12; clear HO778; clear HO781; clear HB; have HO_1 := n0_; have HO_12 := n1_; have HO778 := n2_; have HO781 := n3_; have HB := n4_; have BK785 := n5_; have GW785 := n6_; have GE785 := n7_; clear n0_ n1_ n2_ n3_ n4_ n5_ n6_ n7_; clear hb hbox hg; have hcz59_0 : w58.cell? ⟨gb785, 0, none⟩ = some (.int .i64 0) := (blk_cell BK785.out 0).trans rfl; have hcz59_1 : w58.cell? ⟨gb785, 1, none⟩ = some (.int .i64 0) := (blk_cell BK785.out 1).trans rfl; have hfz59_0 := blk_frozen BK785.out 0; have hfz59_1 := blk_frozen BK785.out 1; obtain ⟨Ao60, co60, eo60⟩ := Kd.R_slice HO781.out; subst eo60; have p788 : 0 ≤ (0 : Int) := (by omega); have q788 : 0 < (t779.length : Int) := of_decide_eq_true (by first | (with_reducible assumption) | assumption); obtain ⟨ad788, e788, hx788_0⟩ := Kd.at_int (Kd.R_reads' HO781.out).2.2 0 p788 q788; cases e788; have qi788 : (0 < t779.length) = True := eq_true (by omega); (try rw [show ((0 : Int)).toNat = 0 from rfl] at hx788_0); (try rw [Addr.add_zero'] at hx788_0); have hn788_0 : ad788.block ≠ gb785 := Kd.own_blk (Kd.R_ne HO781.out BK785.out (by decide)); have hn788_1 : ad788.block ≠ gb785 := Kd.own_blk (Kd.R_ne HO781.out BK785.out (by decide)); replace hx788_0 := (cell_far (p := ⟨gb785, 0, none⟩) (by first | (rw [add_block]; exact hn788_0) | (show (Addr.add _ _).block ≠ _; rw [add_block]; exact hn788_0) | exact hn788_0) (.int .i64 t782)).trans hx788_0; replace hx788_0 := (cell_far (p := ⟨gb785, 1, none⟩) (by first | (rw [add_block]; exact hn788_1) | (show (Addr.add _ _).block ≠ _; rw [add_block]; exact hn788_1) | exact hn788_1) (.int .i64 t783)).trans hx788_0; clear hn788_0; clear hn788_1; replace p788 := eq_true p788; replace q788 := eq_true q788))
              go_roundg k2
              case measure => have := HJ7.out; have := HK2.out; omega
              case rel => exact ⟨(t779), (wrap64 (x13_2 + 1)), (by first | rfl | (simp; done) | (simp [*]; done)), H', ⟨by have := HJ7.out; have := HK2.out; omega⟩, ⟨by (with_reducible repeat (first | apply Kd.V_alloc | apply Kd.V_drewN | apply Kd.V_drew)); exact Kd.V_mono (Kd.V_far (p := ⟨gb785, 1, none⟩) (Kd.V_far (p := ⟨gb785, 0, none⟩) (Kd.V_mono HO_1.out (fun k_ hk => (⟨hk, hk.2⟩ : _ ∧ k_ ≠ gb785))) (fun _ hk => hk.2) (.int .i64 t782)) (fun _ hk => hk.2) (.int .i64 t783)) (fun _ hk => hk.1.1.1.1)⟩, ⟨Kd.V_mono (Kd.R_V (by (with_reducible repeat (first | apply Kd.R_alloc | apply Kd.R_drewN | apply Kd.R_drew)); exact Kd.R_mono (Kd.R_far (p := ⟨gb785, 1, none⟩) (Kd.R_far (p := ⟨gb785, 0, none⟩) (Kd.R_types HO781.out BK785.out (by decide)) (fun _ hk => hk.2) (.int .i64 t782)) (fun _ hk => hk.2) (.int .i64 t783)) (fun _ hk => hk.1.1))) (fun k_ hk => by first | exact ⟨(.inr (hk.1)), hk.2⟩ | exact (.inr (hk)))⟩, ⟨by repeat (first | (with_reducible first | exact HB.out | apply below_alloc | apply pw_below_drewN | apply below_drew1 | refine below_set ?_ GE785.out) | exact HB.out)⟩⟩
            ·
             rw [if_neg c42] at H
             exact absurd H (by simp)
           ·
            rw [if_neg c41] at H
            have c41b0 : (x13_2 == (wrap64 (t772 - 1))) = false := beq_eq_false_iff_ne.mpr c41
            have c41b1 : (x13_2 != (wrap64 (t772 - 1))) = true := bne_iff_ne.mpr c41
            have H' := Aside0.mk H
            clear H
            go_wp2_with (first | ((with_reducible refine gate_dst (N := 56) rfl ?_); (try (refine gate_guard (by rfl) ?_; dsimp only)); refine Kd.R_lit k27 _ 27 ?hg (N := 56) ?hd (xs := ([(⟨1, a2⟩ : S27)] : List (S27))) (inner := [.int .i64 1, .int .i64 a2]) (ok := fun _ => True) (okp := fun _ => True) ?hr ?hp (fun _ hk => hk) trivial (Below.refl _ _) (Nat.le_refl _) (by simp) ?_; (case hd => rfl); (case hg => rfl); (case hr => first | (go_simp; done) | (go_simp; rfl)); (case hp => exact (Reps.c2 (show Kd.M k27 _ _ _ (⟨1, a2⟩ : S27) [.int .i64 1, .int .i64 a2] from (k27_mkM _ _ _ (⟨1, a2⟩ : S27) )) (Reps.none _ _))); intro v777 w61 ho62 hb hg_ hnew_; clear hg_ hnew_; (first | rw [← Ny776.out] at ho62 | (simp only [Int.reduceToNat] at ho62; rw [← Ny776.out] at ho62)); have n0_ := Aside0.mk (Kd.V_elder' (by (with_reducible repeat (first | apply Kd.V_alloc | apply Kd.V_drewN | apply Kd.V_drew)); exact HO_1.out) (Kd.R_base ho62) hb); have n1_ := Aside0.mk (Kd.V_elder' (by (with_reducible repeat (first | apply Kd.V_alloc | apply Kd.V_drewN | apply Kd.V_drew)); exact HO_12.out) (Kd.R_base ho62) hb); have n2_ := Aside0.mk (Kd.R_lower (Kd.R_newM (M := fun k_ => (w.heap.size ≤ k_)) ho62 (below_size bl) (fun k_ h_ => h_)) (below_size bl)); have n3_ := Aside0.mk (below_step bl hb); clear HO_1; clear HO_12; clear HB; have HO_1 := n0_; have HO_12 := n1_; have HO778 := n2_; have HB := n3_; clear n0_ n1_ n2_ n3_; clear hb ho62; obtain ⟨Ao63, co63, eo63⟩ := Kd.V_slice HO_12.out; subst eo63; obtain ⟨Ao64, co64, eo64⟩ := Kd.R_slice HO778.out; subst eo64) | ((with_reducible refine gate_callee (f := 11) rfl ?_); refine goesL_ (some 58) rfl rfl Tryd.func11 (by kernel_rfl) rfl #[.string (⟨#[115, 116, 97, 103, 101]⟩ : ByteArray), .slice A0 l0.length c0, .slice Ao63 x12_2.length co63, .slice Ao64 y776.length co64, .int .i64 a3] rfl (by (try simp only [List.map_toArray, List.map_cons, List.map_nil]); first | done | rfl | (simp only [List.length_drop, List.length_take]; rfl)) ?_; (with_reducible refine (sequencer_Step.calls k2 (⟨#[115, 116, 97, 103, 101]⟩ : ByteArray) _ _ l0 _ _ x12_2 _ _ y776 a3 t779 t782 t783 t784 _ ?side1 ?side2 ?side3 ?side4 ?side5 ?side6 ?side7 A17.out).mono ?_); (case side1 => repeat (first | exact (Kd.C_below HR0.out HB.out) | (with_reducible refine Kd.C_alloc ?_ _) | (with_reducible refine Kd.C_drewN ?_ _) | (with_reducible refine Kd.C_drew ?_))); (case side2 => exact HC0.out); (case side3 => repeat (first | exact (Kd.V_reads' HO_12.out).2.2 | (with_reducible refine Kd.C_alloc ?_ _) | (with_reducible refine Kd.C_drewN ?_ _) | (with_reducible refine Kd.C_drew ?_))); (case side4 => exact (Kd.V_reads' HO_12.out).2.1); (case side5 => repeat (first | exact (Kd.R_reads' HO778.out).2.2 | (with_reducible refine Kd.C_alloc ?_ _) | (with_reducible refine Kd.C_drewN ?_ _) | (with_reducible refine Kd.C_drew ?_))); (case side6 => exact (Kd.R_reads' HO778.out).2.1); (case side7 => exact GW.below HG.out bl); rintro e w65 ⟨v780, rfl, ho0, hb⟩; refine ⟨_, rfl, ?_⟩; have n0_ := Aside0.mk (Kd.V_elder' (by (with_reducible repeat (first | apply Kd.V_alloc | apply Kd.V_drewN | apply Kd.V_drew)); exact HO_1.out) (Kd.R_base ho0) hb); have n1_ := Aside0.mk (Kd.V_elder' (by (with_reducible repeat (first | apply Kd.V_alloc | apply Kd.V_drewN | apply Kd.V_drew)); exact HO_12.out) (Kd.R_base ho0) hb); have n2_ := Aside0.mk (Kd.R_below (by (with_reducible repeat (first | apply Kd.R_alloc | apply Kd.R_drewN | apply Kd.R_drew)); exact HO778.out) hb); have n3_ := Aside0.mk (Kd.R_lower (Kd.R_newM (M := fun k_ => (w.heap.size ≤ k_)) ho0 (below_size bl) (fun k_ h_ => h_)) (below_size bl)); have n4_ := Aside0.mk (below_step bl hb); clear HO_1; clear HO_12; clear HO778; clear HB; have HO_1 := n0_; have HO_12 := n1_; have HO778 := n2_; have HO781 := n3_; have HB := n4_; clear n0_ n1_ n2_ n3_ n4_; (try clear hb); (try clear hb2); (try clear hk); (try clear hi); (try clear ho0)) | ((with_reducible refine gate_dst (N := 15) rfl ?_); (try (refine gate_guard (by rfl) ?_; dsimp only)); refine box_event ?hg (N := 15) ?hd (cs := #[.int .i64 0, .int .i64 0]) (t := 27) ?hr ?_; (case hd => rfl); (case hg => rfl); (case hr => first | (go_simp; done) | (go_simp; rfl)); intro gb785 hg w66 hbox hb; have n0_ := Aside0.mk (Kd.V_below (Kd.V_elderB (by (with_reducible repeat (first | apply Kd.V_alloc | apply Kd.V_drewN | apply Kd.V_drew)); exact HO_1.out) gb785 (Nat.le_of_eq hg.symm)) hb); have n1_ := Aside0.mk (Kd.V_below (Kd.V_elderB (by (with_reducible repeat (first | apply Kd.V_alloc | apply Kd.V_drewN | apply Kd.V_drew)); exact HO_12.out) gb785 (Nat.le_of_eq hg.symm)) hb); have n2_ := Aside0.mk (Kd.R_below (Kd.R_elderB (by (with_reducible repeat (first | apply Kd.R_alloc | apply Kd.R_drewN | apply Kd.R_drew)); exact HO778.out) gb785 (Nat.le_of_eq hg.symm)) hb); have n3_ := Aside0.mk (Kd.R_below (by (with_reducible repeat (first | apply Kd.R_alloc | apply Kd.R_drewN | apply Kd.R_drew)); exact HO781.out) hb); have n4_ := Aside0.mk (below_step bl hb); have n5_ := Aside0.mk (hbox); have n6_ := Aside0.mk ((by rw [hg]; exact (below_size bl) : w.heap.size ≤ gb785)); have n7_ := Aside0.mk ((by rw [hg]; exact (below_size bl) : w.heap.size ≤ gb785)); clear HO_1; clear HO_12; clear HO778; clear HO781; clear HB; have HO_1 := n0_; have HO_12 := n1_; have HO778 := n2_; have HO781 := n3_; have HB := n4_; have BK785 := n5_; have GW785 := n6_; have GE785 := n7_; clear n0_ n1_ n2_ n3_ n4_ n5_ n6_ n7_; clear hb hbox hg; have hcz67_0 : w66.cell? ⟨gb785, 0, none⟩ = some (.int .i64 0) := (blk_cell BK785.out 0).trans rfl; have hcz67_1 : w66.cell? ⟨gb785, 1, none⟩ = some (.int .i64 0) := (blk_cell BK785.out 1).trans rfl; have hfz67_0 := blk_frozen BK785.out 0; have hfz67_1 := blk_frozen BK785.out 1; obtain ⟨Ao68, co68, eo68⟩ := Kd.R_slice HO781.out; subst eo68))
            go_roundg k2
            case measure => have := HJ7.out; have := HK2.out; omega
            case rel => exact ⟨(t779), (wrap64 (x13_2 + 1)), (by first | rfl | (simp; done) | (simp [*]; done)), H', ⟨by have := HJ7.out; have := HK2.out; omega⟩, ⟨by (with_reducible repeat (first | apply Kd.V_alloc | apply Kd.V_drewN | apply Kd.V_drew)); exact Kd.V_mono (Kd.V_far (p := ⟨gb785, 1, none⟩) (Kd.V_far (p := ⟨gb785, 0, none⟩) (Kd.V_mono HO_1.out (fun k_ hk => (⟨hk, hk.2⟩ : _ ∧ k_ ≠ gb785))) (fun _ hk => hk.2) (.int .i64 t782)) (fun _ hk => hk.2) (.int .i64 t783)) (fun _ hk => hk.1.1.1.1)⟩, ⟨Kd.V_mono (Kd.R_V (by (with_reducible repeat (first | apply Kd.R_alloc | apply Kd.R_drewN | apply Kd.R_drew)); exact Kd.R_mono (Kd.R_far (p := ⟨gb785, 1, none⟩) (Kd.R_far (p := ⟨gb785, 0, none⟩) (Kd.R_types HO781.out BK785.out (by decide)) (fun _ hk => hk.2) (.int .i64 t782)) (fun _ hk => hk.2) (.int .i64 t783)) (fun _ hk => hk.1.1))) (fun k_ hk => by first | exact ⟨(.inr (hk.1)), hk.2⟩ | exact (.inr (hk)))⟩, ⟨by repeat (first | (with_reducible first | exact HB.out | apply below_alloc | apply pw_below_drewN | apply below_drew1 | refine below_set ?_ GE785.out) | exact HB.out)⟩⟩
         ·
          rw [if_neg c19] at H
          exact absurd H (by simp)
        ·
         rw [if_neg c18] at H
         exact absurd H (by simp)
       ·
        rw [if_neg c16] at H
        have c16b0 : decide (x13_2 ≤ 330) = false := decide_eq_false c16
        clear c16
        by_cases c69 : 1 < (l0.length : Int)
        ·
         rw [if_pos c69] at H
         have c69b0 : decide (1 < (l0.length : Int)) = true := decide_eq_true c69
         have c69b1 : decide (1 < l0.length) = true := decide_eq_true (by omega)
         clear c69
         by_cases c70 : a2 > (rd l0 1)
         ·
          rw [if_pos c70] at H
          have c70b0 : decide ((rd l0 1) < a2) = true := decide_eq_true c70
          clear c70
          by_cases c71 : 0 < (l0.length : Int)
          ·
           rw [if_pos c71] at H
           have c71b0 : decide (0 < (l0.length : Int)) = true := decide_eq_true c71
           have c71b1 : decide (0 < l0.length) = true := decide_eq_true (by omega)
           clear c71
           obtain rfl := Option.some.inj H
           have p789 : 0 ≤ (1 : Int) := (by omega)
           have q789 : 1 < (l0.length : Int) := of_decide_eq_true (by first | (with_reducible assumption) | assumption)
           obtain ⟨ad789, e789, hx789_0⟩ := Kd.at_int HR0.out 1 p789 q789
           cases e789
           (try simp only [show (1 : Int).toNat = 1 from rfl, Nat.reduceMul, Nat.reduceEqDiff, Go.Addr.add, ↓reduceIte] at hx789_0)
           have qi789 : (1 < l0.length) = True := eq_true (by omega)
           (try rw [show ((1 : Int)).toNat = 1 from rfl] at hx789_0)
           replace hx789_0 := (HB.out.cell (World.block_lt_of_cell? w _ hx789_0)).trans hx789_0
           replace p789 := eq_true p789
           replace q789 := eq_true q789
           have p790 : 0 ≤ (0 : Int) := (by omega)
           have q790 : 0 < (l0.length : Int) := of_decide_eq_true (by first | (with_reducible assumption) | assumption)
           obtain ⟨ad790, e790, hx790_0⟩ := Kd.at_int HR0.out 0 p790 q790
           obtain rfl : ad789 = ad790 := (by injection e790)
           have qi790 : (0 < l0.length) = True := eq_true (by omega)
           (try rw [show ((0 : Int)).toNat = 0 from rfl] at hx790_0)
           (try rw [Addr.add_zero'] at hx790_0)
           replace hx790_0 := (HB.out.cell (World.block_lt_of_cell? w _ hx790_0)).trans hx790_0
           replace p790 := eq_true p790
           replace q790 := eq_true q790
           go_wp2
           go_ret
           exact ⟨by first | rfl | (simp [errW_none, errW_some] <;> rfl) | (simp [*, errW_none, errW_some] <;> rfl), bl⟩
          ·
           rw [if_neg c71] at H
           exact absurd H (by simp)
         ·
          rw [if_neg c70] at H
          have c70b0 : decide ((rd l0 1) < a2) = false := decide_eq_false c70
          clear c70
          by_cases c72 : 2 < (l0.length : Int)
          ·
           rw [if_pos c72] at H
           have c72b0 : decide (2 < (l0.length : Int)) = true := decide_eq_true c72
           have c72b1 : decide (2 < l0.length) = true := decide_eq_true (by omega)
           clear c72
           by_cases c73 : a2 < (rd l0 2)
           ·
            rw [if_pos c73] at H
            have c73b0 : decide (a2 < (rd l0 2)) = true := decide_eq_true c73
            clear c73
            obtain rfl := Option.some.inj H
            have p789 : 0 ≤ (1 : Int) := (by omega)
            have q789 : 1 < (l0.length : Int) := of_decide_eq_true (by first | (with_reducible assumption) | assumption)
            obtain ⟨ad789, e789, hx789_0⟩ := Kd.at_int HR0.out 1 p789 q789
            cases e789
            (try simp only [show (1 : Int).toNat = 1 from rfl, Nat.reduceMul, Nat.reduceEqDiff, Go.Addr.add, ↓reduceIte] at hx789_0)
            have qi789 : (1 < l0.length) = True := eq_true (by omega)
            (try rw [show ((1 : Int)).toNat = 1 from rfl] at hx789_0)
            replace hx789_0 := (HB.out.cell (World.block_lt_of_cell? w _ hx789_0)).trans hx789_0
            replace p789 := eq_true p789
            replace q789 := eq_true q789
            have p791 : 0 ≤ (2 : Int) := (by omega)
            have q791 : 2 < (l0.length : Int) := of_decide_eq_true (by first | (with_reducible assumption) | assumption)
            obtain ⟨ad791, e791, hx791_0⟩ := Kd.at_int HR0.out 2 p791 q791
            obtain rfl : ad789 = ad791 := (by injection e791)
            (try simp only [show (2 : Int).toNat = 2 from rfl, Nat.reduceMul, Nat.reduceEqDiff, Go.Addr.add, ↓reduceIte] at hx791_0)
            have qi791 : (2 < l0.length) = True := eq_true (by omega)
            (try rw [show ((2 : Int)).toNat = 2 from rfl] at hx791_0)
            replace hx791_0 := (HB.out.cell (World.block_lt_of_cell? w _ hx791_0)).trans hx791_0
            replace p791 := eq_true p791
            replace q791 := eq_true q791
            go_wp2
            go_ret
            exact ⟨by first | rfl | (simp [errW_none, errW_some] <;> rfl) | (simp [*, errW_none, errW_some] <;> rfl), bl⟩
           ·
            rw [if_neg c73] at H
            have c73b0 : decide (a2 < (rd l0 2)) = false := decide_eq_false c73
            clear c73
            by_cases c74 : 0 < (l1.length : Int)
            ·
             rw [if_pos c74] at H
             have c74b0 : decide (0 < (l1.length : Int)) = true := decide_eq_true c74
             have c74b1 : decide (0 < l1.length) = true := decide_eq_true (by omega)
             clear c74
             by_cases c75 : t771 = (rd l1 0)
             ·
              rw [if_pos c75] at H
              have c75b0 : (t771 == (rd l1 0)) = true := beq_iff_eq.mpr c75
              have c75b1 : (t771 != (rd l1 0)) = false := bne_eq_false_iff_eq.mpr c75
              clear c75
              obtain rfl := Option.some.inj H
              have p789 : 0 ≤ (1 : Int) := (by omega)
              have q789 : 1 < (l0.length : Int) := of_decide_eq_true (by first | (with_reducible assumption) | assumption)
              obtain ⟨ad789, e789, hx789_0⟩ := Kd.at_int HR0.out 1 p789 q789
              cases e789
              (try simp only [show (1 : Int).toNat = 1 from rfl, Nat.reduceMul, Nat.reduceEqDiff, Go.Addr.add, ↓reduceIte] at hx789_0)
              have qi789 : (1 < l0.length) = True := eq_true (by omega)
              (try rw [show ((1 : Int)).toNat = 1 from rfl] at hx789_0)
              replace hx789_0 := (HB.out.cell (World.block_lt_of_cell? w _ hx789_0)).trans hx789_0
              replace p789 := eq_true p789
              replace q789 := eq_true q789
              have p791 : 0 ≤ (2 : Int) := (by omega)
              have q791 : 2 < (l0.length : Int) := of_decide_eq_true (by first | (with_reducible assumption) | assumption)
              obtain ⟨ad791, e791, hx791_0⟩ := Kd.at_int HR0.out 2 p791 q791
              obtain rfl : ad789 = ad791 := (by injection e791)
              (try simp only [show (2 : Int).toNat = 2 from rfl, Nat.reduceMul, Nat.reduceEqDiff, Go.Addr.add, ↓reduceIte] at hx791_0)
              have qi791 : (2 < l0.length) = True := eq_true (by omega)
              (try rw [show ((2 : Int)).toNat = 2 from rfl] at hx791_0)
              replace hx791_0 := (HB.out.cell (World.block_lt_of_cell? w _ hx791_0)).trans hx791_0
              replace p791 := eq_true p791
              replace q791 := eq_true q791
              have p792 : 0 ≤ (0 : Int) := (by omega)
              have q792 : 0 < (l1.length : Int) := of_decide_eq_true (by first | (with_reducible assumption) | assumption)
              obtain ⟨ad792, e792, hx792_0⟩ := Kd.at_int (Kd.V_reads' HO_1.out).2.2 0 p792 q792
              cases e792
              have qi792 : (0 < l1.length) = True := eq_true (by omega)
              (try rw [show ((0 : Int)).toNat = 0 from rfl] at hx792_0)
              (try rw [Addr.add_zero'] at hx792_0)
              replace p792 := eq_true p792
              replace q792 := eq_true q792
              go_wp2
              go_ret
              exact ⟨by first | rfl | (simp [errW_none, errW_some] <;> rfl) | (simp [*, errW_none, errW_some] <;> rfl), bl⟩
             ·
              rw [if_neg c75] at H
              exact absurd H (by simp)
            ·
             rw [if_neg c74] at H
             exact absurd H (by simp)
          ·
           rw [if_neg c72] at H
           exact absurd H (by simp)
        ·
         rw [if_neg c69] at H
         exact absurd H (by simp)
 ·
  replace c6 := Bool.eq_false_iff.mpr c6
  subst c6
  have H1 : (none) = some r := by rw [if_neg (show ¬ (false = true) by decide)] at H; exact H
  clear H
  have H := H1
  clear H1
  exact absurd H (by simp)

/-- THE ONE PURE STATEMENT of plenumlaw21_SequencerEnds: yours. -/
def plenumlaw21_SequencerEnds.Pure : Prop := ∀ (l0 : List Int) (l1 : List Int) (a2 : Int) (a3 : Int), l0.length ≤ maxLen → l0.length * 8 ≤ 140737488351232 → (∀ x ∈ l0, (Lit.int .i64 x).wf = true) → l1.length ≤ maxLen → l1.length * 8 ≤ 140737488351232 → (∀ x ∈ l1, (Lit.int .i64 x).wf = true) → (Lit.int .i64 a2).wf = true → (Lit.int .i64 a3).wf = true → ∃ k, plenumlaw21_SequencerEnds.f k l0 l1 a2 a3 = some true
theorem plenumlaw21_SequencerEnds.walk (P : plenumlaw21_SequencerEnds.Pure) (a0 : Option Addr) (len0 cap0 : Nat) (z0 : List Int) (a1 : Option Addr) (len1 cap1 : Nat) (z1 : List Int) (a2 : Int) (a3 : Int) (w : World) (w0 : (a0 = none ∧ len0 = 0 ∧ cap0 = 0 ∧ z0 = []) ∨ ∃ x, a0 = some x ∧ len0 ≤ cap0 ∧ cap0 ≤ maxLen ∧ z0.length = cap0 ∧ (∀ i, i < z0.length → w.cell? (x.add i) = some (.int .i64 (z0.getD i 0))) ∧ ∀ n ∈ z0, (Lit.int .i64 n).wf = true) (y0 : len0 * 8 ≤ 140737488351232) (w1 : (a1 = none ∧ len1 = 0 ∧ cap1 = 0 ∧ z1 = []) ∨ ∃ x, a1 = some x ∧ len1 ≤ cap1 ∧ cap1 ≤ maxLen ∧ z1.length = cap1 ∧ (∀ i, i < z1.length → w.cell? (x.add i) = some (.int .i64 (z1.getD i 0))) ∧ ∀ n ∈ z1, (Lit.int .i64 n).wf = true) (y1 : len1 * 8 ≤ 140737488351232) (w2 : (Lit.int .i64 a2).wf = true) (w3 : (Lit.int .i64 a3).wf = true) (hG : GW w) :
  Calls Tryd.prog 7 #[.slice a0 len0 cap0, .slice a1 len1 cap1, .int .i64 a2, .int .i64 a3] w fun e w' => e = .returned (.bool true) ∧ Below w.heap.size w w' := by
 obtain ⟨l0, rfl, hr0, hm0, hw0, hc0⟩ := ReadsInt.ofRowC w0
 obtain ⟨l1, rfl, hr1, hm1, hw1, hc1⟩ := ReadsInt.ofRowC w1
 obtain ⟨k, h⟩ := P l0 l1 a2 a3 hm0 y0 hw0 hm1 y1 hw1 w2 w3
 refine (plenumlaw21_SequencerEnds.calls k _ _ l0 (fun k_ => k_ < w.heap.size) _ _ l1 a2 a3 true w (Kd.C_of_reads (d := (0 : Int)) (h1 := fun _ => rfl) hr0) hc0 (Kd.V_mk hc1 (Kd.F_below (Kd.C_F (Kd.heap_int .i64) (Kd.C_of_reads (d := (0 : Int)) (h1 := fun _ => rfl) hr1)) (Below.refl _ _))) hG h).mono ?_
 rintro e w' ⟨rfl, hd⟩
 exact ⟨rfl, hd⟩

end Go.Proofs.YtcpncmjjbfbdhaaDoor.R
